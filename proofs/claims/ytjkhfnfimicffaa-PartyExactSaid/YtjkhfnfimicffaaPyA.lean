/- Flights and who waits for them, plainly. -/
import Derived.Test.YtjkhfnfimicffaaProg
set_option linter.unusedSimpArgs false
set_option linter.unusedVariables false
set_option linter.unusedSectionVars false
namespace Go.Proofs.Ytjkhfnfimicffaa
namespace Py
/-- a key: its kind, its texts, its digest, whether a blob -/
structure Ky where
  kind : Int
  repo : List UInt8
  tag : List UInt8
  dig : List UInt8
  blob : Bool
deriving DecidableEq
structure Fl where
  id : Int
  key : Ky
  who : List Int
structure P where
  fs : List Fl
  most : Int
  last : Int
def find (k : Ky) (fs : List Fl) : Option Fl := fs.find? fun f => f.key = k
def wh (x : Int) (fs : List Fl) : Option Fl := fs.find? fun f => f.who.contains x
def at_ (i : Int) (fs : List Fl) : Option Fl := fs.find? fun f => f.id = i
def upd (i : Int) (who : List Int) (fs : List Fl) : List Fl := fs.map fun f => if f.id = i then { f with who := who } else f
def del (i : Int) (fs : List Fl) : List Fl := fs.filter fun f => f.id ≠ i
def P.join (p : P) (k : Ky) (x : Int) : (Int × Bool × Int) × P :=
  match wh x p.fs with
  | some _ => ((0, false, 9), p)
  | none =>
    match find k p.fs with
    | some f => ((f.id, false, 0), { p with fs := upd f.id (f.who ++ [x]) p.fs })
    | none => if (p.fs.length : Int) ≥ p.most then ((0, false, 6), p) else ((p.last + 1, true, 0), { p with fs := p.fs ++ [⟨p.last + 1, k, [x]⟩], last := p.last + 1 })
def P.leave (p : P) (x : Int) : (Int × Bool) × P :=
  match wh x p.fs with
  | none => ((0, false), p)
  | some f =>
    let out := f.who.filter fun y => y ≠ x
    if out = [] then ((f.id, true), { p with fs := del f.id p.fs }) else ((f.id, false), { p with fs := upd f.id out p.fs })
def P.end_ (p : P) (i : Int) : List Int × P :=
  match at_ i p.fs with
  | none => ([], p)
  | some f => (f.who, { p with fs := del i p.fs })
/-- as it must be: numbers rise, keys differ, who waits waits for one -/
structure Good (p : P) : Prop where
  up : (p.fs.map Fl.id).Pairwise (· < ·)
  le : ∀ f ∈ p.fs, 1 ≤ f.id ∧ f.id ≤ p.last
  keys : (p.fs.map Fl.key).Nodup
  one : (p.fs.flatMap Fl.who).Nodup
  who : ∀ f ∈ p.fs, f.who ≠ []
  most : (p.fs.length : Int) ≤ p.most
  last : 0 ≤ p.last
section
variable {fs : List Fl}
theorem find_some {k : Ky} {f : Fl} (h : find k fs = some f) : f ∈ fs ∧ f.key = k := ⟨List.mem_of_find?_eq_some h, by simpa using List.find?_some h⟩
theorem find_none {k : Ky} (h : find k fs = none) : ∀ f ∈ fs, f.key ≠ k := fun f hf e => by
  have := List.find?_eq_none.1 h f hf
  simp [e] at this
theorem wh_some {x : Int} {f : Fl} (h : wh x fs = some f) : f ∈ fs ∧ x ∈ f.who := ⟨List.mem_of_find?_eq_some h, by simpa using List.find?_some h⟩
theorem wh_none {x : Int} (h : wh x fs = none) : ∀ f ∈ fs, x ∉ f.who := fun f hf e => by
  have := List.find?_eq_none.1 h f hf
  simp [e] at this
theorem at_some {i : Int} {f : Fl} (h : at_ i fs = some f) : f ∈ fs ∧ f.id = i := ⟨List.mem_of_find?_eq_some h, by simpa using List.find?_some h⟩
theorem at_none {i : Int} (h : at_ i fs = none) : ∀ f ∈ fs, f.id ≠ i := fun f hf e => by
  have := List.find?_eq_none.1 h f hf
  simp [e] at this
theorem up_same (hu : (fs.map Fl.id).Pairwise (· < ·)) {a b : Fl} (ha : a ∈ fs) (hb : b ∈ fs) (h : a.id = b.id) : a = b := by
  induction fs with
  | nil => cases ha
  | cons c r ih =>
    rw [List.map_cons, List.pairwise_cons] at hu
    rcases List.mem_cons.1 ha with rfl | ha' <;> rcases List.mem_cons.1 hb with rfl | hb'
    · rfl
    · have := hu.1 b.id (List.mem_map.2 ⟨b, hb', rfl⟩); omega
    · have := hu.1 a.id (List.mem_map.2 ⟨a, ha', rfl⟩); omega
    · exact ih hu.2 ha' hb'
theorem at_of (hu : (fs.map Fl.id).Pairwise (· < ·)) {f : Fl} (hf : f ∈ fs) : at_ f.id fs = some f := by
  cases h : at_ f.id fs with
  | none => exact absurd rfl (at_none h f hf)
  | some g => rw [up_same hu (at_some h).1 hf (at_some h).2]
theorem key_same (hk : (fs.map Fl.key).Nodup) {a b : Fl} (ha : a ∈ fs) (hb : b ∈ fs) (h : a.key = b.key) : a = b := by
  induction fs with
  | nil => cases ha
  | cons c r ih =>
    rw [List.map_cons, List.nodup_cons] at hk
    rcases List.mem_cons.1 ha with rfl | ha' <;> rcases List.mem_cons.1 hb with rfl | hb'
    · rfl
    · exact absurd (List.mem_map.2 ⟨b, hb', h.symm⟩) hk.1
    · exact absurd (List.mem_map.2 ⟨a, ha', h⟩) hk.1
    · exact ih hk.2 ha' hb'
theorem find_of (hk : (fs.map Fl.key).Nodup) {f : Fl} (hf : f ∈ fs) : find f.key fs = some f := by
  cases h : find f.key fs with
  | none => exact absurd rfl (find_none h f hf)
  | some g => rw [key_same hk (find_some h).1 hf (find_some h).2]
theorem who_same (ho : (fs.flatMap Fl.who).Nodup) {a b : Fl} {x : Int} (ha : a ∈ fs) (hb : b ∈ fs) (hxa : x ∈ a.who) (hxb : x ∈ b.who) : a = b := by
  induction fs with
  | nil => cases ha
  | cons c r ih =>
    rw [List.flatMap_cons, List.nodup_append] at ho
    rcases List.mem_cons.1 ha with rfl | ha' <;> rcases List.mem_cons.1 hb with rfl | hb'
    · rfl
    · exact absurd rfl (ho.2.2 x hxa x (List.mem_flatMap.2 ⟨b, hb', hxb⟩))
    · exact absurd rfl (ho.2.2 x hxb x (List.mem_flatMap.2 ⟨a, ha', hxa⟩))
    · exact ih ho.2.1 ha' hb'
theorem wh_of (ho : (fs.flatMap Fl.who).Nodup) {f : Fl} {x : Int} (hf : f ∈ fs) (hx : x ∈ f.who) : wh x fs = some f := by
  cases h : wh x fs with
  | none => exact absurd hx (wh_none h f hf)
  | some g => rw [who_same ho (wh_some h).1 hf (wh_some h).2 hx]
theorem who_nodup (ho : (fs.flatMap Fl.who).Nodup) {f : Fl} (hf : f ∈ fs) : f.who.Nodup := by
  induction fs with
  | nil => cases hf
  | cons c r ih =>
    rw [List.flatMap_cons, List.nodup_append] at ho
    rcases List.mem_cons.1 hf with rfl | hf
    · exact ho.1
    · exact ih ho.2.1 hf
theorem map_upd (i : Int) (w : List Int) : (upd i w fs).map Fl.id = fs.map Fl.id := by
  unfold upd
  rw [List.map_map]
  refine List.map_congr_left fun f _ => ?_
  simp only [Function.comp]
  split <;> rfl
theorem key_upd (i : Int) (w : List Int) : (upd i w fs).map Fl.key = fs.map Fl.key := by
  unfold upd
  rw [List.map_map]
  refine List.map_congr_left fun f _ => ?_
  simp only [Function.comp]
  split <;> rfl
theorem mem_upd {i : Int} {w : List Int} {f : Fl} (h : f ∈ upd i w fs) : ∃ g ∈ fs, f = if g.id = i then { g with who := w } else g := by
  obtain ⟨g, hg, rfl⟩ := List.mem_map.1 h
  exact ⟨g, hg, rfl⟩
theorem length_upd (i : Int) (w : List Int) : (upd i w fs).length = fs.length := List.length_map _
theorem mem_del {i : Int} {f : Fl} : f ∈ del i fs ↔ f ∈ fs ∧ f.id ≠ i := by
  unfold del
  rw [List.mem_filter]
  simp
theorem upd_none {i : Int} {w : List Int} (h : ∀ f ∈ fs, f.id ≠ i) : upd i w fs = fs := by
  unfold upd
  conv => rhs; rw [← List.map_id fs]
  refine List.map_congr_left fun f hf => ?_
  rw [if_neg (h f hf)]; rfl
theorem perm_flat (hu : (fs.map Fl.id).Pairwise (· < ·)) {f : Fl} (hf : f ∈ fs) (w : List Int) : ((upd f.id w fs).flatMap Fl.who).Perm (w ++ (del f.id fs).flatMap Fl.who) := by
  induction fs with
  | nil => cases hf
  | cons c r ih =>
    rw [List.map_cons, List.pairwise_cons] at hu
    rcases List.mem_cons.1 hf with rfl | hf'
    · have hr : ∀ g ∈ r, g.id ≠ f.id := fun g hg e => by have := hu.1 g.id (List.mem_map.2 ⟨g, hg, rfl⟩); omega
      have e1 : upd f.id w (f :: r) = { f with who := w } :: r := by
        have : upd f.id w (f :: r) = (if f.id = f.id then { f with who := w } else f) :: upd f.id w r := rfl
        rw [this, if_pos rfl, upd_none hr]
      have e2 : del f.id (f :: r) = r := by
        unfold del
        rw [List.filter_cons_of_neg (by simp)]
        exact List.filter_eq_self.2 fun g hg => by simpa using hr g hg
      rw [e1, e2, List.flatMap_cons]
    · have hc : c.id ≠ f.id := fun e => by have := hu.1 f.id (List.mem_map.2 ⟨f, hf', rfl⟩); omega
      have e1 : upd f.id w (c :: r) = c :: upd f.id w r := by
        have : upd f.id w (c :: r) = (if c.id = f.id then { c with who := w } else c) :: upd f.id w r := rfl
        rw [this, if_neg hc]
      have e2 : del f.id (c :: r) = c :: del f.id r := by
        unfold del
        rw [List.filter_cons_of_pos (by simpa using hc)]
      rw [e1, e2, List.flatMap_cons, List.flatMap_cons]
      refine ((ih hu.2 hf').append_left c.who).trans ?_
      rw [← List.append_assoc, ← List.append_assoc]
      exact List.perm_append_comm.append_right _
theorem perm_del (hu : (fs.map Fl.id).Pairwise (· < ·)) {f : Fl} (hf : f ∈ fs) : (fs.flatMap Fl.who).Perm (f.who ++ (del f.id fs).flatMap Fl.who) := by
  have h := perm_flat hu hf f.who
  have e : upd f.id f.who fs = fs := by
    unfold upd
    conv => rhs; rw [← List.map_id fs]
    refine List.map_congr_left fun g hg => ?_
    by_cases hi : g.id = f.id
    · rw [if_pos hi, up_same hu hg hf hi]; rfl
    · rw [if_neg hi]; rfl
  rwa [e] at h
end
section
variable {p : P}
theorem Good.upd_ (h : Good p) {f : Fl} (hf : f ∈ p.fs) {w : List Int} (hw : w ≠ []) (hn : (w ++ (del f.id p.fs).flatMap Fl.who).Nodup) : Good { p with fs := upd f.id w p.fs } := by
  refine ⟨by rw [map_upd]; exact h.up, fun g hg => ?_, by rw [key_upd]; exact h.keys, (perm_flat h.up hf w).nodup_iff.2 hn, fun g hg => ?_, by rw [length_upd]; exact h.most, h.last⟩
  · obtain ⟨c, hc, rfl⟩ := mem_upd hg
    have := h.le c hc
    split <;> exact this
  · obtain ⟨c, hc, rfl⟩ := mem_upd hg
    have := h.who c hc
    split
    · exact hw
    · exact this
theorem Good.del_ (h : Good p) (i : Int) : Good { p with fs := del i p.fs } := by
  have hs : (del i p.fs).Sublist p.fs := List.filter_sublist
  refine ⟨h.up.sublist (hs.map _), fun g hg => h.le g (hs.mem hg), h.keys.sublist (hs.map _), h.one.sublist ?_, fun g hg => h.who g (hs.mem hg), ?_, h.last⟩
  · have : ∀ {a b : List Fl}, a.Sublist b → (a.flatMap Fl.who).Sublist (b.flatMap Fl.who) := fun {a b} s => by
      induction s with
      | slnil => exact .slnil
      | cons c _ ih => rw [List.flatMap_cons]; exact ih.trans (List.sublist_append_right _ _)
      | cons_cons c _ ih => rw [List.flatMap_cons, List.flatMap_cons]; exact ih.append_left _
    exact this hs
  · have := hs.length_le
    have := h.most
    show ((del i p.fs).length : Int) ≤ p.most
    omega
theorem Good.join (h : Good p) (k : Ky) (x : Int) : Good (p.join k x).2 := by
  unfold P.join
  cases hw : wh x p.fs with
  | some f => exact h
  | none =>
    have hx := wh_none hw
    cases hk : find k p.fs with
    | some f =>
      have hf := (find_some hk).1
      have hp := perm_del h.up hf
      have hn := hp.nodup_iff.1 h.one
      refine h.upd_ hf (by simp) ?_
      have e : (f.who ++ [x] ++ (del f.id p.fs).flatMap Fl.who).Perm (x :: (f.who ++ (del f.id p.fs).flatMap Fl.who)) := by
        rw [List.append_assoc]
        exact List.perm_middle
      rw [e.nodup_iff, List.nodup_cons]
      refine ⟨fun hm => ?_, hn⟩
      obtain ⟨g, hg, hxg⟩ := List.mem_flatMap.1 (hp.mem_iff.2 hm)
      exact hx g hg hxg
    | none =>
      have hkn := find_none hk
      dsimp only
      split
      · exact h
      · rename_i hm
        refine ⟨?_, fun g hg => ?_, ?_, ?_, fun g hg => ?_, ?_, by have := h.last; show 0 ≤ p.last + 1; omega⟩
        · show ((p.fs ++ [_]).map Fl.id).Pairwise _
          rw [List.map_append, List.pairwise_append]
          refine ⟨h.up, List.pairwise_singleton _ _, fun a ha b hb => ?_⟩
          obtain ⟨g, hg, rfl⟩ := List.mem_map.1 ha
          have := h.le g hg
          simp at hb
          omega
        · show 1 ≤ g.id ∧ g.id ≤ p.last + 1
          have hl := h.last
          rcases List.mem_append.1 hg with hg | hg
          · have := h.le g hg; omega
          · rw [List.mem_singleton.1 hg]; dsimp only; omega
        · show ((p.fs ++ [_]).map Fl.key).Nodup
          rw [List.map_append, List.nodup_append]
          refine ⟨h.keys, by simp, fun a ha b hb => ?_⟩
          obtain ⟨g, hg, rfl⟩ := List.mem_map.1 ha
          simp at hb
          rw [hb]
          exact hkn g hg
        · show ((p.fs ++ [_]).flatMap Fl.who).Nodup
          rw [List.flatMap_append, List.nodup_append]
          refine ⟨h.one, by simp, fun a ha b hb e => ?_⟩
          obtain ⟨g, hg, hag⟩ := List.mem_flatMap.1 ha
          simp at hb
          exact hx g hg (by rw [← hb, ← e]; exact hag)
        · rcases List.mem_append.1 hg with hg | hg
          · exact h.who g hg
          · rw [List.mem_singleton.1 hg]; simp
        · show ((p.fs ++ [_]).length : Int) ≤ p.most
          simp
          omega
theorem Good.leave (h : Good p) (x : Int) : Good (p.leave x).2 := by
  unfold P.leave
  cases hw : wh x p.fs with
  | none => exact h
  | some f =>
    have hf := (wh_some hw).1
    dsimp only
    split
    · exact h.del_ _
    · rename_i ho
      refine h.upd_ hf ho ?_
      exact ((perm_del h.up hf).nodup_iff.1 h.one).sublist (List.filter_sublist.append_right _)
theorem Good.end_ (h : Good p) (i : Int) : Good (p.end_ i).2 := by
  unfold P.end_
  cases at_ i p.fs with
  | none => exact h
  | some f => exact h.del_ i
theorem good_new (m : Int) (hm : 0 ≤ m) : Good ⟨[], m, 0⟩ := ⟨.nil, fun f hf => (by cases hf), .nil, .nil, fun f hf => (by cases hf), hm, Int.le_refl _⟩
end
end Py
end Go.Proofs.Ytjkhfnfimicffaa

/- A disk that a law holds; the operations on it. -/
import Derived.Test.YtbiikihapfpkfaaPlkQ
set_option linter.unusedSimpArgs false
set_option linter.unusedVariables false
set_option linter.unusedSectionVars false
namespace Go.Proofs.Ytbiikihapfpkfaa
open Go Go.RowKit
namespace Plk
theorem sum_ins (f : F) (fs : List F) : sum (Nmd.ins F.name f fs) = sum fs + f.l.length := by
  induction fs with
  | nil => simp [sum, Nmd.ins]
  | cons y fs ih =>
    unfold Nmd.ins
    by_cases h : F.name y < F.name f
    · rw [if_pos h]
      simp [sum] at ih ⊢
      omega
    · rw [if_neg h]
      simp [sum]
      omega
theorem sum_del {fs : List F} {n : List UInt8} {f : F} (hu : Nmd.Up F.name fs) (h : Nmd.get F.name n fs = some f) : sum (Nmd.del F.name n fs) + f.l.length = sum fs := by
  have hp := hu.ne
  clear hu
  induction fs with
  | nil => cases h
  | cons y fs ih =>
    obtain ⟨h1, h2⟩ := List.pairwise_cons.1 hp
    rw [Nmd.get_cons] at h
    unfold Nmd.del
    rw [List.filter_cons]
    by_cases hy : y.name = n
    · rw [if_pos hy] at h
      injection h with h
      subst h
      have e1 : (y.name == n) = true := by rw [hy]; exact beq_self_eq_true n
      rw [e1, Bool.not_true, if_neg (by decide), List.filter_eq_self.2]
      · simp [sum]; omega
      · intro z hz
        rw [beq_eq_false_iff_ne.2 (fun e => h1 z hz (hy.trans e.symm))]; rfl
    · rw [if_neg hy] at h
      have e1 : (y.name == n) = false := beq_eq_false_iff_ne.2 hy
      rw [e1, Bool.not_false, if_pos rfl]
      have := ih h h2
      unfold Nmd.del at this
      simp [sum] at this ⊢
      omega
theorem sum_upd {fs : List F} {f x : F} (hu : Nmd.Up F.name fs) (h : f ∈ fs) (hx : x.name = f.name) : sum (Nmd.upd F.name x fs) + f.l.length = sum fs + x.l.length := by
  have hp := hu.ne
  clear hu
  induction fs with
  | nil => cases h
  | cons y fs ih =>
    obtain ⟨h1, h2⟩ := List.pairwise_cons.1 hp
    unfold Nmd.upd
    rw [List.map_cons]
    rcases List.mem_cons.1 h with rfl | h
    · have : ∀ z ∈ fs, (if z.name = x.name then x else z) = z := fun z hz => if_neg fun e => h1 z hz (hx.symm.trans e.symm)
      rw [if_pos hx.symm, (List.map_congr_left this).trans (List.map_id' fs)]
      simp [sum]; omega
    · have hne : y.name ≠ x.name := by rw [hx]; exact h1 f h
      rw [if_neg hne]
      have := ih h h2
      unfold Nmd.upd at this
      simp [sum] at this ⊢
      omega
theorem Good.begin_ {p : P} (h : Good p) (ns : List (List UInt8)) : Good ⟨p.fs, (p.h.begin ns).2⟩ := by
  obtain ⟨k1, k2, k3, _⟩ := begin_keep p.h ns
  refine ⟨h.up, ?_, ?_, h.safe, h.cnt, h.names, Int.le_trans h.ops k3⟩
  · show (p.h.begin ns).2.used = _
    rw [k2]; exact h.used
  · show (p.h.begin ns).2.used ≤ (p.h.begin ns).2.room ∧ (p.h.begin ns).2.room ≤ _
    rw [k1, k2]; exact h.room
theorem begin_names {s : H} {n : List UInt8} (h : (s.begin [n]).1 = 0) : isName n = true := by
  unfold H.begin at h
  by_cases hb : ([n].any fun n => !isName n) = true
  · rw [if_pos hb] at h; cases h
  · simpa using hb
theorem Good.create {p : P} (h : Good p) (n : List UInt8) : Good (p.create n).2 := by
  unfold P.create
  have hb := h.begin_ [n]
  by_cases h1 : (p.h.begin [n]).1 ≠ 0
  · rw [if_pos h1]; exact hb
  · rw [if_neg h1]
    by_cases h2 : (Nmd.get F.name n p.fs).isSome = true
    · rw [if_pos h2]; exact hb
    · rw [if_neg h2]
      by_cases h3 : 200 ≤ p.fs.length
      · rw [if_pos h3]; exact hb
      · rw [if_neg h3]
        have hg : Nmd.get F.name n p.fs = none := by simpa using h2
        refine ⟨h.up.ins (Nmd.get_none hg), ?_, hb.room, ?_, ?_, ?_, hb.ops⟩
        · show (p.h.begin [n]).2.used = ((sum (Nmd.ins F.name ⟨n, [], 0⟩ p.fs) : Nat) : Int)
          rw [sum_ins]; exact hb.used
        · intro f hf
          rcases Nmd.mem_ins.1 hf with rfl | hf
          · exact Nat.zero_le _
          · exact h.safe f hf
        · show (Nmd.ins F.name ⟨n, [], 0⟩ p.fs).length ≤ 200
          rw [Nmd.length_ins]; omega
        · intro f hf
          rcases Nmd.mem_ins.1 hf with rfl | hf
          · exact begin_names (Decidable.not_not.1 h1)
          · exact h.names f hf
theorem pfind_keep (p : P) (n : List UInt8) : (p.find n).2.1 = (p.h.begin [n]).2 := by
  unfold P.find
  split
  · rfl
  · split <;> rfl
theorem pfind_some {p : P} {n : List UInt8} {f : F} (h : (p.find n).2.2 = some f) : Nmd.get F.name n p.fs = some f ∧ f ∈ p.fs ∧ f.name = n := by
  unfold P.find at h
  by_cases he : (p.h.begin [n]).1 ≠ 0
  · rw [if_pos he] at h; cases h
  · rw [if_neg he] at h
    cases hg : Nmd.get F.name n p.fs with
    | none => rw [hg] at h; cases h
    | some y =>
      rw [hg] at h
      injection h with h
      subst h
      exact ⟨rfl, (Nmd.get_mem hg).1, (Nmd.get_mem hg).2⟩
theorem Good.upd {fs : List F} {s : H} (h : Good ⟨fs, s⟩) {f x : F} (hf : f ∈ fs) (hx : x.name = f.name) (hs : x.safe ≤ x.l.length) (s' : H) (hu : s'.used = s.used + x.l.length - f.l.length) (hr : s'.used ≤ s'.room ∧ s'.room ≤ 4194304) (ho : 0 ≤ s'.ops) : Good ⟨Nmd.upd F.name x fs, s'⟩ := by
  have hsum : sum (Nmd.upd F.name x fs) + f.l.length = sum fs + x.l.length := sum_upd h.up hf hx
  have hus : s.used = ((sum fs : Nat) : Int) := h.used
  refine ⟨h.up.upd x, ?_, hr, ?_, ?_, ?_, ho⟩
  · show s'.used = ((sum (Nmd.upd F.name x fs) : Nat) : Int)
    rw [hu]
    omega
  · intro y hy
    rcases Nmd.mem_upd hy with rfl | ⟨hy, _⟩
    · exact hs
    · exact h.safe y hy
  · show (Nmd.upd F.name x fs).length ≤ 200
    rw [Nmd.length_upd]; exact h.cnt
  · intro y hy
    rcases Nmd.mem_upd hy with rfl | ⟨hy, _⟩
    · rw [hx]; exact h.names f hf
    · exact h.names y hy
theorem Good.find_ {p : P} (h : Good p) (n : List UInt8) : Good ⟨p.fs, (p.find n).2.1⟩ := by
  rw [pfind_keep]; exact h.begin_ [n]
theorem Good.sync {p : P} (h : Good p) (n : List UInt8) : Good (p.sync n).2 := by
  unfold P.sync
  have hb := h.find_ n
  cases hf : (p.find n).2.2 with
  | none => exact hb
  | some f =>
    obtain ⟨_, hm, _⟩ := pfind_some hf
    exact hb.upd (x := ⟨f.name, f.l, f.l.length⟩) hm rfl (Nat.le_refl _) _ (by dsimp only; omega) hb.room hb.ops
theorem Good.append {p : P} (h : Good p) (n t : List UInt8) : Good (p.append n t).2 := by
  unfold P.append
  have hb := h.find_ n
  cases hf : (p.find n).2.2 with
  | none => exact hb
  | some f =>
    obtain ⟨_, hm, _⟩ := pfind_some hf
    dsimp only
    by_cases h1 : p.h.room - p.h.used < t.length
    · rw [if_pos h1]; exact hb
    · rw [if_neg h1]
      have hk := begin_keep p.h [n]
      have hk2 := pfind_keep p n
      rw [← hk2] at hk
      refine hb.upd (x := ⟨f.name, f.l ++ t, f.safe⟩) hm rfl ?_ { (p.find n).2.1 with used := (p.find n).2.1.used + t.length } ?_ ⟨?_, hb.room.2⟩ hb.ops
      · have := h.safe f hm
        show f.safe ≤ (f.l ++ t).length
        rw [List.length_append]; omega
      · dsimp only
        rw [List.length_append]; omega
      · dsimp only
        rw [hk.1, hk.2.1]; omega
theorem Good.delete {p : P} (h : Good p) (n : List UInt8) : Good (p.delete n).2 := by
  unfold P.delete
  have hb := h.find_ n
  cases hf : (p.find n).2.2 with
  | none => exact hb
  | some f =>
    obtain ⟨hg, hm, _⟩ := pfind_some hf
    have hsum := sum_del h.up hg
    have hus := hb.used
    have hro := hb.room
    dsimp only at hus hro ⊢
    refine ⟨h.up.del n, ?_, ⟨?_, hro.2⟩, ?_, ?_, ?_, hb.ops⟩
    · dsimp only; omega
    · dsimp only; omega
    · intro y hy; exact h.safe y (Nmd.mem_del.1 hy).1
    · have := List.length_filter_le (fun y => !(F.name y == n)) p.fs
      exact Nat.le_trans this h.cnt
    · intro y hy; exact h.names y (Nmd.mem_del.1 hy).1
theorem onL_names : ∀ (fs : List F) (ks : List Int), (onL fs ks).map F.name = fs.map F.name
  | [], _ => rfl
  | f :: fs, ks => by
    unfold onL
    by_cases h : f.safe = f.l.length
    · rw [if_pos h, List.map_cons, List.map_cons, onL_names]
    · rw [if_neg h, List.map_cons, List.map_cons, onL_names]; rfl
theorem onL_ok : ∀ (fs : List F) (ks : List Int), (∀ f ∈ fs, f.safe ≤ f.l.length) → (∀ f ∈ onL fs ks, f.safe ≤ f.l.length) ∧ sum (onL fs ks) ≤ sum fs
  | [], _, _ => ⟨fun f hf => (by cases hf), Nat.le_refl _⟩
  | f :: fs, ks, h => by
    have hf := h f List.mem_cons_self
    have ht := fun ks => onL_ok fs ks fun x hx => h x (List.mem_cons_of_mem _ hx)
    unfold onL
    by_cases hs : f.safe = f.l.length
    · rw [if_pos hs]
      refine ⟨fun x hx => ?_, ?_⟩
      · rcases List.mem_cons.1 hx with rfl | hx
        · exact hf
        · exact (ht ks).1 x hx
      · have := (ht ks).2
        simp [sum] at this ⊢
        omega
    · rw [if_neg hs]
      have hk := keptN_le f (max (ks.headD 0) 0).toNat hf
      refine ⟨fun x hx => ?_, ?_⟩
      · rcases List.mem_cons.1 hx with rfl | hx
        · show keptN f _ ≤ (f.l.take (keptN f _)).length
          rw [List.length_take]; omega
        · exact (ht ks.tail).1 x hx
      · have := (ht ks.tail).2
        have e1 : (lost f (max (ks.headD 0) 0).toNat).l.length ≤ f.l.length := by
          show (f.l.take _).length ≤ _
          rw [List.length_take]; omega
        simp only [sum, List.map_cons, List.sum_cons] at this ⊢
        omega
theorem Good.on {p : P} (h : Good p) (ks : List Int) : Good (p.on ks) := by
  unfold P.on
  by_cases ho : p.h.off = true
  · rw [if_pos ho]
    obtain ⟨h1, h2⟩ := onL_ok p.fs ks h.safe
    have hn := onL_names p.fs ks
    have hl : (onL p.fs ks).length = p.fs.length := by
      have := congrArg List.length hn
      simpa using this
    refine ⟨?_, rfl, ⟨?_, h.room.2⟩, h1, ?_, ?_, h.ops⟩
    · show Nmd.Up F.name (onL p.fs ks)
      rw [Nmd.up_names, hn]
      exact Nmd.up_names.1 h.up
    · have := h.used
      have := h.room.1
      dsimp only
      omega
    · show (onL p.fs ks).length ≤ 200
      rw [hl]; exact h.cnt
    · intro f hf
      have : f.name ∈ p.fs.map F.name := by
        rw [← hn]
        exact List.mem_map.2 ⟨f, hf, rfl⟩
      obtain ⟨g, hg, hgn⟩ := List.mem_map.1 this
      rw [← hgn]
      exact h.names g hg
  · rw [if_neg ho]; exact h
end Plk
end Go.Proofs.Ytbiikihapfpkfaa

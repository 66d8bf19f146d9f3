/- The document's disk beside the plain one: begin, Create, Delete. -/
import Derived.Test.YtbiikihapfpkfaaRefE
import Derived.Test.YtbiikihapfpkfaaPlkX
set_option linter.unusedSimpArgs false
set_option linter.unusedVariables false
set_option linter.unusedSectionVars false
namespace Go.Proofs.Ytbiikihapfpkfaa
open Go Go.RowKit
namespace Rk
open Plk (F P H isName sum)
structure Sim (p : P) (r : R) : Prop where
  l : r.l = p.fs
  room : r.room = p.h.room
  ops : r.ops = p.h.ops
  off : r.off = p.h.off
  kind : r.kind = p.h.ak
  arm : p.h.ak ≠ 0 → r.at_ = p.h.af ∧ p.h.al = p.h.af + min (max r.more 0) 1099511627776
  pow : p.h.ak = 2 → p.h.ops < p.h.af
  at0 : 0 ≤ r.at_ ∧ r.at_ < 4611686018427387904
theorem Sim.begin {p : P} {r : R} (h : Sim p r) (h0 : 0 ≤ p.h.ops) (h1 : p.h.ops ≤ 1000) (n t : List UInt8) : (r.begin n t).1 = (p.h.begin [n, t]).1 ∧ Sim ⟨p.fs, (p.h.begin [n, t]).2⟩ (r.begin n t).2 := by
  obtain ⟨rl, room, ops, at_, kind, more, off⟩ := r
  obtain ⟨fs, ⟨room', used, ops', off', ak, af, al⟩⟩ := p
  obtain ⟨k1, k2, k3, k4, k5, k6, k7, k8⟩ := h
  dsimp only at k1 k2 k3 k4 k5 k6 k7 k8 h0 h1
  subst k1 k2 k3 k4 k5
  unfold R.begin H.begin
  dsimp only
  by_cases hb : isName n = false ∨ isName t = false
  · have hb2 : ([n, t].any fun n => !isName n) = true := by
      rcases hb with h | h <;> simp [h]
    rw [if_pos hb, if_pos hb2]
    exact ⟨rfl, rfl, rfl, rfl, rfl, rfl, k6, k7, k8⟩
  · have hb2 : ¬ ([n, t].any fun n => !isName n) = true := by
      intro h
      apply hb
      simpa using h
    rw [if_neg hb, if_neg hb2]
    cases off with
    | true =>
      rw [if_pos rfl, if_pos rfl]
      exact ⟨rfl, rfl, rfl, rfl, rfl, rfl, k6, k7, k8⟩
    | false =>
      rw [if_neg Bool.false_ne_true, if_neg Bool.false_ne_true]
      by_cases c1 : kind = 0
      · rw [if_pos (.inl c1), if_pos (.inl c1)]
        exact ⟨rfl, rfl, rfl, rfl, rfl, rfl, fun e => absurd c1 e, fun e => by have e : kind = 2 := e; omega, k8⟩
      · obtain ⟨a1, a2⟩ := k6 c1
        subst a1
        by_cases c2 : ops + 1 < at_
        · rw [if_pos (.inr c2), if_pos (.inr (.inl c2))]
          exact ⟨rfl, rfl, rfl, rfl, rfl, rfl, k6, fun _ => c2, k8⟩
        · rw [if_neg (by omega)]
          by_cases c3 : kind = 2
          · have := k7 c3
            rw [if_pos c3, if_neg (by omega), if_pos c3]
            exact ⟨rfl, rfl, rfl, rfl, rfl, rfl, fun e => absurd rfl e, fun e => by have e : (0 : Int) = 2 := e; omega, k8⟩
          · rw [if_neg c3]
            by_cases c4 : ops + 1 - at_ ≤ max more 0
            · rw [if_pos c4, if_neg (by omega), if_neg c3]
              exact ⟨rfl, rfl, rfl, rfl, rfl, rfl, k6, fun e => absurd e c3, k8⟩
            · rw [if_neg c4, if_pos (by omega)]
              exact ⟨rfl, rfl, rfl, rfl, rfl, rfl, k6, fun e => absurd e c3, k8⟩
theorem begin_two (s : H) (n : List UInt8) : s.begin [n, n] = s.begin [n] := by
  unfold H.begin
  have : ([n, n].any fun n => !isName n) = ([n].any fun n => !isName n) := by simp
  rw [this]
/-- what a reference's operation leaves -/
def RP (b : Nat) (w : World) (v val : Value) (p' : P) (e : Ending) (w' : World) : Prop := e = .returned val ∧ ∃ v' r', RD w' b v' r' ∧ Sim p' r' ∧ But b w w' ∧ Newer w v v'
structure Both (w : World) (b : Nat) (v : Value) (r : R) (p : P) : Prop where
  rd : RD w b v r
  sim : Sim p r
  good : Plk.Good p
  ops : p.h.ops ≤ 1000
theorem begin1 {w : World} {b : Nat} {v : Value} {r : R} {p : P} (h : Both w b v r p) (n : List UInt8) :
    Calls Try.prog 49 #[.pointer (some ⟨b, 0, none⟩), .agg #[.string ⟨n.toArray⟩, .string ⟨n.toArray⟩]] w fun e w' => e = .returned (.int .i64 (p.h.begin [n]).1) ∧ ∃ r', RD w' b v r' ∧ Sim ⟨p.fs, (p.h.begin [n]).2⟩ r' ∧ But b w w' := by
  have ho := h.ops
  have h0 := h.good.ops
  obtain ⟨e1, e2⟩ := h.sim.begin h0 ho n n
  rw [begin_two] at e1 e2
  refine (begin_any w b v r h.rd n n (by rw [h.sim.ops]; exact h0) (by rw [h.sim.ops]; omega) h.sim.at0.1 h.sim.at0.2).mono ?_
  rintro e w' ⟨rfl, h2, h3⟩
  exact ⟨by rw [e1], _, h2, e2, h3⟩
theorem begin2 {w : World} {b : Nat} {v : Value} {r : R} {p : P} (h : Both w b v r p) (n t : List UInt8) :
    Calls Try.prog 49 #[.pointer (some ⟨b, 0, none⟩), .agg #[.string ⟨n.toArray⟩, .string ⟨t.toArray⟩]] w fun e w' => e = .returned (.int .i64 (p.h.begin [n, t]).1) ∧ ∃ r', RD w' b v r' ∧ Sim ⟨p.fs, (p.h.begin [n, t]).2⟩ r' ∧ But b w w' := by
  have ho := h.ops
  have h0 := h.good.ops
  obtain ⟨e1, e2⟩ := h.sim.begin h0 ho n t
  refine (begin_any w b v r h.rd n t (by rw [h.sim.ops]; exact h0) (by rw [h.sim.ops]; omega) h.sim.at0.1 h.sim.at0.2).mono ?_
  rintro e w' ⟨rfl, h2, h3⟩
  exact ⟨by rw [e1], _, h2, e2, h3⟩
/-- the place of a name, and what the plain disk does there -/
theorem place_get {fs : List F} (hu : Nmd.Up F.name fs) (n : List UInt8) : (Nmd.get F.name n fs = none ∧ plV fs n = -1) ∨ ∃ k f, ∃ hk : k < fs.length, fs[k] = f ∧ Nmd.get F.name n fs = some f ∧ plV fs n = (k : Int) ∧ fs.take k ++ fs.drop (k + 1) = Nmd.del F.name n fs ∧ ∀ x : F, x.name = f.name → fs.set k x = Nmd.upd F.name x fs := by
  cases hp : place fs n with
  | none =>
    refine .inl ⟨?_, by unfold plV; rw [hp]⟩
    unfold place at hp
    rw [List.findIdx?_eq_none_iff] at hp
    exact Nmd.get_none_of fun y hy e => by have := hp y hy; simp [e] at this
  | some k =>
    unfold place at hp
    obtain ⟨hk, h1, h2⟩ := List.findIdx?_eq_some_iff_getElem.1 hp
    have h1 : fs[k].name = n := by simpa using h1
    have hpv : plV fs n = (k : Int) := by unfold plV place; rw [hp]
    have hg : Nmd.get F.name n fs = some fs[k] := by
      cases hg : Nmd.get F.name n fs with
      | none => exact absurd h1 (Nmd.get_none hg _ (List.getElem_mem hk))
      | some y => rw [hu.same y (Nmd.get_mem hg).1 _ (List.getElem_mem hk) ((Nmd.get_mem hg).2.trans h1.symm)]
    refine .inr ⟨k, fs[k], hk, rfl, hg, hpv, ?_, fun x hx => ?_⟩
    · have hd : ∀ j (hj : j < fs.length), j ≠ k → fs[j].name ≠ n := fun j hj hjk e => by
        have hp2 := List.pairwise_iff_getElem.1 hu.ne
        rcases Nat.lt_or_gt_of_ne hjk with h | h
        · exact hp2 j k hj hk h (e.trans h1.symm)
        · exact hp2 k j hk hj h (h1.trans e.symm)
      have key : ∀ l : List F, (∀ y ∈ l, y.name ≠ n) → l.filter (fun y => !(y.name == n)) = l := fun l hl => List.filter_eq_self.2 fun y hy => by
        rw [beq_eq_false_iff_ne.2 (hl y hy)]; rfl
      unfold Nmd.del
      conv => rhs; rw [← List.take_append_drop k fs, List.drop_eq_getElem_cons hk]
      rw [List.filter_append, List.filter_cons, if_neg (by simp [h1]), key, key]
      · intro y hy
        obtain ⟨j, hj, rfl⟩ := List.mem_iff_getElem.1 hy
        rw [List.getElem_drop]
        exact hd _ _ (by omega)
      · intro y hy
        obtain ⟨j, hj, rfl⟩ := List.mem_iff_getElem.1 hy
        rw [List.length_take] at hj
        rw [List.getElem_take]
        exact hd _ _ (by omega)
    · have hx : x.name = fs[k].name := hx
      have hne := List.pairwise_iff_getElem.1 hu.ne
      unfold Nmd.upd
      apply List.ext_getElem
      · rw [List.length_set, List.length_map]
      · intro j hj1 hj2
        rw [List.length_set] at hj1
        rw [List.getElem_set, List.getElem_map]
        by_cases hjk : k = j
        · subst hjk
          rw [if_pos rfl, if_pos hx.symm]
        · have hnx : ¬ fs[j].name = x.name := fun e => by
            have e := e.trans hx
            rcases Nat.lt_or_gt_of_ne hjk with h | h
            · exact hne k j hk hj1 h e.symm
            · exact hne j k hj1 hk h e
          rw [if_neg hjk, if_neg hnx]
theorem Both.placed {w : World} {b : Nat} {v : Value} {r : R} {fs : List F} (h : RD w b v r) (hl : r.l = fs) (hc : fs.length ≤ 200) (n : List UInt8) :
    Calls Try.prog 50 #[.pointer (some ⟨b, 0, none⟩), .string ⟨n.toArray⟩] w fun e w' => e = .returned (.int .i64 (plV fs n)) ∧ w' = w := by
  subst hl
  exact place_any w b v r h n hc
theorem Sim.with_ {p : P} {r : R} (h : Sim p r) (fs : List F) (u : Int) : Sim ⟨fs, { p.h with used := u }⟩ { r with l := fs } := ⟨rfl, h.room, h.ops, h.off, h.kind, h.arm, h.pow, h.at0⟩
set_option maxRecDepth 100000 in
set_option maxHeartbeats 1000000 in
theorem create_ref {w : World} {b : Nat} {v : Value} {r : R} {p : P} (h : Both w b v r p) (n : List UInt8) :
    Calls Try.prog 28 #[.pointer (some ⟨b, 0, none⟩), .string ⟨n.toArray⟩] w (RP b w v (.int .i64 (p.create n).1) (p.create n).2) := by
  have hb := begin1 h n
  obtain ⟨A, cap, hv⟩ := h.rd.row.len
  rw [h.sim.l] at hv
  subst hv
  have hu := h.good.up
  have hcn := h.good.cnt
  obtain ⟨fs, s⟩ := p
  dsimp only at *
  generalize hres : P.create ⟨fs, s⟩ n = res
  unfold P.create at hres
  dsimp only at hres
  generalize s.begin [n] = sb at hb hres
  obtain ⟨er, s1⟩ := sb
  dsimp only at hb hres
  have hrk := Lib.hid hres
  clear hres h
  by_cases he : er = 0
  · subst he
    have hrs := hrk.out
    rw [if_neg (fun h => h rfl)] at hrs
    rcases place_get hu n with ⟨hg, hpv⟩ | ⟨k, f, hk, hf, hg, hpv, hd, hx⟩
    · rw [hg, if_neg (by decide)] at hrs
      by_cases h2 : 200 ≤ fs.length
      · rw [if_pos h2] at hrs
        subst hrs
        go_enter Try.func28, Try.ntmps28
        go_wp2_with (first
          | (go_at_call 49; refine hb.mono ?_; rintro e w1 ⟨rfl, r1, hR1, hS1, hB1⟩; have hpl := Both.placed hR1 hS1.l hcn n; rw [hpv] at hpl; have c0 := hR1.c.1)
          | (go_at_call 50; refine hpl.mono ?_; rintro e _ ⟨rfl, rfl⟩))
        go_ret
        exact ⟨rfl, _, r1, hR1, hS1, hB1, Newer.refl _ _⟩
      · rw [if_neg h2] at hrs
        subst hrs
        have h2 : fs.length < 200 := by omega
        have hnn := Nmd.get_none hg
        go_enter Try.func28, Try.ntmps28
        go_wp2_with (first
          | (go_at_call 49; refine hb.mono ?_; rintro e w1 ⟨rfl, r1, hR1, hS1, hB1⟩; have hpl := Both.placed hR1 hS1.l hcn n; rw [hpv] at hpl; have c0 := hR1.c.1; have HL := Lib.hid hS1.l)
          | (go_at_call 50; refine hpl.mono ?_; rintro e _ ⟨rfl, rfl⟩)
          | (go_at_call 51; refine (put_any _ b _ r1 hR1 ⟨n, [], 0⟩ (by rw [HL.out]; exact hnn) (by rw [HL.out]; exact hcn)).mono ?_; rintro e w2 ⟨rfl, v2, hR2, hB2, hN2⟩))
        go_ret
        refine ⟨rfl, v2, _, hR2, ?_, hB1.trans hB2, (Newer.refl _ _).trans hN2 hB1.size⟩
        rw [HL.out]
        exact hS1.with_ _ _
    · rw [hg, if_pos (show (some f).isSome = true from rfl)] at hrs
      subst hrs
      go_enter Try.func28, Try.ntmps28
      go_wp2_with (first
        | (go_at_call 49; refine hb.mono ?_; rintro e w1 ⟨rfl, r1, hR1, hS1, hB1⟩; have hpl := Both.placed hR1 hS1.l hcn n; rw [hpv] at hpl)
        | (go_at_call 50; refine hpl.mono ?_; rintro e _ ⟨rfl, rfl⟩))
      go_ret
      exact ⟨rfl, _, r1, hR1, hS1, hB1, Newer.refl _ _⟩
  · have hrs := hrk.out
    rw [if_pos he] at hrs
    subst hrs
    have he' : (er == 0) = false := beq_eq_false_iff_ne.2 he
    go_enter Try.func28, Try.ntmps28
    go_wp2_with (go_at_call 49; refine hb.mono ?_; rintro e w1 ⟨rfl, r1, hR1, hS1, hB1⟩)
    go_ret
    exact ⟨rfl, _, r1, hR1, hS1, hB1, Newer.refl _ _⟩
end Rk
end Go.Proofs.Ytbiikihapfpkfaa

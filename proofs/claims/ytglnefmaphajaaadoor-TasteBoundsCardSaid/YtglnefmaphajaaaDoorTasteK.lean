/- Chapter 17: qualities and the best, plain. -/
import Derived.Test.YtglnefmaphajaaaDoorTasteA
set_option linter.unusedSimpArgs false
set_option linter.unusedVariables false
set_option linter.unusedSectionVars false
namespace Go.Proofs.YtglnefmaphajaaaDoor
open Go.RowKit
namespace Tst
open Fld FloatP
structure OkQ (q : Nat) : Prop where
  c : cls q = 5 ∨ cls q = 6
  k : key q ≤ key ONE
  b : q < 18446744073709551616
theorem OkQ.facts {q : Nat} (h : OkQ q) : isNan q = false ∧ 0 ≤ key q ∧ (cls q = 5 → key q = 0) ∧ (cls q = 6 → 0 < key q) := by
  rcases cls_spec q with h1 | h1 | h1 | h1 | ⟨h1, h2, h3, h4, _⟩ | ⟨h1, h2, h3, h4, h5, _⟩ | h1
  · rcases h.c with c | c <;> (rw [h1.1] at c; cases c)
  · rcases h.c with c | c <;> (rw [h1.1] at c; cases c)
  · rcases h.c with c | c <;> (rw [h1.1] at c; cases c)
  · rcases h.c with c | c <;> (rw [h1.1] at c; cases c)
  · exact ⟨h2, (by omega), fun _ => h3, fun e => (by rw [h1] at e; cases e)⟩
  · exact ⟨h2, (by omega), (fun e => by rw [h1] at e; cases e), fun _ => (by omega)⟩
  · rcases h.c with c | c <;> (rw [h1.1] at c; cases c)
theorem okQ_zero : OkQ 0 := ⟨by decide, by decide, by decide⟩
theorem okQ_one : OkQ ONE := ⟨by decide, by decide, by decide⟩
theorem less_key {a b : Nat} (ha : OkQ a) (hb : OkQ b) : less a b = decide (key a < key b) := by
  obtain ⟨a1, a2, a3, a4⟩ := ha.facts
  obtain ⟨b1, b2, b3, b4⟩ := hb.facts
  unfold less
  by_cases hc : cls a = cls b
  · rw [if_neg (by simpa using hc), Bool.eq_iff_iff, lt_iff, decide_eq_true_iff]
    exact ⟨fun h => h.2.2, fun h => ⟨a1, b1, h⟩⟩
  · rw [if_pos hc]
    refine decide_eq_decide.2 ?_
    rcases ha.c with c1 | c1 <;> rcases hb.c with c2 | c2
    · exact absurd (c1.trans c2.symm) hc
    · have := a3 c1; have := b4 c2; omega
    · have := a4 c1; have := b3 c2; omega
    · exact absurd (c1.trans c2.symm) hc
theorem gt_key {a b : Nat} (ha : OkQ a) (hb : OkQ b) : (Ieee.double.order a b == some .gt) = decide (key b < key a) := by
  rw [Bool.eq_iff_iff, gt_iff, decide_eq_true_iff]
  exact ⟨fun h => h.2.2, fun h => ⟨ha.facts.1, hb.facts.1, h⟩⟩
theorem eq_key {a b : Nat} (ha : OkQ a) (hb : OkQ b) : (Ieee.double.order a b == some .eq) = decide (key a = key b) := by
  rw [Bool.eq_iff_iff, eq_iff, decide_eq_true_iff]
  exact ⟨fun h => h.2.2, fun h => ⟨ha.facts.1, hb.facts.1, h⟩⟩
theorem clean_cls (r : Nat) : cls (clean r) ≠ 4 := by
  unfold clean
  split
  · decide
  split
  · decide
  · assumption
theorem key_one : key ONE < (INF : Int) := by decide
theorem okQ_qv {l : List UInt8} (h : isW l = true) : OkQ (qv (wn l) (wk l)) := by
  obtain ⟨hle, hk3⟩ := wn_le h
  obtain ⟨r, _, _, hv, h0, h1, hn, hb⟩ := good_spec (good_all _ _ hk3 hle)
  have h4 : cls (qv (wn l) (wk l)) ≠ 4 := by rw [hv]; exact clean_cls r
  generalize qv (wn l) (wk l) = q at *
  have n0 : isNan 0 = false := by decide
  have n1 : isNan ONE = false := by decide
  have k0 : ¬ key q < key 0 := fun h => by
    have := lt_iff.2 ⟨hn, n0, h⟩
    rw [h0] at this; cases this
  have k1 : ¬ key ONE < key q := fun h => by
    have := gt_iff.2 ⟨hn, n1, h⟩
    rw [show (4607182418800017408 : Nat) = ONE from rfl] at h1
    rw [h1] at this; cases this
  rw [key_zero] at k0
  refine ⟨?_, by omega, hb⟩
  have hko := key_one
  rcases cls_spec q with h1 | h1 | h1 | h1 | h1 | h1 | h1
  · rw [h1.2] at hn; cases hn
  · have : (0 : Int) < (INF : Int) := by decide
    have := h1.2.2.1
    omega
  · have := h1.2.2.1
    have := h1.2.2.2.1
    omega
  · exact absurd h1.1 h4
  · exact .inl h1.1
  · exact .inr h1.1
  · have := h1.2.2.1
    omega
theorem okQ_weight : ∀ ps : List (List UInt8 × List UInt8), OkQ (weightP ps).1
  | [] => okQ_one
  | p :: ps => by
    rw [weightP_cons]
    split
    · split
      · next h => exact okQ_qv h
      · exact okQ_zero
    · exact okQ_weight ps
theorem okQ_step {kind : List UInt8} {st : Nat × Nat} {x : List UInt8} (h : OkQ st.1) : OkQ (stepQ kind st x).1 := by
  unfold stepQ
  split
  · exact h
  · next ps _ =>
    split
    · exact h
    · show OkQ (if _ then _ else _)
      split
      · exact okQ_weight ps
      · exact h
theorem okQ_fold (kind : List UInt8) : ∀ (xs : List (List UInt8)) (st : Nat × Nat), OkQ st.1 → OkQ (xs.foldl (stepQ kind) st).1
  | [], _, h => h
  | x :: xs, st, h => okQ_fold kind xs _ (okQ_step h)
theorem okQ_qual (fs : List Fld) (kind : List UInt8) : OkQ (qualP fs kind) := by
  unfold qualP
  split
  · exact okQ_zero
  split
  · exact okQ_one
  · exact okQ_fold kind _ _ okQ_zero
def qk (fs : List Fld) (ks : List ByteArray) (i : Nat) : Nat := match ks[i]? with
  | none => 0
  | some x => qualP fs x.data.toList
theorem okQ_qk (fs : List Fld) (ks : List ByteArray) (i : Nat) : OkQ (qk fs ks i) := by
  unfold qk
  split
  · exact okQ_zero
  · exact okQ_qual _ _
theorem qk_at (fs : List Fld) {ks : List ByteArray} {i : Nat} {x : ByteArray} (h : ks[i]? = some x) : qk fs ks i = qualP fs x.data.toList := by unfold qk; rw [h]
structure BestAt (fs : List Fld) (ks : List ByteArray) (k : Nat) (st : Int × Nat) : Prop where
  ok : OkQ st.2
  lo : -1 ≤ st.1
  hi : st.1 < (k : Int)
  none : st.1 = -1 → st.2 = 0
  some : ∀ j : Nat, st.1 = (j : Int) → st.2 = qk fs ks j ∧ 0 < key st.2
  top : ∀ i : Nat, i < k → key (qk fs ks i) ≤ key st.2
  first : ∀ i : Nat, (i : Int) < st.1 → key (qk fs ks i) < key st.2
theorem best_at (fs : List Fld) (ks : List ByteArray) : ∀ k, k ≤ ks.length → BestAt fs ks k (stB fs ks k)
  | 0, _ => ⟨okQ_zero, Int.le_refl _, by show (-1 : Int) < _; omega, fun _ => rfl, fun j h => by have h : (-1 : Int) = (j : Int) := h; omega, fun i h => by omega, fun i h => by have h : (i : Int) < -1 := h; omega⟩
  | k + 1, hk => by
    have ih := best_at fs ks k (by omega)
    have hkx : ks[k]? = .some ks[k] := List.getElem?_eq_getElem (by omega)
    have hq := qk_at fs hkx
    rw [stB_succ fs hkx, ← hq]
    have okq := okQ_qk fs ks k
    rw [less_key ih.ok okq]
    by_cases hl : key (stB fs ks k).2 < key (qk fs ks k)
    · rw [decide_eq_true hl, if_pos rfl]
      refine ⟨okq, by show (-1 : Int) ≤ (k : Int); omega, by show (k : Int) < ((k + 1 : Nat) : Int); omega, fun h => by have h : (k : Int) = -1 := h; omega, fun j h => ?_, fun i h => ?_, fun i h => ?_⟩
      · have h : (k : Int) = (j : Int) := h
        have : j = k := by omega
        subst this
        have := ih.ok.facts.2.1
        exact ⟨rfl, by show 0 < key (qk fs ks j); omega⟩
      · rcases Nat.lt_or_ge i k with h1 | h1
        · have := ih.top i h1
          show key (qk fs ks i) ≤ key (qk fs ks k); omega
        · have : i = k := by omega
          subst this; exact Int.le_refl _
      · have h : (i : Int) < (k : Int) := h
        have := ih.top i (by omega)
        show key (qk fs ks i) < key (qk fs ks k); omega
    · rw [decide_eq_false hl, if_neg (by decide)]
      refine ⟨ih.ok, ih.lo, by have := ih.hi; omega, ih.none, ih.some, fun i h => ?_, ih.first⟩
      rcases Nat.lt_or_ge i k with h1 | h1
      · exact ih.top i h1
      · have : i = k := by omega
        subst this; omega
end Tst
end Go.Proofs.YtglnefmaphajaaaDoor

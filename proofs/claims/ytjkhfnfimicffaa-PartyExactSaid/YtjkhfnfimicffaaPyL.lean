/- Flights: the numbers of a map's keys, in their order (maps.Keys). -/
import Derived.Test.YtjkhfnfimicffaaPyJ
import Derived.Sort.MapsRangeIn
import Derived.RangeFuncGives
import Derived.Shelf.SlIter.Collect
set_option linter.unusedSimpArgs false
set_option linter.unusedVariables false
set_option linter.unusedSectionVars false
namespace Go.Proofs.Ytjkhfnfimicffaa
open Go Go.RowKit Go.Proofs Go.Sort Go.Lib Go.Shelf
namespace Py
theorem keyI_inv {key : Value} {kl : Lit} (h : keyOf Try.prog 3 key = some kl) : ∃ x : Int, key = .int .i64 x ∧ kl = .int .i64 x := by
  cases key <;> simp [keyOf, Try.underlying3, mapKey] at h
  obtain ⟨⟨rfl, _⟩, rfl⟩ := h
  exact ⟨_, rfl, rfl⟩
/-- the keys met so far -/
structure Met (D0 : DataW Unit) (left : Lit → Bool) (ss : List Int) : Prop where
  nodup : ss.Nodup
  mem : ∀ x, x ∈ ss ↔ (Maps.has D0 (.int .i64 x) = true ∧ left (.int .i64 x) = false)
theorem Met.start (D0 : DataW Unit) : Met D0 (Maps.has D0) [] := ⟨List.nodup_nil, fun x => by cases Maps.has D0 (.int .i64 x) <;> simp⟩
theorem Met.step {D0 : DataW Unit} {left : Lit → Bool} {ss : List Int} (h : Met D0 left ss) {x : Int} (hlk : left (.int .i64 x) = true) (hd : Maps.has D0 (.int .i64 x) = true) : Met D0 (fun z => left z && !z.sameKey (.int .i64 x)) (ss ++ [x]) := by
  have hx : x ∉ ss := fun hm => by have := ((h.mem x).1 hm).2; rw [hlk] at this; cases this
  refine ⟨List.nodup_append.2 ⟨h.nodup, by simp, fun a ha b hb e => hx (by simp at hb; rw [← hb, ← e]; exact ha)⟩, fun y => ?_⟩
  rw [List.mem_append, List.mem_singleton, h.mem]
  by_cases hy : y = x
  · subst hy
    have : (Lit.int .i64 y).sameKey (.int .i64 y) = true := WideAt.sameKey_self (show WideAt.IsKeyLit (.int .i64 y) from trivial)
    simp [hd, this]
  · have : (Lit.int .i64 y).sameKey (.int .i64 x) = false := by
      cases hs : (Lit.int .i64 y).sameKey (.int .i64 x) with
      | false => rfl
      | true => exact absurd (by have := WideAt.sameKey_eq hs; injection this) hy
    simp [hy, this]
set_option maxRecDepth 100000 in
set_option maxHeartbeats 1000000 in
/-- the closure of maps.Keys: each key comes once -/
theorem keys1I (n : Nat) (hn : 1 ≤ n) (l Bm b nn : Nat) (D0 : DataW Unit) (J : List Int → World → Prop)
    (hY : ∀ pre x W, J pre W → pre.length < Maps.size D0 → YieldAt Fence.wide (n - 1) Try.prog l #[.int .i64 x] W fun e W' => e = .returned (.bool true) ∧ J (pre ++ [x]) W' ∧ KeepsWalks W W')
    (W : World) (hJ : AbidesFrom W.heap.size J) (hm : W.cell? ⟨Bm, 0, none⟩ = some (.map (some b))) (hown : W.ownsMap Try.prog 3 ptrR b nn D0) (h0 : J [] W) :
    CallsIn Fence.wide n Try.prog 37 #[.func (.yield l) #[] #[], .pointer (some ⟨Bm, 0, none⟩)] W fun e W' => (∃ v, e = .returned v) ∧ ∃ ss : List Int, Met D0 (fun _ => false) ss ∧ J ss W' := by
  have hF : Fence.wide.fn 37 := trivial
  refine callsIn_of_wp Try.func37 rfl hF ?_ rfl
  simp only [Try.ntmps37, List.size_toArray, List.length_cons, List.length_nil, Nat.reduceAdd, Nat.reduceSub, Array.replicate_succ, Array.replicate_zero, List.push_toArray, List.append_toArray, List.nil_append, List.cons_append]
  gi_wp2_with (first
    | (gi_at_range; refine wpListIn_range_own _ rfl _ 59 rfl 3 66 kun Try.underlying59 _ b nn _ rfl hown ?_; intro w0 hrg0 hg0 hs0)
    | gi_in)
  go_frame
  gi_loopw [3] (fun _ wr => ∃ (left : Lit → Bool) (cnt : Nat) (ss : List Int), wr.ranges Try.prog 3 ptrR b W.heap.size nn D0 left cnt ∧ ss.length + cnt ≤ Maps.size D0 ∧ Met D0 left ss ∧ J ss wr)
    (fun _ wr => wr.rangeLeft b W.heap.size)
  case atStart => exact ⟨_, _, [], hrg0, by simp, Met.start D0, hJ [] W w0 none h0 hg0 (fun r e => by cases e)⟩
  case round =>
    obtain ⟨left, cnt, ss, hrg, hcs, hC, hJs⟩ := hrel
    gi_wp2_with (first
      | (gi_at_next; refine wpListIn_next_ranges _ rfl _ rfl 3 kun ptrR (Value.int .i64) id (fun key kl hk => by obtain ⟨x, hx, _⟩ := keyI_inv hk; exact ⟨x, hx⟩) (fun v _ _ => ⟨v, rfl⟩) b W.heap.size nn _ _ _ rfl hrg ?_ ?_)
      | gi_in)
    · intro hc0 hl0
      gi_wp2
      go_end0
      refine ⟨⟨_, rfl⟩, ss, ?_, hJs⟩
      have e : left = fun _ => false := funext hl0
      rw [e] at hC
      exact hC
    · intro x c kl yd yp w2 cnt2 hkey hlk hv hat hrg2 hlt hg2 hs2 hen
      obtain ⟨x', ex, rfl⟩ := keyI_inv hkey
      have ex' : x = x' := by injection ex
      subst ex'
      have hJ2 : J ss w2 := hJ ss _ w2 (some W.heap.size) hJs hg2 (fun r e => by cases e; exact ⟨Nat.le_refl _, hrg.iter_walk⟩)
      obtain ⟨fn, tmps, assign, body, hy, hR⟩ := hY ss x w2 hJ2 (by omega)
      clear hs2
      gi_wp2
      refine hR.mono ?_
      rintro e W3 ⟨rfl, hJ3, hk3⟩
      gi_wp2
      have hrg3 := hrg2.of_walks hk3
      go_roundw
      case rel => exact ⟨_, cnt2, ss ++ [x], hrg3, by simp; omega, hC.step hlk (Maps.has_true_of_atKey hat), hJ3⟩
      case measure => rw [hrg3.left_eq, hrg.left_eq]; exact hlt
end Py
end Go.Proofs.Ytjkhfnfimicffaa

/- slices.Delete and slices.Insert over tickets. -/
import Derived.Test.YtcfdlfedmbmidaaDoorTkH
import Derived.StillTailTactics
set_option linter.unusedSimpArgs false
set_option linter.unusedVariables false
set_option linter.unusedSectionVars false
namespace Go.Proofs.YtcfdlfedmbmidaaDoor
open Go Go.RowKit
namespace Tk
def fromA (g o k cap : Nat) : Addr := if cap = k then ⟨g, o, none⟩ else ⟨g, o + k * 38, none⟩
theorem elemT : Tryd.prog.underlying 42 = some (.slice (Tryd.prog.elem 42)) := by kernel_rfl
theorem sizeE (w : World) : (Go.sizeOf (Tryd.prog.elem 42)).run Tryd.prog w = .ok 38 w := by as_aux_lemma => kernel_rfl
theorem exec_upto {ρ : Operand → Value} {o : Oper} (x hi : Operand) (ho : o.op = .slice 42 x none (some hi) none) {g n cap k : Nat} (hx : ρ x = .slice (some ⟨g, 0, none⟩) n cap) (hh : ρ hi = .int .i64 (k : Int)) (hk : k ≤ cap) (w : World) :
    (execOp ρ o).run Tryd.prog w = .ok (.value (.slice (some ⟨g, 0, none⟩) k cap)) w := by
  have h1 := run_slice_h (w := w) 42 (some ⟨g, 0, none⟩) n cap elemT .i64 (k : Int) (by omega) (by omega)
  rw [sizeE, Result.andThen_ok] at h1
  have h2 := run_sliceAt_slice (P := Tryd.prog) (w := w) 42 (.slice (some ⟨g, 0, none⟩) n cap) none (some (.int .i64 (k : Int))) none elemT
  rw [h1] at h2
  have e : sliced (some ⟨g, 0, none⟩) 0 (k : Int).toNat cap 38 = .slice (some ⟨g, 0, none⟩) k cap := by
    unfold sliced
    rw [Int.toNat_natCast]
    split
    · rfl
    · show Value.slice (some ((⟨g, 0, none⟩ : Addr).add (0 * 38))) (k - 0) (cap - 0) = _
      rw [Addr.add_mid]; rfl
  rw [e] at h2
  simp [execOp, ho, hx, hh, h2, Result.andThen]
theorem exec_from {ρ : Operand → Value} {o : Oper} (x lo : Operand) (ho : o.op = .slice 42 x (some lo) none none) {g n cap k : Nat} (hx : ρ x = .slice (some ⟨g, 0, none⟩) n cap) (hl : ρ lo = .int .i64 (k : Int)) (hk : k ≤ n) (w : World) :
    (execOp ρ o).run Tryd.prog w = .ok (.value (.slice (some (fromA g 0 k cap)) (n - k) (cap - k))) w := by
  have h1 := run_slice_l (w := w) 42 (some ⟨g, 0, none⟩) n cap elemT .i64 (k : Int) (by omega) (by omega)
  rw [sizeE, Result.andThen_ok] at h1
  have h2 := run_sliceAt_slice (P := Tryd.prog) (w := w) 42 (.slice (some ⟨g, 0, none⟩) n cap) (some (.int .i64 (k : Int))) none none elemT
  rw [h1] at h2
  have e : sliced (some ⟨g, 0, none⟩) (k : Int).toNat n cap 38 = .slice (some (fromA g 0 k cap)) (n - k) (cap - k) := by
    unfold sliced fromA
    rw [Int.toNat_natCast]
    split
    · rfl
    · show Value.slice (some ((⟨g, 0, none⟩ : Addr).add (k * 38))) (n - k) (cap - k) = _
      rw [Addr.add_mid]
  rw [e] at h2
  simp [execOp, ho, hx, hl, h2, Result.andThen]
theorem fromA_cell {B : Nat} {w : World} {l : List T} {g cap : Nat} (h : LT B w (.slice (some ⟨g, 0, none⟩) l.length cap) l) (hf : Fit l) (k : Nat) (hk : k ≤ l.length) (hc : l.length ≤ cap) : ∀ j u, (flat (l.drop k))[j]? = some u → w.cell? ((fromA g 0 k cap).add j) = some u := by
  intro j u hj
  unfold fromA
  by_cases hck : cap = k
  · rw [List.drop_of_length_le (by omega)] at hj; cases hj
  · rw [if_neg hck, Nat.zero_add]
    exact h.tail hf k j u hj
def ResS (w : World) (v : Value) (l : List T) (e : Ending) (w' : World) : Prop := ∃ v', e = .returned v' ∧ LT 0 w' v' l ∧ w.grownBy w' v.ownBlock ∧ (v'.ownBlock = v.ownBlock ∨ ∀ g, v'.ownBlock = some g → w.heap.size ≤ g)
set_option maxRecDepth 100000 in
set_option maxHeartbeats 1000000 in
theorem delete_any {w : World} {v : Value} {l : List T} (h : LT 0 w v l) (hf : Fit l) (k : Nat) (hk : k < l.length) (hl : l.length ≤ 1000) :
    Calls Tryd.prog 35 #[v, .int .i64 (k : Int), .int .i64 ((k : Int) + 1)] w (ResS w v (l.take k ++ l.drop (k + 1))) := by
  rcases h.form with ⟨_, h2⟩ | ⟨g, cap, h2, _, hlt, hnc, hcm⟩
  · rw [h2] at hk; exact absurd hk (Nat.not_lt_zero _)
  subst h2
  have HL := Lib.hid h
  have HF := Lib.hid hf
  unfold maxLen at hcm
  obtain ⟨m, hm⟩ : ∃ m, l.length = k + 1 + m := ⟨l.length - (k + 1), by omega⟩
  have HM := Lib.hid hm
  have HLT : Hid ((l.take k).length = k) := Lib.hid (by rw [List.length_take]; omega)
  have HLD : Hid ((l.drop (k + 1)).length = m) := Lib.hid (by rw [List.length_drop]; omega)
  have hzc : k + 1 + m - (k + 1) = m := by omega
  have qk : ((k : Int) == (k : Int) + 1) = false := beq_eq_false_iff_ne.2 (by omega)
  clear h hf
  rw [hm] at hk hl hnc
  rw [HM.out] at HL
  rw [HM.out]
  clear hm
  go_enter Tryd.func35, Tryd.ntmps35
  go_upto_region 5 with (fail)
  refine Ordl.begins (S := fun _ => True) (z := 99) (by kernel_rfl) ?_
  refine Ordl.Bx.out (?_ : Ordl.Bx (Ordl.Any _ _ _ _ _ _ _ _ _ _))
  have X0 : True := trivial
  have HL2 : Hid (LT 0 w.drew (.slice (some ⟨g, 0, none⟩) l.length cap) l) := Lib.hid (by rw [HM.out]; exact own_ext HL.out (Reg.Ext.drew w))
  have HX2 := Lib.hid (Reg.Ext.drew w)
  generalize w.drew = w2 at *
  refine Ordl.take (i := 0) (v := .slice (some ⟨g, 0, none⟩) (k + 1 + m) cap) rfl (by kernel_rfl) (by kernel_rfl) (by kernel_rfl) (by kernel_rfl) (fun _ _ _ h => h) (.inl ⟨by kernel_rfl, fun w _ => by as_aux_lemma => kernel_rfl⟩) X0 ?_
  simp only [List.getElem_toArray, List.getElem_cons_succ, List.getElem_cons_zero, Act.put, Act.eval, List.setIfInBounds_toArray, List.set_cons_zero, List.set_cons_succ, Nat.reduceAdd, Array.getD_eq_getD_getElem?, List.getElem?_toArray, List.getElem?_cons_succ, List.getElem?_cons_zero, Option.getD_some]
  refine Ordl.take (i := 1) (v := .int .i64 (k : Int)) rfl (by kernel_rfl) (by kernel_rfl) (by kernel_rfl) (by kernel_rfl) (fun _ _ _ h => h) (.inl ⟨by kernel_rfl, fun w _ => by as_aux_lemma => kernel_rfl⟩) X0 ?_
  simp only [List.getElem_toArray, List.getElem_cons_succ, List.getElem_cons_zero, Act.put, Act.eval, List.setIfInBounds_toArray, List.set_cons_zero, List.set_cons_succ, Nat.reduceAdd, Array.getD_eq_getD_getElem?, List.getElem?_toArray, List.getElem?_cons_succ, List.getElem?_cons_zero, Option.getD_some]
  refine Ordl.take (i := 2) (v := .slice (some ⟨g, 0, none⟩) k cap) rfl (by kernel_rfl) (by kernel_rfl) (by kernel_rfl) (by kernel_rfl) (fun _ _ _ h => h) (.inl ⟨by kernel_rfl, fun w hS => exec_upto (n := k + 1 + m) (.tmp 20) (.tmp 21) rfl (by kernel_rfl) (by kernel_rfl) (by omega) w⟩) X0 ?_
  simp only [List.getElem_toArray, List.getElem_cons_succ, List.getElem_cons_zero, Act.put, Act.eval, List.setIfInBounds_toArray, List.set_cons_zero, List.set_cons_succ, Nat.reduceAdd, Array.getD_eq_getD_getElem?, List.getElem?_toArray, List.getElem?_cons_succ, List.getElem?_cons_zero, Option.getD_some]
  refine Ordl.take (i := 3) (v := .slice (some ⟨g, 0, none⟩) (k + 1 + m) cap) rfl (by kernel_rfl) (by kernel_rfl) (by kernel_rfl) (by kernel_rfl) (fun _ _ _ h => h) (.inl ⟨by kernel_rfl, fun w _ => by as_aux_lemma => kernel_rfl⟩) X0 ?_
  simp only [List.getElem_toArray, List.getElem_cons_succ, List.getElem_cons_zero, Act.put, Act.eval, List.setIfInBounds_toArray, List.set_cons_zero, List.set_cons_succ, Nat.reduceAdd, Array.getD_eq_getD_getElem?, List.getElem?_toArray, List.getElem?_cons_succ, List.getElem?_cons_zero, Option.getD_some]
  refine Ordl.take (i := 4) (v := .int .i64 ((k : Int) + 1)) rfl (by kernel_rfl) (by kernel_rfl) (by kernel_rfl) (by kernel_rfl) (fun _ _ _ h => h) (.inl ⟨by kernel_rfl, fun w _ => by as_aux_lemma => kernel_rfl⟩) X0 ?_
  simp only [List.getElem_toArray, List.getElem_cons_succ, List.getElem_cons_zero, Act.put, Act.eval, List.setIfInBounds_toArray, List.set_cons_zero, List.set_cons_succ, Nat.reduceAdd, Array.getD_eq_getD_getElem?, List.getElem?_toArray, List.getElem?_cons_succ, List.getElem?_cons_zero, Option.getD_some]
  refine Ordl.take (i := 5) (v := .slice (some (fromA g 0 (k + 1) cap)) (k + 1 + m - (k + 1)) (cap - (k + 1))) rfl (by kernel_rfl) (by kernel_rfl) (by kernel_rfl) (by kernel_rfl) (fun _ _ _ h => h) (.inl ⟨by kernel_rfl, fun w hS => exec_from (n := k + 1 + m) (k := k + 1) (.tmp 23) (.tmp 24) rfl (by kernel_rfl) (by kernel_rfl) (by omega) w⟩) X0 ?_
  simp only [List.getElem_toArray, List.getElem_cons_succ, List.getElem_cons_zero, Act.put, Act.eval, List.setIfInBounds_toArray, List.set_cons_zero, List.set_cons_succ, Nat.reduceAdd, Array.getD_eq_getD_getElem?, List.getElem?_toArray, List.getElem?_cons_succ, List.getElem?_cons_zero, Option.getD_some]
  refine Ordl.one (i := 6) (by kernel_rfl) rfl ?_
  refine ⟨?_⟩
  refine append_fits rfl (.tmp 22) (.tmp 25) rfl 0 w2 g k cap (l.take k) (l.drop (k + 1)) rfl HLT.out (LT.pre HL2.out HF.out k (by rw [HM.out]; omega)) _ _ _ rfl (HLD.out.trans hzc.symm) (fromA_cell HL2.out HF.out (k + 1) (by rw [HM.out]; omega) (by rw [HM.out]; omega)) (fun y hy => HF.out y (List.mem_of_mem_drop hy)) (by omega) ?_
  intro w3 h3 hg3
  rw [hzc] at h3 ⊢
  have H3 := Lib.hid h3
  have HG3 : Hid (w.grownBy w3 (some g)) := Lib.hid (World.grownBy.trans ⟨HX2.out.os, HX2.out.tape, HX2.out.output, HX2.out.size, fun i hi _ => HX2.out.block i hi⟩ hg3)
  clear h3 hg3
  refine Ordl.Bx.out (?_ : Ordl.Bx _)
  refine Ordl.fin X0 ?_
  simp only [List.getElem_toArray, List.getElem_cons_succ, List.getElem_cons_zero, Act.put, Act.eval, List.setIfInBounds_toArray, List.set_cons_zero, List.set_cons_succ, Nat.reduceAdd, Array.getD_eq_getD_getElem?, List.getElem?_toArray, List.getElem?_cons_succ, List.getElem?_cons_zero, Option.getD_some]
  refine Ordl.take (i := 7) (v := .slice (some ⟨g, 0, none⟩) (k + m) cap) rfl (by kernel_rfl) (by kernel_rfl) (by kernel_rfl) (by kernel_rfl) (fun _ _ _ h => h) (.inl ⟨by kernel_rfl, fun w _ => by as_aux_lemma => kernel_rfl⟩) X0 ?_
  simp only [List.getElem_toArray, List.getElem_cons_succ, List.getElem_cons_zero, Act.put, Act.eval, List.setIfInBounds_toArray, List.set_cons_zero, List.set_cons_succ, Nat.reduceAdd, Array.getD_eq_getD_getElem?, List.getElem?_toArray, List.getElem?_cons_succ, List.getElem?_cons_zero, Option.getD_some]
  refine Ordl.done (by kernel_rfl) ?_ _
  clear X0
  have HLN : Hid ((l.take k ++ l.drop (k + 1)).length = k + m) := Lib.hid (by rw [List.length_append, HLT.out, HLD.out])
  go_wp2_with (refine wpList_clearT rfl (.tmp 31) rfl _ g ((k + m) * 38) _ _ rfl (by omega) (LT.room H3.out (by omega)) ?_)
  go_ret
  refine ⟨_, rfl, LT.behind H3.out _ _ (by rw [HLN.out]; exact Nat.le_refl _), ?_, .inl rfl⟩
  exact HG3.out.trans (But.setCells g _ _ _)
end Tk
end Go.Proofs.YtcfdlfedmbmidaaDoor

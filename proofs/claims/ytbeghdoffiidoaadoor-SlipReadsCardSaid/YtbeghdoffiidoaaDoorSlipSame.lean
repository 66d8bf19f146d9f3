/- The walk of the reference's Same: two lists of slips. -/
import Derived.Test.YtbeghdoffiidoaaDoorSlipRows
import Derived.Test.YtbeghdoffiidoaaDoorSlipGood2
import Derived.Test.YtbeghdoffiidoaaDoorSlipLaws
set_option linter.unusedSimpArgs false
set_option linter.unusedVariables false
set_option linter.unusedSectionVars false
namespace Go.Proofs.YtbeghdoffiidoaaDoor
open Go.RowKit
namespace Slp
def sameL : List S → List S → Bool
  | [], [] => true
  | x :: xs, y :: ys => x.same y && sameL xs ys
  | _, _ => false
theorem sameL_iff : ∀ xs ys : List S, sameL xs ys = true ↔ xs = ys
  | [], [] => by simp [sameL]
  | [], y :: ys => by simp [sameL]
  | x :: xs, [] => by simp [sameL]
  | x :: xs, y :: ys => by simp [sameL, same_iff, sameL_iff xs ys]
theorem wpList_ldm {ops : Array Oper} {rest : List Oper} {o : Oper} {a : Act} {w : World} {Q : Exit → Act → World → Prop} (hw : Region.wanted o (yielded ops a.tmps) = true) (ty : TypeId) (x : Operand) (ho : o.op = .load ty x)
    (g j : Nat) (hx : a.eval x = .pointer (some ⟨g, j, none⟩)) (cs : List Value) (fs : Array Field) (h : Hid (w.rangeAt g j cs)) (hu : Tryd.prog.underlying ty = some (.struct fs))
    (hi : (Tryd.prog.info? ty).map (·.size) = some cs.length) (hk : wpList Tryd.prog ops Q rest (a.put o.dst (.agg cs.toArray)) w) : wpList Tryd.prog ops Q (o :: rest) a w := by
  unfold wpList
  rw [if_pos hw]
  exact .inl (wp_load_mid ty x ho g j hx cs _ h.out hu rfl hi hk)
set_option maxRecDepth 100000 in
set_option maxHeartbeats 4000000 in
theorem same_any (va vb : Value) (xs ys : List S) (w : World) (ha : RdS va xs w) (hb : RdS vb ys w) :
    Calls Tryd.prog 16 #[va, vb] w fun e w' => e = .returned (.bool (sameL xs ys)) ∧ Reg.Ext w w' := by
  obtain ⟨da, pa, ca, rfl, ma, ra⟩ := ha
  obtain ⟨db, pb, cb, rfl, mb, rb⟩ := hb
  have HDA := Lib.hid da
  have HDB := Lib.hid db
  have HRA := Lib.hid ra
  have HRB := Lib.hid rb
  clear da db ra rb
  go_enter Tryd.func16, Tryd.ntmps16
  by_cases hl : xs.length = ys.length
  · have dl : ((xs.length : Int) != (ys.length : Int)) = false := by rw [hl]; simp
    have HL := Lib.hid hl
    clear hl
    go_wp2_with fail
    go_loopw [5] (fun i wr => ∃ k : Nat, k ≤ xs.length ∧ i = .int .i64 (k : Int) ∧ Hid (xs.take k = ys.take k) ∧ Hid (Reg.Ext w wr)) (fun i _ => xs.length - (intOf i).toNat)
    case atStart => exact ⟨0, by omega, rfl, rfl, Reg.Ext.refl w⟩
    case round =>
      obtain ⟨k, hk, rfl, HT, HX⟩ := hrel
      by_cases hkl : k < xs.length
      · have hk63 : k < 9223372036854775807 := by unfold maxLen at ma; omega
        have hkb : k < ys.length := by rw [← HL.out]; exact hkl
        obtain ⟨ga, oa, rfl, hra⟩ := HRA.out k hkl
        obtain ⟨gb, ob, rfl, hrb⟩ := HRB.out k hkb
        have dk : decide ((k : Int) < (xs.length : Int)) = true := by rw [decide_eq_true_iff]; omega
        have HA := Lib.hid (rangeAt_ext hra HX.out)
        have HB := Lib.hid (rangeAt_ext hrb HX.out)
        have hx := HDA.out xs[k] (List.getElem_mem hkl)
        have hy := HDB.out ys[k] (List.getElem_mem hkb)
        have HT2 := Lib.hid (show xs[k] = ys[k] → xs.take (k + 1) = ys.take (k + 1) from fun e => by rw [List.take_succ_eq_append_getElem hkl, List.take_succ_eq_append_getElem hkb, HT.out, e])
        have HF := Lib.hid (show xs[k] ≠ ys[k] → sameL xs ys = false from fun e => by
          rw [Bool.eq_false_iff, ne_eq, sameL_iff]
          intro h
          subst h
          exact e rfl)
        clear hra hrb HRA HRB
        generalize xs[k] = x at *
        generalize ys[k] = y at *
        have HE := Lib.hid (fun w => equal_slip x y hx hy w)
        go_wp2_with fail
        apply Reg.wp_tab Reg.Ext (by kernel_rfl) (by kernel_rfl) Reg.Ext.refl (fun _ _ _ => Reg.Ext.trans) (Reg.Ext.drew _)
        case h =>
          intro O
          repeat (first
            | (apply Reg.TW.move_ Reg.Ext.refl _ rfl rfl
               · simp only [Act.put, Act.eval, List.setIfInBounds_toArray, List.set_cons_zero, List.set_cons_succ, Nat.reduceAdd, Array.getD_eq_getD_getElem?, List.getElem?_toArray, List.getElem?_cons_succ, List.getElem?_cons_zero, Option.getD_some]
                 rfl)
            | (apply Reg.TW.assign_ Reg.Ext.refl _ rfl rfl
               · simp only [Act.put, Act.eval, List.setIfInBounds_toArray, List.set_cons_zero, List.set_cons_succ, Nat.reduceAdd, Array.getD_eq_getD_getElem?, List.getElem?_toArray, List.getElem?_cons_succ, List.getElem?_cons_zero, Option.getD_some]
                 rfl)
            | (apply Reg.TW.skip_ rfl
               · simp only [Act.put, Act.eval, List.setIfInBounds_toArray, List.set_cons_zero, List.set_cons_succ, Nat.reduceAdd, Array.getD_eq_getD_getElem?, List.getElem?_toArray, List.getElem?_cons_succ, List.getElem?_cons_zero, Option.getD_some]
                 rfl)
            | (apply Reg.TW.pure_ rfl
               · intro w1 hw1 hf K hK
                 simp only [Act.put, List.setIfInBounds_toArray, List.set_cons_zero, List.set_cons_succ] at hK
                 have HK := Lib.hid hK
                 clear hf hK
                 unfold Reg.One; dsimp only
                 go_wp2_with fail
                 exact HK.out _ (Reg.Ext.refl _)
               · simp only [Act.put, Act.eval, List.setIfInBounds_toArray, List.set_cons_zero, List.set_cons_succ, Nat.reduceAdd, Array.getD_eq_getD_getElem?, List.getElem?_toArray, List.getElem?_cons_succ, List.getElem?_cons_zero, Option.getD_some]
                 rfl))
          apply Reg.TW.pure_ (c := .agg x.cells.toArray) rfl
          · intro w1 hw1 hf K hK
            simp only [Act.put, List.setIfInBounds_toArray, List.set_cons_zero, List.set_cons_succ] at hK
            have HK := Lib.hid hK
            clear hK
            unfold Reg.One; dsimp only
            refine wpList_ldm rfl _ _ rfl ga (oa + k * 38) rfl _ _ (Lib.hid (rangeAt_ext HA.out hw1)) undS (by rw [cells_length x hx]; exact size38) ?_
            simp only [Act.put, Act.eval, List.setIfInBounds_toArray, List.set_cons_zero, List.set_cons_succ, Nat.reduceAdd, Array.getD_eq_getD_getElem?, List.getElem?_toArray, List.getElem?_cons_succ, List.getElem?_cons_zero, Option.getD_some]
            go_wp2_with fail
            exact HK.out _ (Reg.Ext.refl _)
          · simp only [Act.put, Act.eval, List.setIfInBounds_toArray, List.set_cons_zero, List.set_cons_succ, Nat.reduceAdd, Array.getD_eq_getD_getElem?, List.getElem?_toArray, List.getElem?_cons_succ, List.getElem?_cons_zero, Option.getD_some]
            rfl
          repeat (first
            | (apply Reg.TW.move_ Reg.Ext.refl _ rfl rfl
               · simp only [Act.put, Act.eval, List.setIfInBounds_toArray, List.set_cons_zero, List.set_cons_succ, Nat.reduceAdd, Array.getD_eq_getD_getElem?, List.getElem?_toArray, List.getElem?_cons_succ, List.getElem?_cons_zero, Option.getD_some]
                 rfl)
            | (apply Reg.TW.assign_ Reg.Ext.refl _ rfl rfl
               · simp only [Act.put, Act.eval, List.setIfInBounds_toArray, List.set_cons_zero, List.set_cons_succ, Nat.reduceAdd, Array.getD_eq_getD_getElem?, List.getElem?_toArray, List.getElem?_cons_succ, List.getElem?_cons_zero, Option.getD_some]
                 rfl)
            | (apply Reg.TW.skip_ rfl
               · simp only [Act.put, Act.eval, List.setIfInBounds_toArray, List.set_cons_zero, List.set_cons_succ, Nat.reduceAdd, Array.getD_eq_getD_getElem?, List.getElem?_toArray, List.getElem?_cons_succ, List.getElem?_cons_zero, Option.getD_some]
                 rfl)
            | (apply Reg.TW.pure_ rfl
               · intro w1 hw1 hf K hK
                 simp only [Act.put, List.setIfInBounds_toArray, List.set_cons_zero, List.set_cons_succ] at hK
                 have HK := Lib.hid hK
                 clear hf hK
                 unfold Reg.One; dsimp only
                 go_wp2_with fail
                 exact HK.out _ (Reg.Ext.refl _)
               · simp only [Act.put, Act.eval, List.setIfInBounds_toArray, List.set_cons_zero, List.set_cons_succ, Nat.reduceAdd, Array.getD_eq_getD_getElem?, List.getElem?_toArray, List.getElem?_cons_succ, List.getElem?_cons_zero, Option.getD_some]
                 rfl))
          apply Reg.TW.pure_ (c := .agg y.cells.toArray) rfl
          · intro w1 hw1 hf K hK
            simp only [Act.put, List.setIfInBounds_toArray, List.set_cons_zero, List.set_cons_succ] at hK
            have HK := Lib.hid hK
            clear hK
            unfold Reg.One; dsimp only
            refine wpList_ldm rfl _ _ rfl gb (ob + k * 38) rfl _ _ (Lib.hid (rangeAt_ext HB.out hw1)) undS (by rw [cells_length y hy]; exact size38) ?_
            simp only [Act.put, Act.eval, List.setIfInBounds_toArray, List.set_cons_zero, List.set_cons_succ, Nat.reduceAdd, Array.getD_eq_getD_getElem?, List.getElem?_toArray, List.getElem?_cons_succ, List.getElem?_cons_zero, Option.getD_some]
            go_wp2_with fail
            exact HK.out _ (Reg.Ext.refl _)
          · simp only [Act.put, Act.eval, List.setIfInBounds_toArray, List.set_cons_zero, List.set_cons_succ, Nat.reduceAdd, Array.getD_eq_getD_getElem?, List.getElem?_toArray, List.getElem?_cons_succ, List.getElem?_cons_zero, Option.getD_some]
            rfl
          repeat (first
            | (apply Reg.TW.move_ Reg.Ext.refl _ rfl rfl
               · simp only [Act.put, Act.eval, List.setIfInBounds_toArray, List.set_cons_zero, List.set_cons_succ, Nat.reduceAdd, Array.getD_eq_getD_getElem?, List.getElem?_toArray, List.getElem?_cons_succ, List.getElem?_cons_zero, Option.getD_some]
                 rfl)
            | (apply Reg.TW.assign_ Reg.Ext.refl _ rfl rfl
               · simp only [Act.put, Act.eval, List.setIfInBounds_toArray, List.set_cons_zero, List.set_cons_succ, Nat.reduceAdd, Array.getD_eq_getD_getElem?, List.getElem?_toArray, List.getElem?_cons_succ, List.getElem?_cons_zero, Option.getD_some]
                 rfl)
            | (apply Reg.TW.skip_ rfl
               · simp only [Act.put, Act.eval, List.setIfInBounds_toArray, List.set_cons_zero, List.set_cons_succ, Nat.reduceAdd, Array.getD_eq_getD_getElem?, List.getElem?_toArray, List.getElem?_cons_succ, List.getElem?_cons_zero, Option.getD_some]
                 rfl)
            | (apply Reg.TW.pure_ rfl
               · intro w1 hw1 hf K hK
                 simp only [Act.put, List.setIfInBounds_toArray, List.set_cons_zero, List.set_cons_succ] at hK
                 have HK := Lib.hid hK
                 clear hf hK
                 have q1 := HE.out
                 unfold Reg.One; dsimp only
                 go_wp2_with fail
                 exact HK.out _ (Reg.Ext.refl _)
               · simp only [Act.put, Act.eval, List.setIfInBounds_toArray, List.set_cons_zero, List.set_cons_succ, Nat.reduceAdd, Array.getD_eq_getD_getElem?, List.getElem?_toArray, List.getElem?_cons_succ, List.getElem?_cons_zero, Option.getD_some]
                 rfl))
          refine Reg.TW.nil_ ?_
          intro wa hwa _
          have HXA := Lib.hid (HX.out.trans hwa)
          clear hwa HE HA HB HX
          obtain ⟨sm, hsm⟩ : ∃ sm, sm = x.same y := ⟨_, rfl⟩
          rw [← hsm]
          cases sm with
          | true =>
            have HT3 := Lib.hid (HT2.out (same_eq hsm.symm))
            clear HT2 HF HT hsm
            go_wp2_with fail
            go_roundw
            case rel => exact ⟨k + 1, by omega, by go_num, HT3, HXA⟩
            case measure => simp [intOf]; omega
          | false =>
            have HV := Lib.hid (HF.out (fun e => by rw [e, same_refl] at hsm; cases hsm))
            clear HT2 HF HT hsm
            go_wp2_with fail
            go_ret
            exact ⟨by rw [HV.out]; rfl, HXA.out⟩
        case hlen => rfl
      · have hke : k = xs.length := by omega
        have HV : Hid (sameL xs ys = true) := by
          show _ = _
          rw [sameL_iff]
          have := HT.out
          rw [hke, List.take_length, HL.out, List.take_length] at this
          exact this
        have dk : decide ((k : Int) < (xs.length : Int)) = false := by rw [decide_eq_false_iff_not]; omega
        clear HT HRA HRB
        go_wp2_with fail
        go_ret
        exact ⟨by rw [HV.out]; rfl, HX.out⟩
  · have dl : ((xs.length : Int) != (ys.length : Int)) = true := by rw [bne_iff_ne]; omega
    have HV : Hid (sameL xs ys = false) := by
      show _ = _
      rw [Bool.eq_false_iff, ne_eq, sameL_iff]
      intro h
      exact hl (by rw [h])
    go_wp2_with fail
    go_ret
    exact ⟨by rw [HV.out]; rfl, Reg.Ext.refl w⟩
end Slp
end Go.Proofs.YtbeghdoffiidoaaDoor

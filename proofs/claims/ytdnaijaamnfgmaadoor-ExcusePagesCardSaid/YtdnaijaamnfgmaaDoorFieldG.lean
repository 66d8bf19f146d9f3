/- Package field: isText, trim, Good, Print. -/
import Derived.Test.YtdnaijaamnfgmaaDoorFieldW
import Derived.Test.YtdnaijaamnfgmaaDoorFldW
set_option linter.unusedSimpArgs false
set_option linter.unusedVariables false
set_option linter.unusedSectionVars false
namespace Go.Proofs.YtdnaijaamnfgmaaDoor
open Go.RowKit
namespace Fld
set_option maxHeartbeats 4000000 in
theorem text_yes (s : ByteArray) (w : World) (hs : s.size ≤ 274877906944) (HT : Hid (∀ c ∈ s.data.toList, 32 ≤ c.toNat ∧ c.toNat < 127)) :
    Calls Tryd.prog 45 #[.string s] w fun e w' => e = .returned (.bool true) ∧ Reg.Ext w w' := by
  go_enter Tryd.func45, Tryd.ntmps45
  obtain ⟨cap, w2, hcv, hby, hx2⟩ := BytesAt.of s w
  have HBY := Lib.hid hby
  have HX2 := Lib.hid hx2
  clear hby hx2
  go_wp2_with fail
  clear hcv
  go_loopw [4, 8] (fun _ i wr => ∃ k : Nat, k ≤ s.size ∧ i = .int .i64 k ∧ w2 = wr) (fun _ i _ => s.size - (intOf i).toNat)
  case atStart => exact ⟨0, Nat.zero_le _, rfl, rfl⟩
  case round =>
    obtain ⟨k, hk, rfl, rfl⟩ := hrel
    by_cases hks : k < s.size
    · have cb := HBY.out.cell k hks
      have hkl : k < s.data.toList.length := by rw [len_data]; exact hks
      have hmem : (s.data.toList[k]'hkl) ∈ s.data.toList := List.getElem_mem hkl
      generalize (s.data.toList[k]'hkl) = c at *
      obtain ⟨t1, t2⟩ := HT.out c hmem
      have d1 : decide ((c.toNat : Int) < 32) = false := by rw [decide_eq_false_iff_not]; omega
      have d2 : ((c.toNat : Int) == 127) = false := by rw [beq_eq_false_iff_ne]; omega
      clear hmem t1 t2
      go_wp2_with fail
      go_roundw
      case rel => exact ⟨k + 1, by omega, by go_num, trivial⟩
      case measure => simp [intOf]; omega
    · go_wp2_with fail
      go_ret
      exact ⟨rfl, HX2.out⟩
set_option maxHeartbeats 2000000 in
theorem trim_any (s : ByteArray) (w : World) (hs : s.size ≤ 274877906944) :
    Calls Tryd.prog 46 #[.string s] w fun e w' => e = .returned (.string ⟨(Lib.trimS s.data.toList [32, 9]).toArray⟩) ∧ Reg.Ext w w' := by
  have HT := Lib.hid (StrV.trim_any s [32, 9] w (by omega) (by decide) (by decide))
  go_enter Tryd.func46, Tryd.ntmps46
  go_wp2_with fail
  refine HT.out.mono ?_
  rintro e w1 ⟨rfl, x1⟩
  have HX := Lib.hid x1
  clear x1
  go_wp2_with fail
  go_ret
  exact ⟨rfl, HX.out⟩
set_option maxHeartbeats 4000000 in
theorem good_yes (f : Fld) (w : World) (h1 : f.1.size ≤ 274877906944) (h2 : f.2.size ≤ 274877906944) (ht : tokenP f.1.data.toList = true) (HT : Hid (∀ c ∈ f.2.data.toList, 32 ≤ c.toNat ∧ c.toNat < 127)) (hm : Lib.trimS f.2.data.toList [32, 9] = f.2.data.toList) :
    Calls Tryd.prog 36 #[fv f] w fun e w' => e = .returned (.bool true) ∧ Reg.Ext w w' := by
  have C1 := fun w => Lib.hid (token_any f.1 w h1)
  rw [ht] at C1
  have C2 := fun w => Lib.hid (text_yes f.2 w h2 HT)
  have C3 := fun w => Lib.hid (trim_any f.2 w h2)
  rw [hm, ba_data] at C3
  have hb := boxf w f
  have hx := Reg.Ext.alloc w (Obj.cells #[.string f.1, .string f.2] 46)
  clear ht HT hm h1 h2
  unfold fv
  go_enter Tryd.func36, Tryd.ntmps36
  go_upto_region 1 with (fail)
  generalize w.alloc (Obj.cells #[.string f.1, .string f.2] 46) = w0 at *
  generalize w.heap.size = g at hb ⊢
  have HB := Lib.hid hb
  have HX := Lib.hid hx
  clear hb hx
  apply Reg.wp_tab Reg.Ext (by kernel_rfl) (by kernel_rfl) Reg.Ext.refl (fun _ _ _ => Reg.Ext.trans) (Reg.Ext.drew _)
  case' h =>
    intro O
    repeat (first
      | (apply Reg.TW.move_ Reg.Ext.refl _ rfl rfl
         · simp only [Act.put, Act.eval, List.setIfInBounds_toArray, List.set_cons_zero, List.set_cons_succ, Nat.reduceAdd, Array.getD_eq_getD_getElem?, List.getElem?_toArray, List.getElem?_cons_succ, List.getElem?_cons_zero, Option.getD_some]
           rfl)
      | (apply Reg.TW.assign_ Reg.Ext.refl _ rfl rfl
         · simp only [Act.put, Act.eval, List.setIfInBounds_toArray, List.set_cons_zero, List.set_cons_succ, Nat.reduceAdd, Array.getD_eq_getD_getElem?, List.getElem?_toArray, List.getElem?_cons_succ, List.getElem?_cons_zero, Option.getD_some]
           rfl)
      | (apply Reg.TW.skip_ rfl
         · simp only [Act.put, Act.eval, List.setIfInBounds_toArray, List.set_cons_zero, List.set_cons_succ, Nat.reduceAdd, Array.getD_eq_getD_getElem?, List.getElem?_toArray, List.getElem?_cons_succ, List.getElem?_cons_zero, Option.getD_some]
           rfl)
      | (apply Reg.TW.pure_ rfl
         · intro w1 hw1 hf K hK
           simp only [Act.put, List.setIfInBounds_toArray, List.set_cons_zero, List.set_cons_succ] at hK
           have HK := Lib.hid hK
           clear hf hK
           have c0 : w1.cell? ⟨g, 0, none⟩ = some (.string f.1) := (HB.out.ext hw1).cell 0; have c1 : w1.cell? ⟨g, 1, none⟩ = some (.string f.2) := (HB.out.ext hw1).cell 1
           unfold Reg.One; dsimp only
           go_wp2_with fail
           exact HK.out _ (Reg.Ext.refl _)
         · simp only [Act.put, Act.eval, List.setIfInBounds_toArray, List.set_cons_zero, List.set_cons_succ, Nat.reduceAdd, Array.getD_eq_getD_getElem?, List.getElem?_toArray, List.getElem?_cons_succ, List.getElem?_cons_zero, Option.getD_some]
           rfl))
    apply Reg.TW.call_ (c := .bool true) (fun _ => True) rfl (fun _ _ _ h => h)
    · intro w1 hw1 hf K hK
      simp only [Act.put, List.setIfInBounds_toArray, List.set_cons_zero, List.set_cons_succ] at hK
      have HK := Lib.hid hK
      clear hK
      unfold Reg.One; dsimp only
      skip
      go_wp2_with fail
      refine ((C1 _).out).mono ?_
      rintro e w' ⟨rfl, hx⟩
      go_wp2_with fail
      exact HK.out _ hx trivial
    · simp only [Act.put, Act.eval, List.setIfInBounds_toArray, List.set_cons_zero, List.set_cons_succ, Nat.reduceAdd, Array.getD_eq_getD_getElem?, List.getElem?_toArray, List.getElem?_cons_succ, List.getElem?_cons_zero, Option.getD_some]
      rfl
    repeat (first
      | (apply Reg.TW.move_ Reg.Ext.refl _ rfl rfl
         · simp only [Act.put, Act.eval, List.setIfInBounds_toArray, List.set_cons_zero, List.set_cons_succ, Nat.reduceAdd, Array.getD_eq_getD_getElem?, List.getElem?_toArray, List.getElem?_cons_succ, List.getElem?_cons_zero, Option.getD_some]
           rfl)
      | (apply Reg.TW.assign_ Reg.Ext.refl _ rfl rfl
         · simp only [Act.put, Act.eval, List.setIfInBounds_toArray, List.set_cons_zero, List.set_cons_succ, Nat.reduceAdd, Array.getD_eq_getD_getElem?, List.getElem?_toArray, List.getElem?_cons_succ, List.getElem?_cons_zero, Option.getD_some]
           rfl)
      | (apply Reg.TW.skip_ rfl
         · simp only [Act.put, Act.eval, List.setIfInBounds_toArray, List.set_cons_zero, List.set_cons_succ, Nat.reduceAdd, Array.getD_eq_getD_getElem?, List.getElem?_toArray, List.getElem?_cons_succ, List.getElem?_cons_zero, Option.getD_some]
           rfl)
      | (apply Reg.TW.pure_ rfl
         · intro w1 hw1 hf K hK
           simp only [Act.put, List.setIfInBounds_toArray, List.set_cons_zero, List.set_cons_succ] at hK
           have HK := Lib.hid hK
           clear hf hK
           have c0 : w1.cell? ⟨g, 0, none⟩ = some (.string f.1) := (HB.out.ext hw1).cell 0; have c1 : w1.cell? ⟨g, 1, none⟩ = some (.string f.2) := (HB.out.ext hw1).cell 1
           unfold Reg.One; dsimp only
           go_wp2_with fail
           exact HK.out _ (Reg.Ext.refl _)
         · simp only [Act.put, Act.eval, List.setIfInBounds_toArray, List.set_cons_zero, List.set_cons_succ, Nat.reduceAdd, Array.getD_eq_getD_getElem?, List.getElem?_toArray, List.getElem?_cons_succ, List.getElem?_cons_zero, Option.getD_some]
           rfl))
    apply Reg.TW.call_ (c := .bool true) (fun _ => True) rfl (fun _ _ _ h => h)
    · intro w1 hw1 hf K hK
      simp only [Act.put, List.setIfInBounds_toArray, List.set_cons_zero, List.set_cons_succ] at hK
      have HK := Lib.hid hK
      clear hK
      unfold Reg.One; dsimp only
      skip
      go_wp2_with fail
      refine ((C2 _).out).mono ?_
      rintro e w' ⟨rfl, hx⟩
      go_wp2_with fail
      exact HK.out _ hx trivial
    · simp only [Act.put, Act.eval, List.setIfInBounds_toArray, List.set_cons_zero, List.set_cons_succ, Nat.reduceAdd, Array.getD_eq_getD_getElem?, List.getElem?_toArray, List.getElem?_cons_succ, List.getElem?_cons_zero, Option.getD_some]
      rfl
    repeat (first
      | (apply Reg.TW.move_ Reg.Ext.refl _ rfl rfl
         · simp only [Act.put, Act.eval, List.setIfInBounds_toArray, List.set_cons_zero, List.set_cons_succ, Nat.reduceAdd, Array.getD_eq_getD_getElem?, List.getElem?_toArray, List.getElem?_cons_succ, List.getElem?_cons_zero, Option.getD_some]
           rfl)
      | (apply Reg.TW.assign_ Reg.Ext.refl _ rfl rfl
         · simp only [Act.put, Act.eval, List.setIfInBounds_toArray, List.set_cons_zero, List.set_cons_succ, Nat.reduceAdd, Array.getD_eq_getD_getElem?, List.getElem?_toArray, List.getElem?_cons_succ, List.getElem?_cons_zero, Option.getD_some]
           rfl)
      | (apply Reg.TW.skip_ rfl
         · simp only [Act.put, Act.eval, List.setIfInBounds_toArray, List.set_cons_zero, List.set_cons_succ, Nat.reduceAdd, Array.getD_eq_getD_getElem?, List.getElem?_toArray, List.getElem?_cons_succ, List.getElem?_cons_zero, Option.getD_some]
           rfl)
      | (apply Reg.TW.pure_ rfl
         · intro w1 hw1 hf K hK
           simp only [Act.put, List.setIfInBounds_toArray, List.set_cons_zero, List.set_cons_succ] at hK
           have HK := Lib.hid hK
           clear hf hK
           have c0 : w1.cell? ⟨g, 0, none⟩ = some (.string f.1) := (HB.out.ext hw1).cell 0; have c1 : w1.cell? ⟨g, 1, none⟩ = some (.string f.2) := (HB.out.ext hw1).cell 1
           unfold Reg.One; dsimp only
           go_wp2_with fail
           exact HK.out _ (Reg.Ext.refl _)
         · simp only [Act.put, Act.eval, List.setIfInBounds_toArray, List.set_cons_zero, List.set_cons_succ, Nat.reduceAdd, Array.getD_eq_getD_getElem?, List.getElem?_toArray, List.getElem?_cons_succ, List.getElem?_cons_zero, Option.getD_some]
           rfl))
    apply Reg.TW.call_ (c := .string f.2) (fun _ => True) rfl (fun _ _ _ h => h)
    · intro w1 hw1 hf K hK
      simp only [Act.put, List.setIfInBounds_toArray, List.set_cons_zero, List.set_cons_succ] at hK
      have HK := Lib.hid hK
      clear hK
      unfold Reg.One; dsimp only
      skip
      go_wp2_with fail
      refine ((C3 _).out).mono ?_
      rintro e w' ⟨rfl, hx⟩
      go_wp2_with fail
      exact HK.out _ hx trivial
    · simp only [Act.put, Act.eval, List.setIfInBounds_toArray, List.set_cons_zero, List.set_cons_succ, Nat.reduceAdd, Array.getD_eq_getD_getElem?, List.getElem?_toArray, List.getElem?_cons_succ, List.getElem?_cons_zero, Option.getD_some]
      rfl
    repeat (first
      | (apply Reg.TW.move_ Reg.Ext.refl _ rfl rfl
         · simp only [Act.put, Act.eval, List.setIfInBounds_toArray, List.set_cons_zero, List.set_cons_succ, Nat.reduceAdd, Array.getD_eq_getD_getElem?, List.getElem?_toArray, List.getElem?_cons_succ, List.getElem?_cons_zero, Option.getD_some]
           rfl)
      | (apply Reg.TW.assign_ Reg.Ext.refl _ rfl rfl
         · simp only [Act.put, Act.eval, List.setIfInBounds_toArray, List.set_cons_zero, List.set_cons_succ, Nat.reduceAdd, Array.getD_eq_getD_getElem?, List.getElem?_toArray, List.getElem?_cons_succ, List.getElem?_cons_zero, Option.getD_some]
           rfl)
      | (apply Reg.TW.skip_ rfl
         · simp only [Act.put, Act.eval, List.setIfInBounds_toArray, List.set_cons_zero, List.set_cons_succ, Nat.reduceAdd, Array.getD_eq_getD_getElem?, List.getElem?_toArray, List.getElem?_cons_succ, List.getElem?_cons_zero, Option.getD_some]
           rfl)
      | (apply Reg.TW.pure_ rfl
         · intro w1 hw1 hf K hK
           simp only [Act.put, List.setIfInBounds_toArray, List.set_cons_zero, List.set_cons_succ] at hK
           have HK := Lib.hid hK
           clear hf hK
           have c0 : w1.cell? ⟨g, 0, none⟩ = some (.string f.1) := (HB.out.ext hw1).cell 0; have c1 : w1.cell? ⟨g, 1, none⟩ = some (.string f.2) := (HB.out.ext hw1).cell 1
           unfold Reg.One; dsimp only
           go_wp2_with fail
           exact HK.out _ (Reg.Ext.refl _)
         · simp only [Act.put, Act.eval, List.setIfInBounds_toArray, List.set_cons_zero, List.set_cons_succ, Nat.reduceAdd, Array.getD_eq_getD_getElem?, List.getElem?_toArray, List.getElem?_cons_succ, List.getElem?_cons_zero, Option.getD_some]
           rfl))
    refine Reg.TW.nil_ ?_
    intro wn hwn _
    have HXn := Lib.hid (HX.out.trans hwn)
    clear hwn HX
    go_wp2_with fail
    go_ret
    exact ⟨by simp, HXn.out⟩
  all_goals rfl
set_option maxHeartbeats 2000000 in
theorem print_fld (f : Fld) (w : World) (h1 : f.1.size ≤ 274877906944) (h2 : f.2.size ≤ 274877906944) :
    Calls Tryd.prog 37 #[fv f] w fun e w' => e = .returned (.string (f.1 ++ ⟨#[58, 32]⟩ ++ f.2)) ∧ Reg.Ext w w' := by
  have hb := boxf w f
  have hx := Reg.Ext.alloc w (Obj.cells #[.string f.1, .string f.2] 46)
  unfold fv
  go_enter Tryd.func37, Tryd.ntmps37
  go_upto_region 1 with (fail)
  generalize w.alloc (Obj.cells #[.string f.1, .string f.2] 46) = w0 at *
  generalize w.heap.size = g at hb ⊢
  have HX := Lib.hid hx
  have c0 : w0.cell? ⟨g, 0, none⟩ = some (.string f.1) := hb.cell 0
  have c1 : w0.cell? ⟨g, 1, none⟩ = some (.string f.2) := hb.cell 1
  clear hb hx
  go_wp2_with fail
  go_ret
  exact ⟨rfl, HX.out⟩
end Fld
end Go.Proofs.YtdnaijaamnfgmaaDoor

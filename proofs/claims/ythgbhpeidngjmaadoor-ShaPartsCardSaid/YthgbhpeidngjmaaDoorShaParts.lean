/- The walk of the law ShaParts. -/
import Derived.Test.YthgbhpeidngjmaaDoorShaNone
set_option linter.unusedSimpArgs false
set_option linter.unusedVariables false
set_option linter.unusedSectionVars false
namespace Go.Proofs.YthgbhpeidngjmaaDoor
open Go.RowKit
namespace Sha
open ShaP
attribute [local go_sem] equal_sums
theorem ext_take (l : List UInt8) (m j : Nat) : l.take m ++ (l.drop m).take j = l.take (m + j) := by rw [List.take_add]
set_option maxRecDepth 100000 in
set_option maxHeartbeats 4000000 in
theorem parts_law (s : ByteArray) (at_ by_ : Int) (w : World) (hs : s.size ≤ maxLen) (h1 : -9223372036854775808 ≤ at_) (h2 : at_ ≤ 9223372036854775807) (h3 : -9223372036854775808 ≤ by_) (h4 : by_ ≤ 9223372036854775807) (hk : Keys w) (hst : StartIs w) :
    Calls Tryd.prog 4 #[.string s, .int .i64 at_, .int .i64 by_] w fun e w' => e = .returned (.bool true) ∧ Reg.Ext w w' := by
  have HK := Lib.hid hk
  have HST := Lib.hid hst
  have hk1 := hk.lt
  clear hk hst
  unfold maxLen at hs
  by_cases hl1 : s.size ≤ 16384
  · have d1 : decide ((16384 : Int) < (s.size : Int)) = false := by simp; omega
    go_enter Tryd.func4, Tryd.ntmps4
    go_wp2_with fail
    refine (awake_any w HK.out HST.out).mono ?_
    rintro e w1 ⟨rfl, x1⟩
    have X1 := Lib.hid x1
    clear x1
    obtain ⟨k, hk, ek⟩ := umod at_ s.size (by omega)
    obtain ⟨j, hj, ej⟩ := umod by_ 99 (by omega)
    rw [show (((99 : Nat) : Int) + 1) = 100 from rfl] at ej
    go_wp2_with fail
    refine (new_any w1 (HST.out.ext X1.out)).mono ?_
    rintro e w2 ⟨h, rfl, hh, ah, x2⟩
    have X2 := Lib.hid (X1.out.trans x2)
    have hwh : w.heap.size ≤ h := Nat.le_trans X1.out.size hh
    have AH : Hid (Abs w2 h 41 (s.data.toList.take 0) (s.data.toList.take 0).length) := ah
    have hhk : h ≠ 1 := by omega
    clear x2 ah hh
    go_wp2_with fail
    go_loopw [10] (fun i wr => ∃ m : Nat, m ≤ s.size + 100 ∧ i = .int .i64 m ∧ Hid (Abs wr h 41 (s.data.toList.take m) (s.data.toList.take m).length) ∧ Hid (Reg.Ext w wr)) (fun i _ => s.size - (intOf i).toNat)
    case atStart => exact ⟨0, by omega, rfl, AH, X2⟩
    case round =>
      obtain ⟨m, hm, rfl, AR, XR⟩ := hrel
      clear AH X2
      by_cases hms : m < s.size
      · have d2 : decide ((m : Int) < (s.size : Int)) = true := by rw [decide_eq_true_iff]; omega
        have HK1 := Lib.hid (HK.out.ext XR.out)
        have htl : (s.data.toList.take m).length = m := by rw [List.length_take, len_data]; omega
        go_wp2_with fail
        generalize hz : (min ((m : Int) + (1 + (j : Int))) (s.size : Int)).toNat = z
        have hz1 : m < z ∧ z ≤ s.size ∧ (z = m + (1 + j) ∨ (z = s.size ∧ s.size ≤ m + (1 + j))) := by omega
        have hez : (s.extract m z).size = z - m := by rw [ByteArray.size_extract]; omega
        have hlz : s.data.toList.take m ++ (s.extract m z).data.toList = s.data.toList.take (m + (1 + j)) := by
          rw [ext_data, ← List.take_add, show m + (z - m) = z by omega]
          rcases hz1.2.2 with h | ⟨h, h'⟩
          · rw [h]
          · rw [List.take_of_length_le (by rw [len_data]; omega), List.take_of_length_le (by rw [len_data]; omega)]
        have hlz2 : (s.data.toList.take m).length + (s.extract m z).size = (s.data.toList.take (m + (1 + j))).length := by
          rw [← hlz, List.length_append, len_data]
        clear hz
        refine (write_any h _ _ _ (s.extract m z) wr AR.out HK1.out hhk (maxLen_of (ext_le _ _ _ (by omega))) (by omega)).mono ?_
        rintro e w3 ⟨rfl, a3, b3⟩
        rw [hlz, hlz2] at a3
        have X3 := Lib.hid (XR.out.trans_but b3 hwh)
        have A3 := Lib.hid a3
        clear a3 b3 AR XR hlz hlz2 htl
        go_wp2_with fail
        go_roundw
        case rel => exact ⟨m + (1 + j), by omega, by go_num, A3, X3⟩
        case measure => simp [intOf]; omega
      · have hml : s.data.toList.take m = s.data.toList := List.take_of_length_le (by rw [len_data]; omega)
        rw [hml] at AR
        have d2 : decide ((m : Int) < (s.size : Int)) = false := by rw [decide_eq_false_iff_not]; omega
        clear hml
        go_wp2_with fail
        refine (new_any wr (HST.out.ext XR.out)).mono ?_
        rintro e w3 ⟨a, rfl, ha, aa, x3⟩
        have X3 := Lib.hid (XR.out.trans x3)
        have hwa : w.heap.size ≤ a := Nat.le_trans XR.out.size ha
        have hha : h ≠ a := by have := AR.out.lt; omega
        have H3 := Lib.hid (AR.out.ext x3)
        have A3 := Lib.hid aa
        have hak : a ≠ 1 := by omega
        clear aa x3 ha XR AR
        go_wp2_with fail
        have hek : (s.extract 0 k).size = k := by rw [ByteArray.size_extract]; omega
        refine (write_any a _ [] 0 (s.extract 0 k) w3 A3.out (HK.out.ext X3.out) hak (maxLen_of (ext_le _ _ _ (by omega))) (by omega)).mono ?_
        rintro e w4 ⟨rfl, a4, b4⟩
        rw [List.nil_append, Nat.zero_add, ext_to, hek] at a4
        have X4 := Lib.hid (X3.out.trans_but b4 hwa)
        have A4 := Lib.hid a4
        have H4 := Lib.hid (H3.out.but b4 hha)
        clear a4 b4 A3 H3 X3
        have hkl : (s.data.toList.take k).length = k := by rw [List.length_take, len_data]; omega
        go_wp2_with fail
        refine (sum_any a 41 (s.data.toList.take k) w4 (by rw [hkl]; exact A4.out) (HK.out.ext X4.out) (HK.out.ext X4.out).lt (by rw [hkl]; omega)).mono ?_
        rintro e w5 ⟨rfl, x5⟩
        have X5 := Lib.hid (X4.out.trans x5)
        have A5 := Lib.hid (A4.out.ext x5)
        have H5 := Lib.hid (H4.out.ext x5)
        clear x5 A4 H4 X4
        rename_i hK
        refine hK _ _ ?_
        iterate 3 go_step
        refine wpList_store_mid rfl 28 _ _ rfl w5.heap.size 0 ((sum (s.data.toList.take k)).map byteV).toArray rfl rfl (keep_there w5 _ rfl) (by rw [List.size_toArray, List.length_map]; kernel_rfl) ?_ ?_
        · refine all_oneCell_toArray fun v hv => ?_
          obtain ⟨x, _, rfl⟩ := List.mem_map.1 hv
          rfl
        simp only [List.toList_toArray]
        obtain ⟨hxk, hbk⟩ := keep w5 (sum (s.data.toList.take k)) rfl
        generalize (w5.alloc (Obj.cells #[Value.int .u8 0, Value.int .u8 0, Value.int .u8 0, Value.int .u8 0, Value.int .u8 0, Value.int .u8 0, Value.int .u8 0, Value.int .u8 0, Value.int .u8 0, Value.int .u8 0, Value.int .u8 0, Value.int .u8 0, Value.int .u8 0, Value.int .u8 0, Value.int .u8 0, Value.int .u8 0, Value.int .u8 0, Value.int .u8 0, Value.int .u8 0, Value.int .u8 0, Value.int .u8 0, Value.int .u8 0, Value.int .u8 0, Value.int .u8 0, Value.int .u8 0, Value.int .u8 0, Value.int .u8 0, Value.int .u8 0, Value.int .u8 0, Value.int .u8 0, Value.int .u8 0, Value.int .u8 0] 28)).setCells w5.heap.size 0 ((sum (s.data.toList.take k)).map byteV) = w6 at *
        have HX6 := Lib.hid hxk
        have B6 := Lib.hid hbk
        clear hxk hbk
        simp only [Act.put, Act.eval, List.setIfInBounds_toArray, List.set_cons_zero, List.set_cons_succ, Nat.reduceAdd, Array.getD_eq_getD_getElem?, List.getElem?_toArray, List.getElem?_cons_succ, List.getElem?_cons_zero, Option.getD_some]
        have X6 := Lib.hid (X5.out.trans HX6.out)
        have A6 := Lib.hid (A5.out.ext HX6.out)
        have H6 := Lib.hid (H5.out.ext HX6.out)
        clear HX6 A5 H5 X5
        generalize w5.heap.size = g12 at *
        clear w5
        go_wp2_with fail
        refine (copy_abs a _ _ _ w6 A6.out).mono ?_
        rintro e w7 ⟨b, rfl, hb, ab, x7⟩
        have hhb : h ≠ b := by have := H6.out.lt; omega
        have hab : a ≠ b := by have := A6.out.lt; omega
        have hgb : g12 ≠ b := by have := B6.out.lt; omega
        have hbk : b ≠ 1 := by have := H6.out.lt; omega
        have hwb : w.heap.size ≤ b := Nat.le_trans X6.out.size hb
        have X7 := Lib.hid (X6.out.trans x7)
        have A7 := Lib.hid (A6.out.ext x7)
        have H7 := Lib.hid (H6.out.ext x7)
        have B7 := Lib.hid (B6.out.ext x7)
        have C7 := Lib.hid ab
        clear x7 A6 H6 B6 X6 ab hb
        go_wp2_with fail
        have hes : (s.extract k s.size).size = s.size - k := by rw [ByteArray.size_extract]; omega
        refine (write_any b _ _ k (s.extract k s.size) w7 C7.out (HK.out.ext X7.out) hbk (maxLen_of (ext_le _ _ _ (by omega))) (by omega)).mono ?_
        rintro e w8 ⟨rfl, c8, b8⟩
        rw [ext_from, List.take_append_drop, hes, show k + (s.size - k) = s.size by omega] at c8
        have X8 := Lib.hid (X7.out.trans_but b8 hwb)
        have A8 := Lib.hid (A7.out.but b8 hab)
        have H8 := Lib.hid (H7.out.but b8 hhb)
        have B8 := Lib.hid (B7.out.but b8 hgb)
        have C8 := Lib.hid c8
        clear b8 c8 A7 H7 B7 C7 X7
        go_wp2_with fail
        have xa := Reg.Ext.alloc w8 (Obj.cells #[Value.string s] 9)
        have ra : Rd (w8.alloc (Obj.cells #[Value.string s] 9)) (some ⟨w8.heap.size, 0, none⟩) [strV s] := Rd.new w8 9 #[strV s]
        have XA := Lib.hid (X8.out.trans xa)
        have AA := Lib.hid (A8.out.ext xa)
        have HA := Lib.hid (H8.out.ext xa)
        have BA := Lib.hid (B8.out.ext xa)
        have CA := Lib.hid (C8.out.ext xa)
        clear xa A8 H8 B8 C8 X8
        refine (of_one _ 1 s _ ra (by omega) (HK.out.ext XA.out) (HST.out.ext XA.out)).mono ?_
        rintro e w9 ⟨rfl, x9⟩
        have X9 := Lib.hid (XA.out.trans x9)
        have A9 := Lib.hid (AA.out.ext x9)
        have H9 := Lib.hid (HA.out.ext x9)
        have B9 := Lib.hid (BA.out.ext x9)
        have C9 := Lib.hid (CA.out.ext x9)
        clear x9 AA HA BA CA XA ra
        rename_i hK
        refine hK _ _ ?_
        iterate 3 go_step
        refine wpList_store_mid rfl 28 _ _ rfl w9.heap.size 0 ((sum s.data.toList).map byteV).toArray rfl rfl (keep_there w9 _ rfl) (by rw [List.size_toArray, List.length_map]; kernel_rfl) ?_ ?_
        · refine all_oneCell_toArray fun v hv => ?_
          obtain ⟨x, _, rfl⟩ := List.mem_map.1 hv
          rfl
        simp only [List.toList_toArray]
        obtain ⟨hxk, hbk⟩ := keep w9 (sum s.data.toList) rfl
        generalize (w9.alloc (Obj.cells #[Value.int .u8 0, Value.int .u8 0, Value.int .u8 0, Value.int .u8 0, Value.int .u8 0, Value.int .u8 0, Value.int .u8 0, Value.int .u8 0, Value.int .u8 0, Value.int .u8 0, Value.int .u8 0, Value.int .u8 0, Value.int .u8 0, Value.int .u8 0, Value.int .u8 0, Value.int .u8 0, Value.int .u8 0, Value.int .u8 0, Value.int .u8 0, Value.int .u8 0, Value.int .u8 0, Value.int .u8 0, Value.int .u8 0, Value.int .u8 0, Value.int .u8 0, Value.int .u8 0, Value.int .u8 0, Value.int .u8 0, Value.int .u8 0, Value.int .u8 0, Value.int .u8 0, Value.int .u8 0] 28)).setCells w9.heap.size 0 ((sum s.data.toList).map byteV) = wb at *
        have HXb := Lib.hid hxk
        have D10 := Lib.hid hbk
        clear hxk hbk
        simp only [Act.put, Act.eval, List.setIfInBounds_toArray, List.set_cons_zero, List.set_cons_succ, Nat.reduceAdd, Array.getD_eq_getD_getElem?, List.getElem?_toArray, List.getElem?_cons_succ, List.getElem?_cons_zero, Option.getD_some]
        have XX := Lib.hid (X9.out.trans HXb.out)
        have A10 := Lib.hid (A9.out.ext HXb.out)
        have H10 := Lib.hid (H9.out.ext HXb.out)
        have B10 := Lib.hid (B9.out.ext HXb.out)
        have C10 := Lib.hid (C9.out.ext HXb.out)
        clear HXb A9 H9 B9 C9 X9
        generalize w9.heap.size = g14 at *
        have CH : Hid (∀ W', Reg.Ext wb W' → Calls Tryd.prog 9 #[.pointer (some ⟨h, 0, none⟩)] W' fun e w' => e = .returned (.agg ((sum s.data.toList).map byteV).toArray) ∧ Reg.Ext W' w') :=
          fun W' hx => sum_any h 41 s.data.toList W' (H10.out.ext hx) (HK.out.ext (XX.out.trans hx)) (HK.out.ext (XX.out.trans hx)).lt (by rw [len_data]; omega)
        have CB : Hid (∀ W', Reg.Ext wb W' → Calls Tryd.prog 9 #[.pointer (some ⟨b, 0, none⟩)] W' fun e w' => e = .returned (.agg ((sum s.data.toList).map byteV).toArray) ∧ Reg.Ext W' w') :=
          fun W' hx => sum_any b 41 s.data.toList W' (by rw [len_data]; exact C10.out.ext hx) (HK.out.ext (XX.out.trans hx)) (HK.out.ext (XX.out.trans hx)).lt (by rw [len_data]; omega)
        have CA : Hid (∀ W', Reg.Ext wb W' → Calls Tryd.prog 9 #[.pointer (some ⟨a, 0, none⟩)] W' fun e w' => e = .returned (.agg ((sum (s.data.toList.take k)).map byteV).toArray) ∧ Reg.Ext W' w') :=
          fun W' hx => sum_any a 41 (s.data.toList.take k) W' (by rw [hkl]; exact A10.out.ext hx) (HK.out.ext (XX.out.trans hx)) (HK.out.ext (XX.out.trans hx)).lt (by rw [hkl]; omega)
        have CLA : Hid (∀ W', Reg.Ext wb W' → Calls Tryd.prog 11 #[.pointer (some ⟨a, 0, none⟩)] W' fun e w' => e = .returned (.int .i64 (k : Int)) ∧ W' = w') :=
          fun W' hx => len_any a _ _ k W' (A10.out.ext hx)
        have CLB : Hid (∀ W', Reg.Ext wb W' → Calls Tryd.prog 11 #[.pointer (some ⟨b, 0, none⟩)] W' fun e w' => e = .returned (.int .i64 (s.size : Int)) ∧ W' = w') :=
          fun W' hx => len_any b _ _ s.size W' (C10.out.ext hx)
        have CO1 : Hid (∀ W' q, Reg.Ext wb W' → Rd W' (some ⟨q, 0, none⟩) [strV (s.extract 0 k)] → Calls Tryd.prog 12 #[.slice (some ⟨q, 0, none⟩) 1 1] W' fun e w' => e = .returned (.agg ((sum (s.data.toList.take k)).map byteV).toArray) ∧ Reg.Ext W' w') :=
          fun W' q hx hr => by
            have := of_one q 1 (s.extract 0 k) W' hr (by omega) (HK.out.ext (XX.out.trans hx)) (HST.out.ext (XX.out.trans hx))
            rw [ext_to] at this
            exact this
        have CO2 : Hid (∀ W' q, Reg.Ext wb W' → Rd W' (some ⟨q, 0, none⟩) [strV (s.extract 0 k), strV (s.extract k s.size)] → Calls Tryd.prog 12 #[.slice (some ⟨q, 0, none⟩) 2 2] W' fun e w' => e = .returned (.agg ((sum s.data.toList).map byteV).toArray) ∧ Reg.Ext W' w') :=
          fun W' q hx hr => by
            have := of_two q 2 (s.extract 0 k) (s.extract k s.size) W' hr (by omega) (HK.out.ext (XX.out.trans hx)) (HST.out.ext (XX.out.trans hx))
            rw [ext_to, ext_from, List.take_append_drop] at this
            exact this
        clear A10 H10 C10
        go_wp2_with fail
        apply Reg.wp_tab Reg.Ext (by kernel_rfl) (by kernel_rfl) Reg.Ext.refl (fun _ _ _ => Reg.Ext.trans) (Reg.Ext.drew _)
        case h =>
          intro O
          repeat (first
            | (apply Reg.TW.move_ Reg.Ext.refl _ rfl rfl
               · simp only [Act.put, Act.eval, List.setIfInBounds_toArray, List.set_cons_zero, List.set_cons_succ, Nat.reduceAdd, Array.getD_eq_getD_getElem?, List.getElem?_toArray, List.getElem?_cons_succ, List.getElem?_cons_zero, Option.getD_some]
                 rfl)
            | (apply Reg.TW.assign_ Reg.Ext.refl _ rfl rfl
               · simp only [Act.put, Act.eval, List.setIfInBounds_toArray, List.set_cons_zero, List.set_cons_succ, Nat.reduceAdd, Array.getD_eq_getD_getElem?, List.getElem?_toArray, List.getElem?_cons_succ, List.getElem?_cons_zero, Option.getD_some]
                 rfl)
            | (apply Reg.TW.skip_ rfl
               · simp only [Act.put, Act.eval, List.setIfInBounds_toArray, List.set_cons_zero, List.set_cons_succ, Nat.reduceAdd, Array.getD_eq_getD_getElem?, List.getElem?_toArray, List.getElem?_cons_succ, List.getElem?_cons_zero, Option.getD_some]
                 rfl)
            | (apply Reg.TW.pure_ rfl
               · intro w1 hw1 hf K hK
                 simp only [Act.put, List.setIfInBounds_toArray, List.set_cons_zero, List.set_cons_succ] at hK
                 have HK := Lib.hid hK
                 clear hf hK
                 unfold Reg.One; dsimp only
                 go_wp2_with fail
                 exact HK.out _ (Reg.Ext.refl _)
               · simp only [Act.put, Act.eval, List.setIfInBounds_toArray, List.set_cons_zero, List.set_cons_succ, Nat.reduceAdd, Array.getD_eq_getD_getElem?, List.getElem?_toArray, List.getElem?_cons_succ, List.getElem?_cons_zero, Option.getD_some]
                 rfl))
          apply Reg.TW.call_ (c := .agg ((sum s.data.toList).map byteV).toArray) (fun _ => True) rfl (fun _ _ _ h => h)
          · intro w1 hw1 hf K hK
            simp only [Act.put, List.setIfInBounds_toArray, List.set_cons_zero, List.set_cons_succ] at hK
            have HK := Lib.hid hK
            clear hK
            unfold Reg.One; dsimp only
            go_wp2_with fail
            refine (CH.out _ hw1).mono ?_
            rintro e w' ⟨rfl, hx⟩
            go_wp2_with fail
            exact HK.out _ hx trivial
          · simp only [Act.put, Act.eval, List.setIfInBounds_toArray, List.set_cons_zero, List.set_cons_succ, Nat.reduceAdd, Array.getD_eq_getD_getElem?, List.getElem?_toArray, List.getElem?_cons_succ, List.getElem?_cons_zero, Option.getD_some]
            rfl
          apply Reg.TW.pure_ (c := .agg ((sum s.data.toList).map byteV).toArray) rfl
          · intro w1 hw1 hf K hK
            simp only [Act.put, List.setIfInBounds_toArray, List.set_cons_zero, List.set_cons_succ] at hK
            have HK := Lib.hid hK
            clear hK
            unfold Reg.One; dsimp only
            refine wpList_load_row rfl 28 _ rfl g14 rfl 28 ((sum s.data.toList).map byteV).toArray (0, 0) _ (D10.out.ext hw1) Tryd.underlying28 rfl (by rw [List.size_toArray, List.length_map]; kernel_rfl) ?_
            simp only [Act.put, Act.eval, List.setIfInBounds_toArray, List.set_cons_zero, List.set_cons_succ, Nat.reduceAdd, Array.getD_eq_getD_getElem?, List.getElem?_toArray, List.getElem?_cons_succ, List.getElem?_cons_zero, Option.getD_some]
            go_wp2_with fail
            exact HK.out _ (Reg.Ext.refl _)
          · simp only [Act.put, Act.eval, List.setIfInBounds_toArray, List.set_cons_zero, List.set_cons_succ, Nat.reduceAdd, Array.getD_eq_getD_getElem?, List.getElem?_toArray, List.getElem?_cons_succ, List.getElem?_cons_zero, Option.getD_some]
            rfl
          repeat (first
            | (apply Reg.TW.move_ Reg.Ext.refl _ rfl rfl
               · simp only [Act.put, Act.eval, List.setIfInBounds_toArray, List.set_cons_zero, List.set_cons_succ, Nat.reduceAdd, Array.getD_eq_getD_getElem?, List.getElem?_toArray, List.getElem?_cons_succ, List.getElem?_cons_zero, Option.getD_some]
                 rfl)
            | (apply Reg.TW.assign_ Reg.Ext.refl _ rfl rfl
               · simp only [Act.put, Act.eval, List.setIfInBounds_toArray, List.set_cons_zero, List.set_cons_succ, Nat.reduceAdd, Array.getD_eq_getD_getElem?, List.getElem?_toArray, List.getElem?_cons_succ, List.getElem?_cons_zero, Option.getD_some]
                 rfl)
            | (apply Reg.TW.skip_ rfl
               · simp only [Act.put, Act.eval, List.setIfInBounds_toArray, List.set_cons_zero, List.set_cons_succ, Nat.reduceAdd, Array.getD_eq_getD_getElem?, List.getElem?_toArray, List.getElem?_cons_succ, List.getElem?_cons_zero, Option.getD_some]
                 rfl)
            | (apply Reg.TW.pure_ rfl
               · intro w1 hw1 hf K hK
                 simp only [Act.put, List.setIfInBounds_toArray, List.set_cons_zero, List.set_cons_succ] at hK
                 have HK := Lib.hid hK
                 clear hf hK
                 unfold Reg.One; dsimp only
                 go_wp2_with fail
                 exact HK.out _ (Reg.Ext.refl _)
               · simp only [Act.put, Act.eval, List.setIfInBounds_toArray, List.set_cons_zero, List.set_cons_succ, Nat.reduceAdd, Array.getD_eq_getD_getElem?, List.getElem?_toArray, List.getElem?_cons_succ, List.getElem?_cons_zero, Option.getD_some]
                 rfl))
          apply Reg.TW.call_ (c := .agg ((sum s.data.toList).map byteV).toArray) (fun _ => True) rfl (fun _ _ _ h => h)
          · intro w1 hw1 hf K hK
            simp only [Act.put, List.setIfInBounds_toArray, List.set_cons_zero, List.set_cons_succ] at hK
            have HK := Lib.hid hK
            clear hK
            unfold Reg.One; dsimp only
            go_wp2_with fail
            refine (CB.out _ hw1).mono ?_
            rintro e w' ⟨rfl, hx⟩
            go_wp2_with fail
            exact HK.out _ hx trivial
          · simp only [Act.put, Act.eval, List.setIfInBounds_toArray, List.set_cons_zero, List.set_cons_succ, Nat.reduceAdd, Array.getD_eq_getD_getElem?, List.getElem?_toArray, List.getElem?_cons_succ, List.getElem?_cons_zero, Option.getD_some]
            rfl
          apply Reg.TW.pure_ (c := .agg ((sum s.data.toList).map byteV).toArray) rfl
          · intro w1 hw1 hf K hK
            simp only [Act.put, List.setIfInBounds_toArray, List.set_cons_zero, List.set_cons_succ] at hK
            have HK := Lib.hid hK
            clear hK
            unfold Reg.One; dsimp only
            refine wpList_load_row rfl 28 _ rfl g14 rfl 28 ((sum s.data.toList).map byteV).toArray (0, 0) _ (D10.out.ext hw1) Tryd.underlying28 rfl (by rw [List.size_toArray, List.length_map]; kernel_rfl) ?_
            simp only [Act.put, Act.eval, List.setIfInBounds_toArray, List.set_cons_zero, List.set_cons_succ, Nat.reduceAdd, Array.getD_eq_getD_getElem?, List.getElem?_toArray, List.getElem?_cons_succ, List.getElem?_cons_zero, Option.getD_some]
            go_wp2_with fail
            exact HK.out _ (Reg.Ext.refl _)
          · simp only [Act.put, Act.eval, List.setIfInBounds_toArray, List.set_cons_zero, List.set_cons_succ, Nat.reduceAdd, Array.getD_eq_getD_getElem?, List.getElem?_toArray, List.getElem?_cons_succ, List.getElem?_cons_zero, Option.getD_some]
            rfl
          repeat (first
            | (apply Reg.TW.move_ Reg.Ext.refl _ rfl rfl
               · simp only [Act.put, Act.eval, List.setIfInBounds_toArray, List.set_cons_zero, List.set_cons_succ, Nat.reduceAdd, Array.getD_eq_getD_getElem?, List.getElem?_toArray, List.getElem?_cons_succ, List.getElem?_cons_zero, Option.getD_some]
                 rfl)
            | (apply Reg.TW.assign_ Reg.Ext.refl _ rfl rfl
               · simp only [Act.put, Act.eval, List.setIfInBounds_toArray, List.set_cons_zero, List.set_cons_succ, Nat.reduceAdd, Array.getD_eq_getD_getElem?, List.getElem?_toArray, List.getElem?_cons_succ, List.getElem?_cons_zero, Option.getD_some]
                 rfl)
            | (apply Reg.TW.skip_ rfl
               · simp only [Act.put, Act.eval, List.setIfInBounds_toArray, List.set_cons_zero, List.set_cons_succ, Nat.reduceAdd, Array.getD_eq_getD_getElem?, List.getElem?_toArray, List.getElem?_cons_succ, List.getElem?_cons_zero, Option.getD_some]
                 rfl)
            | (apply Reg.TW.pure_ rfl
               · intro w1 hw1 hf K hK
                 simp only [Act.put, List.setIfInBounds_toArray, List.set_cons_zero, List.set_cons_succ] at hK
                 have HK := Lib.hid hK
                 clear hf hK
                 unfold Reg.One; dsimp only
                 go_wp2_with fail
                 exact HK.out _ (Reg.Ext.refl _)
               · simp only [Act.put, Act.eval, List.setIfInBounds_toArray, List.set_cons_zero, List.set_cons_succ, Nat.reduceAdd, Array.getD_eq_getD_getElem?, List.getElem?_toArray, List.getElem?_cons_succ, List.getElem?_cons_zero, Option.getD_some]
                 rfl))
          apply Reg.TW.call_ (c := .agg ((sum (s.data.toList.take k)).map byteV).toArray) (fun _ => True) rfl (fun _ _ _ h => h)
          · intro w1 hw1 hf K hK
            simp only [Act.put, List.setIfInBounds_toArray, List.set_cons_zero, List.set_cons_succ] at hK
            have HK := Lib.hid hK
            clear hK
            unfold Reg.One; dsimp only
            go_wp2_with fail
            refine (CA.out _ hw1).mono ?_
            rintro e w' ⟨rfl, hx⟩
            go_wp2_with fail
            exact HK.out _ hx trivial
          · simp only [Act.put, Act.eval, List.setIfInBounds_toArray, List.set_cons_zero, List.set_cons_succ, Nat.reduceAdd, Array.getD_eq_getD_getElem?, List.getElem?_toArray, List.getElem?_cons_succ, List.getElem?_cons_zero, Option.getD_some]
            rfl
          apply Reg.TW.pure_ (c := .agg ((sum (s.data.toList.take k)).map byteV).toArray) rfl
          · intro w1 hw1 hf K hK
            simp only [Act.put, List.setIfInBounds_toArray, List.set_cons_zero, List.set_cons_succ] at hK
            have HK := Lib.hid hK
            clear hK
            unfold Reg.One; dsimp only
            refine wpList_load_row rfl 28 _ rfl g12 rfl 28 ((sum (s.data.toList.take k)).map byteV).toArray (0, 0) _ (B10.out.ext hw1) Tryd.underlying28 rfl (by rw [List.size_toArray, List.length_map]; kernel_rfl) ?_
            simp only [Act.put, Act.eval, List.setIfInBounds_toArray, List.set_cons_zero, List.set_cons_succ, Nat.reduceAdd, Array.getD_eq_getD_getElem?, List.getElem?_toArray, List.getElem?_cons_succ, List.getElem?_cons_zero, Option.getD_some]
            go_wp2_with fail
            exact HK.out _ (Reg.Ext.refl _)
          · simp only [Act.put, Act.eval, List.setIfInBounds_toArray, List.set_cons_zero, List.set_cons_succ, Nat.reduceAdd, Array.getD_eq_getD_getElem?, List.getElem?_toArray, List.getElem?_cons_succ, List.getElem?_cons_zero, Option.getD_some]
            rfl
          repeat (first
            | (apply Reg.TW.move_ Reg.Ext.refl _ rfl rfl
               · simp only [Act.put, Act.eval, List.setIfInBounds_toArray, List.set_cons_zero, List.set_cons_succ, Nat.reduceAdd, Array.getD_eq_getD_getElem?, List.getElem?_toArray, List.getElem?_cons_succ, List.getElem?_cons_zero, Option.getD_some]
                 rfl)
            | (apply Reg.TW.assign_ Reg.Ext.refl _ rfl rfl
               · simp only [Act.put, Act.eval, List.setIfInBounds_toArray, List.set_cons_zero, List.set_cons_succ, Nat.reduceAdd, Array.getD_eq_getD_getElem?, List.getElem?_toArray, List.getElem?_cons_succ, List.getElem?_cons_zero, Option.getD_some]
                 rfl)
            | (apply Reg.TW.skip_ rfl
               · simp only [Act.put, Act.eval, List.setIfInBounds_toArray, List.set_cons_zero, List.set_cons_succ, Nat.reduceAdd, Array.getD_eq_getD_getElem?, List.getElem?_toArray, List.getElem?_cons_succ, List.getElem?_cons_zero, Option.getD_some]
                 rfl)
            | (apply Reg.TW.pure_ rfl
               · intro w1 hw1 hf K hK
                 simp only [Act.put, List.setIfInBounds_toArray, List.set_cons_zero, List.set_cons_succ] at hK
                 have HK := Lib.hid hK
                 clear hf hK
                 unfold Reg.One; dsimp only
                 go_wp2_with fail
                 exact HK.out _ (Reg.Ext.refl _)
               · simp only [Act.put, Act.eval, List.setIfInBounds_toArray, List.set_cons_zero, List.set_cons_succ, Nat.reduceAdd, Array.getD_eq_getD_getElem?, List.getElem?_toArray, List.getElem?_cons_succ, List.getElem?_cons_zero, Option.getD_some]
                 rfl))
          apply Reg.TW.pure_ (c := .agg ((sum (s.data.toList.take k)).map byteV).toArray) rfl
          · intro w1 hw1 hf K hK
            simp only [Act.put, List.setIfInBounds_toArray, List.set_cons_zero, List.set_cons_succ] at hK
            have HK := Lib.hid hK
            clear hK
            unfold Reg.One; dsimp only
            refine wpList_load_row rfl 28 _ rfl g12 rfl 28 ((sum (s.data.toList.take k)).map byteV).toArray (0, 0) _ (B10.out.ext hw1) Tryd.underlying28 rfl (by rw [List.size_toArray, List.length_map]; kernel_rfl) ?_
            simp only [Act.put, Act.eval, List.setIfInBounds_toArray, List.set_cons_zero, List.set_cons_succ, Nat.reduceAdd, Array.getD_eq_getD_getElem?, List.getElem?_toArray, List.getElem?_cons_succ, List.getElem?_cons_zero, Option.getD_some]
            go_wp2_with fail
            exact HK.out _ (Reg.Ext.refl _)
          · simp only [Act.put, Act.eval, List.setIfInBounds_toArray, List.set_cons_zero, List.set_cons_succ, Nat.reduceAdd, Array.getD_eq_getD_getElem?, List.getElem?_toArray, List.getElem?_cons_succ, List.getElem?_cons_zero, Option.getD_some]
            rfl
          repeat (first
            | (apply Reg.TW.move_ Reg.Ext.refl _ rfl rfl
               · simp only [Act.put, Act.eval, List.setIfInBounds_toArray, List.set_cons_zero, List.set_cons_succ, Nat.reduceAdd, Array.getD_eq_getD_getElem?, List.getElem?_toArray, List.getElem?_cons_succ, List.getElem?_cons_zero, Option.getD_some]
                 rfl)
            | (apply Reg.TW.assign_ Reg.Ext.refl _ rfl rfl
               · simp only [Act.put, Act.eval, List.setIfInBounds_toArray, List.set_cons_zero, List.set_cons_succ, Nat.reduceAdd, Array.getD_eq_getD_getElem?, List.getElem?_toArray, List.getElem?_cons_succ, List.getElem?_cons_zero, Option.getD_some]
                 rfl)
            | (apply Reg.TW.skip_ rfl
               · simp only [Act.put, Act.eval, List.setIfInBounds_toArray, List.set_cons_zero, List.set_cons_succ, Nat.reduceAdd, Array.getD_eq_getD_getElem?, List.getElem?_toArray, List.getElem?_cons_succ, List.getElem?_cons_zero, Option.getD_some]
                 rfl)
            | (apply Reg.TW.pure_ rfl
               · intro w1 hw1 hf K hK
                 simp only [Act.put, List.setIfInBounds_toArray, List.set_cons_zero, List.set_cons_succ] at hK
                 have HK := Lib.hid hK
                 clear hf hK
                 unfold Reg.One; dsimp only
                 go_wp2_with fail
                 exact HK.out _ (Reg.Ext.refl _)
               · simp only [Act.put, Act.eval, List.setIfInBounds_toArray, List.set_cons_zero, List.set_cons_succ, Nat.reduceAdd, Array.getD_eq_getD_getElem?, List.getElem?_toArray, List.getElem?_cons_succ, List.getElem?_cons_zero, Option.getD_some]
                 rfl))
          apply Reg.TW.any_ (fun vq wq => ∃ bq, vq = .slice (some ⟨bq, 0, none⟩) 1 1 ∧ Rd wq (some ⟨bq, 0, none⟩) (List.map strV [s.extract 0 k])) rfl (fun _ _ _ h ⟨bq, e, hr⟩ => ⟨bq, e, hr.below h⟩)
          · intro w1 hw1 hf K hK
            simp only [Act.put, List.setIfInBounds_toArray, List.set_cons_zero, List.set_cons_succ] at hK
            have HK := Lib.hid hK
            clear hK
            unfold Reg.One; dsimp only
            go_wp2_with fail
            exact HK.out _ _ (Reg.Ext.alloc _ _) ⟨_, rfl, Rd.new w1 9 (List.map strV [s.extract 0 k]).toArray⟩
          intro v91 a1 ha
          simp only [Act.put, Act.eval, List.setIfInBounds_toArray, List.set_cons_zero, List.set_cons_succ, Nat.reduceAdd, Array.getD_eq_getD_getElem?, List.getElem?_toArray, List.getElem?_cons_succ, List.getElem?_cons_zero, Option.getD_some] at ha
          subst ha
          apply Reg.TW.call_ (c := .agg ((sum (s.data.toList.take k)).map byteV).toArray) (fun _ => True) rfl (fun _ _ _ h => h)
          · intro w1 hw1 hf K hK
            simp only [Act.put, List.setIfInBounds_toArray, List.set_cons_zero, List.set_cons_succ] at hK
            have HK := Lib.hid hK
            clear hK
            unfold Reg.One; dsimp only
            obtain ⟨b0, rfl, hr⟩ := hf.get0 (by kernel_rfl)
            go_wp2_with fail
            refine (CO1.out _ _ hw1 hr).mono ?_
            rintro e w' ⟨rfl, hx⟩
            go_wp2_with fail
            exact HK.out _ hx trivial
          · simp only [Act.put, Act.eval, List.setIfInBounds_toArray, List.set_cons_zero, List.set_cons_succ, Nat.reduceAdd, Array.getD_eq_getD_getElem?, List.getElem?_toArray, List.getElem?_cons_succ, List.getElem?_cons_zero, Option.getD_some]
            rfl
          repeat (first
            | (apply Reg.TW.move_ Reg.Ext.refl _ rfl rfl
               · simp only [Act.put, Act.eval, List.setIfInBounds_toArray, List.set_cons_zero, List.set_cons_succ, Nat.reduceAdd, Array.getD_eq_getD_getElem?, List.getElem?_toArray, List.getElem?_cons_succ, List.getElem?_cons_zero, Option.getD_some]
                 rfl)
            | (apply Reg.TW.assign_ Reg.Ext.refl _ rfl rfl
               · simp only [Act.put, Act.eval, List.setIfInBounds_toArray, List.set_cons_zero, List.set_cons_succ, Nat.reduceAdd, Array.getD_eq_getD_getElem?, List.getElem?_toArray, List.getElem?_cons_succ, List.getElem?_cons_zero, Option.getD_some]
                 rfl)
            | (apply Reg.TW.skip_ rfl
               · simp only [Act.put, Act.eval, List.setIfInBounds_toArray, List.set_cons_zero, List.set_cons_succ, Nat.reduceAdd, Array.getD_eq_getD_getElem?, List.getElem?_toArray, List.getElem?_cons_succ, List.getElem?_cons_zero, Option.getD_some]
                 rfl)
            | (apply Reg.TW.pure_ rfl
               · intro w1 hw1 hf K hK
                 simp only [Act.put, List.setIfInBounds_toArray, List.set_cons_zero, List.set_cons_succ] at hK
                 have HK := Lib.hid hK
                 clear hf hK
                 unfold Reg.One; dsimp only
                 go_wp2_with fail
                 exact HK.out _ (Reg.Ext.refl _)
               · simp only [Act.put, Act.eval, List.setIfInBounds_toArray, List.set_cons_zero, List.set_cons_succ, Nat.reduceAdd, Array.getD_eq_getD_getElem?, List.getElem?_toArray, List.getElem?_cons_succ, List.getElem?_cons_zero, Option.getD_some]
                 rfl))
          apply Reg.TW.call_ (c := .int .i64 (k : Int)) (fun _ => True) rfl (fun _ _ _ h => h)
          · intro w1 hw1 hf K hK
            simp only [Act.put, List.setIfInBounds_toArray, List.set_cons_zero, List.set_cons_succ] at hK
            have HK := Lib.hid hK
            clear hK
            unfold Reg.One; dsimp only
            go_wp2_with fail
            refine (CLA.out _ hw1).mono ?_
            rintro e w' ⟨rfl, rfl⟩
            go_wp2_with fail
            exact HK.out _ (Reg.Ext.refl _) trivial
          · simp only [Act.put, Act.eval, List.setIfInBounds_toArray, List.set_cons_zero, List.set_cons_succ, Nat.reduceAdd, Array.getD_eq_getD_getElem?, List.getElem?_toArray, List.getElem?_cons_succ, List.getElem?_cons_zero, Option.getD_some]
            rfl
          repeat (first
            | (apply Reg.TW.move_ Reg.Ext.refl _ rfl rfl
               · simp only [Act.put, Act.eval, List.setIfInBounds_toArray, List.set_cons_zero, List.set_cons_succ, Nat.reduceAdd, Array.getD_eq_getD_getElem?, List.getElem?_toArray, List.getElem?_cons_succ, List.getElem?_cons_zero, Option.getD_some]
                 rfl)
            | (apply Reg.TW.assign_ Reg.Ext.refl _ rfl rfl
               · simp only [Act.put, Act.eval, List.setIfInBounds_toArray, List.set_cons_zero, List.set_cons_succ, Nat.reduceAdd, Array.getD_eq_getD_getElem?, List.getElem?_toArray, List.getElem?_cons_succ, List.getElem?_cons_zero, Option.getD_some]
                 rfl)
            | (apply Reg.TW.skip_ rfl
               · simp only [Act.put, Act.eval, List.setIfInBounds_toArray, List.set_cons_zero, List.set_cons_succ, Nat.reduceAdd, Array.getD_eq_getD_getElem?, List.getElem?_toArray, List.getElem?_cons_succ, List.getElem?_cons_zero, Option.getD_some]
                 rfl)
            | (apply Reg.TW.pure_ rfl
               · intro w1 hw1 hf K hK
                 simp only [Act.put, List.setIfInBounds_toArray, List.set_cons_zero, List.set_cons_succ] at hK
                 have HK := Lib.hid hK
                 clear hf hK
                 unfold Reg.One; dsimp only
                 go_wp2_with fail
                 exact HK.out _ (Reg.Ext.refl _)
               · simp only [Act.put, Act.eval, List.setIfInBounds_toArray, List.set_cons_zero, List.set_cons_succ, Nat.reduceAdd, Array.getD_eq_getD_getElem?, List.getElem?_toArray, List.getElem?_cons_succ, List.getElem?_cons_zero, Option.getD_some]
                 rfl))
          apply Reg.TW.call_ (c := .int .i64 (s.size : Int)) (fun _ => True) rfl (fun _ _ _ h => h)
          · intro w1 hw1 hf K hK
            simp only [Act.put, List.setIfInBounds_toArray, List.set_cons_zero, List.set_cons_succ] at hK
            have HK := Lib.hid hK
            clear hK
            unfold Reg.One; dsimp only
            go_wp2_with fail
            refine (CLB.out _ hw1).mono ?_
            rintro e w' ⟨rfl, rfl⟩
            go_wp2_with fail
            exact HK.out _ (Reg.Ext.refl _) trivial
          · simp only [Act.put, Act.eval, List.setIfInBounds_toArray, List.set_cons_zero, List.set_cons_succ, Nat.reduceAdd, Array.getD_eq_getD_getElem?, List.getElem?_toArray, List.getElem?_cons_succ, List.getElem?_cons_zero, Option.getD_some]
            rfl
          repeat (first
            | (apply Reg.TW.move_ Reg.Ext.refl _ rfl rfl
               · simp only [Act.put, Act.eval, List.setIfInBounds_toArray, List.set_cons_zero, List.set_cons_succ, Nat.reduceAdd, Array.getD_eq_getD_getElem?, List.getElem?_toArray, List.getElem?_cons_succ, List.getElem?_cons_zero, Option.getD_some]
                 rfl)
            | (apply Reg.TW.assign_ Reg.Ext.refl _ rfl rfl
               · simp only [Act.put, Act.eval, List.setIfInBounds_toArray, List.set_cons_zero, List.set_cons_succ, Nat.reduceAdd, Array.getD_eq_getD_getElem?, List.getElem?_toArray, List.getElem?_cons_succ, List.getElem?_cons_zero, Option.getD_some]
                 rfl)
            | (apply Reg.TW.skip_ rfl
               · simp only [Act.put, Act.eval, List.setIfInBounds_toArray, List.set_cons_zero, List.set_cons_succ, Nat.reduceAdd, Array.getD_eq_getD_getElem?, List.getElem?_toArray, List.getElem?_cons_succ, List.getElem?_cons_zero, Option.getD_some]
                 rfl)
            | (apply Reg.TW.pure_ rfl
               · intro w1 hw1 hf K hK
                 simp only [Act.put, List.setIfInBounds_toArray, List.set_cons_zero, List.set_cons_succ] at hK
                 have HK := Lib.hid hK
                 clear hf hK
                 unfold Reg.One; dsimp only
                 go_wp2_with fail
                 exact HK.out _ (Reg.Ext.refl _)
               · simp only [Act.put, Act.eval, List.setIfInBounds_toArray, List.set_cons_zero, List.set_cons_succ, Nat.reduceAdd, Array.getD_eq_getD_getElem?, List.getElem?_toArray, List.getElem?_cons_succ, List.getElem?_cons_zero, Option.getD_some]
                 rfl))
          apply Reg.TW.any_ (fun vq wq => ∃ bq, vq = .slice (some ⟨bq, 0, none⟩) 2 2 ∧ Rd wq (some ⟨bq, 0, none⟩) (List.map strV [s.extract 0 k, s.extract k s.size])) rfl (fun _ _ _ h ⟨bq, e, hr⟩ => ⟨bq, e, hr.below h⟩)
          · intro w1 hw1 hf K hK
            simp only [Act.put, List.setIfInBounds_toArray, List.set_cons_zero, List.set_cons_succ] at hK
            have HK := Lib.hid hK
            clear hK
            unfold Reg.One; dsimp only
            go_wp2_with fail
            exact HK.out _ _ (Reg.Ext.alloc _ _) ⟨_, rfl, Rd.new w1 9 (List.map strV [s.extract 0 k, s.extract k s.size]).toArray⟩
          intro v115 a1 ha
          simp only [Act.put, Act.eval, List.setIfInBounds_toArray, List.set_cons_zero, List.set_cons_succ, Nat.reduceAdd, Array.getD_eq_getD_getElem?, List.getElem?_toArray, List.getElem?_cons_succ, List.getElem?_cons_zero, Option.getD_some] at ha
          subst ha
          apply Reg.TW.call_ (c := .agg ((sum s.data.toList).map byteV).toArray) (fun _ => True) rfl (fun _ _ _ h => h)
          · intro w1 hw1 hf K hK
            simp only [Act.put, List.setIfInBounds_toArray, List.set_cons_zero, List.set_cons_succ] at hK
            have HK := Lib.hid hK
            clear hK
            unfold Reg.One; dsimp only
            obtain ⟨b0, rfl, hr⟩ := hf.get0 (by kernel_rfl)
            go_wp2_with fail
            refine (CO2.out _ _ hw1 hr).mono ?_
            rintro e w' ⟨rfl, hx⟩
            go_wp2_with fail
            exact HK.out _ hx trivial
          · simp only [Act.put, Act.eval, List.setIfInBounds_toArray, List.set_cons_zero, List.set_cons_succ, Nat.reduceAdd, Array.getD_eq_getD_getElem?, List.getElem?_toArray, List.getElem?_cons_succ, List.getElem?_cons_zero, Option.getD_some]
            rfl
          apply Reg.TW.pure_ (c := .agg ((sum s.data.toList).map byteV).toArray) rfl
          · intro w1 hw1 hf K hK
            simp only [Act.put, List.setIfInBounds_toArray, List.set_cons_zero, List.set_cons_succ] at hK
            have HK := Lib.hid hK
            clear hK
            unfold Reg.One; dsimp only
            refine wpList_load_row rfl 28 _ rfl g14 rfl 28 ((sum s.data.toList).map byteV).toArray (0, 0) _ (D10.out.ext hw1) Tryd.underlying28 rfl (by rw [List.size_toArray, List.length_map]; kernel_rfl) ?_
            simp only [Act.put, Act.eval, List.setIfInBounds_toArray, List.set_cons_zero, List.set_cons_succ, Nat.reduceAdd, Array.getD_eq_getD_getElem?, List.getElem?_toArray, List.getElem?_cons_succ, List.getElem?_cons_zero, Option.getD_some]
            go_wp2_with fail
            exact HK.out _ (Reg.Ext.refl _)
          · simp only [Act.put, Act.eval, List.setIfInBounds_toArray, List.set_cons_zero, List.set_cons_succ, Nat.reduceAdd, Array.getD_eq_getD_getElem?, List.getElem?_toArray, List.getElem?_cons_succ, List.getElem?_cons_zero, Option.getD_some]
            rfl
          repeat (first
            | (apply Reg.TW.move_ Reg.Ext.refl _ rfl rfl
               · simp only [Act.put, Act.eval, List.setIfInBounds_toArray, List.set_cons_zero, List.set_cons_succ, Nat.reduceAdd, Array.getD_eq_getD_getElem?, List.getElem?_toArray, List.getElem?_cons_succ, List.getElem?_cons_zero, Option.getD_some]
                 rfl)
            | (apply Reg.TW.assign_ Reg.Ext.refl _ rfl rfl
               · simp only [Act.put, Act.eval, List.setIfInBounds_toArray, List.set_cons_zero, List.set_cons_succ, Nat.reduceAdd, Array.getD_eq_getD_getElem?, List.getElem?_toArray, List.getElem?_cons_succ, List.getElem?_cons_zero, Option.getD_some]
                 rfl)
            | (apply Reg.TW.skip_ rfl
               · simp only [Act.put, Act.eval, List.setIfInBounds_toArray, List.set_cons_zero, List.set_cons_succ, Nat.reduceAdd, Array.getD_eq_getD_getElem?, List.getElem?_toArray, List.getElem?_cons_succ, List.getElem?_cons_zero, Option.getD_some]
                 rfl)
            | (apply Reg.TW.pure_ rfl
               · intro w1 hw1 hf K hK
                 simp only [Act.put, List.setIfInBounds_toArray, List.set_cons_zero, List.set_cons_succ] at hK
                 have HK := Lib.hid hK
                 clear hf hK
                 unfold Reg.One; dsimp only
                 go_wp2_with fail
                 exact HK.out _ (Reg.Ext.refl _)
               · simp only [Act.put, Act.eval, List.setIfInBounds_toArray, List.set_cons_zero, List.set_cons_succ, Nat.reduceAdd, Array.getD_eq_getD_getElem?, List.getElem?_toArray, List.getElem?_cons_succ, List.getElem?_cons_zero, Option.getD_some]
                 rfl))
          refine Reg.TW.nil_ ?_
          intro w3 hw3 _
          go_wp2
          go_ret
          exact ⟨rfl, XX.out.trans hw3⟩
        case hlen => rfl
  · have d1 : decide ((16384 : Int) < (s.size : Int)) = true := by simp; omega
    go_enter Tryd.func4, Tryd.ntmps4
    go_wp2_with fail
    refine (awake_any w HK.out HST.out).mono ?_
    rintro e w1 ⟨rfl, x1⟩
    go_wp2_with fail
    go_ret
    exact ⟨rfl, x1⟩
end Sha
end Go.Proofs.YthgbhpeidngjmaaDoor

/- The walks of the laws awake and ShaNone. -/
import Derived.Test.YthgbhpeidngjmaaDoorShaOf
import Derived.Test.YthgbhpeidngjmaaDoorShaLen
import Derived.Test.YthgbhpeidngjmaaDoorBytesEq
set_option linter.unusedSimpArgs false
set_option linter.unusedVariables false
set_option linter.unusedSectionVars false
namespace Go.Proofs.YthgbhpeidngjmaaDoor
open Go.RowKit
namespace Sha
open ShaP
theorem sum_length (l : List UInt8) : (sum l).length = 32 := rfl
theorem cellsE : Tryd.prog.cellsOf 5 = 1 := by kernel_rfl
theorem info_byte' : ∃ i, Tryd.prog.info? 5 = some i := by
  cases h : Tryd.prog.info? 5 with
  | none => have := info_byte; rw [h] at this; cases this
  | some i => exact ⟨i, rfl⟩
theorem equal_sums (l m : List UInt8) (w : World) : (Op.equalIn 10000 28 (.agg ((sum l).map byteV).toArray) (.agg ((sum m).map byteV).toArray)).run Tryd.prog w = .ok (sum l == sum m) w := by
  obtain ⟨i, hi⟩ := info_byte'
  exact run_equal_bytes w 9998 Tryd.underlying28 hi Tryd.underlying5 cellsE _ _ (sum_length l) (sum_length m)
attribute [local go_sem] equal_sums
theorem sum_abc : sum [97, 98, 99] = [0xba, 0x78, 0x16, 0xbf, 0x8f, 0x01, 0xcf, 0xea, 0x41, 0x41, 0x40, 0xde, 0x5d, 0xae, 0x22, 0x23, 0xb0, 0x03, 0x61, 0xa3, 0x96, 0x17, 0x7a, 0x9c, 0xb4, 0x10, 0xff, 0x61, 0xf2, 0x00, 0x15, 0xad] := by decide +kernel
theorem sum_none : sum [] = [0xe3, 0xb0, 0xc4, 0x42, 0x98, 0xfc, 0x1c, 0x14, 0x9a, 0xfb, 0xf4, 0xc8, 0x99, 0x6f, 0xb9, 0x24, 0x27, 0xae, 0x41, 0xe4, 0x64, 0x9b, 0x93, 0x4c, 0xa4, 0x95, 0x99, 0x1b, 0x78, 0x52, 0xb8, 0x55] := by decide +kernel
theorem keep (w : World) (L : List UInt8) (hL : L.length = 32) : let w1 := (w.alloc (Obj.cells #[Value.int .u8 0, Value.int .u8 0, Value.int .u8 0, Value.int .u8 0, Value.int .u8 0, Value.int .u8 0, Value.int .u8 0, Value.int .u8 0, Value.int .u8 0, Value.int .u8 0, Value.int .u8 0, Value.int .u8 0, Value.int .u8 0, Value.int .u8 0, Value.int .u8 0, Value.int .u8 0, Value.int .u8 0, Value.int .u8 0, Value.int .u8 0, Value.int .u8 0, Value.int .u8 0, Value.int .u8 0, Value.int .u8 0, Value.int .u8 0, Value.int .u8 0, Value.int .u8 0, Value.int .u8 0, Value.int .u8 0, Value.int .u8 0, Value.int .u8 0, Value.int .u8 0, Value.int .u8 0] 28)).setCells w.heap.size 0 (L.map byteV)
    Reg.Ext w w1 ∧ Blk w1 w.heap.size 28 (L.map byteV) := by
  have hb := Blk.new w 28 #[Value.int .u8 0, Value.int .u8 0, Value.int .u8 0, Value.int .u8 0, Value.int .u8 0, Value.int .u8 0, Value.int .u8 0, Value.int .u8 0, Value.int .u8 0, Value.int .u8 0, Value.int .u8 0, Value.int .u8 0, Value.int .u8 0, Value.int .u8 0, Value.int .u8 0, Value.int .u8 0, Value.int .u8 0, Value.int .u8 0, Value.int .u8 0, Value.int .u8 0, Value.int .u8 0, Value.int .u8 0, Value.int .u8 0, Value.int .u8 0, Value.int .u8 0, Value.int .u8 0, Value.int .u8 0, Value.int .u8 0, Value.int .u8 0, Value.int .u8 0, Value.int .u8 0, Value.int .u8 0]
  have hx := Reg.Ext.alloc w (Obj.cells #[Value.int .u8 0, Value.int .u8 0, Value.int .u8 0, Value.int .u8 0, Value.int .u8 0, Value.int .u8 0, Value.int .u8 0, Value.int .u8 0, Value.int .u8 0, Value.int .u8 0, Value.int .u8 0, Value.int .u8 0, Value.int .u8 0, Value.int .u8 0, Value.int .u8 0, Value.int .u8 0, Value.int .u8 0, Value.int .u8 0, Value.int .u8 0, Value.int .u8 0, Value.int .u8 0, Value.int .u8 0, Value.int .u8 0, Value.int .u8 0, Value.int .u8 0, Value.int .u8 0, Value.int .u8 0, Value.int .u8 0, Value.int .u8 0, Value.int .u8 0, Value.int .u8 0, Value.int .u8 0] 28)
  exact ⟨hx.trans_but (But.setCells w.heap.size _ _ _) (Nat.le_refl _), hb.setAll _ (by rw [List.length_map, hL]; rfl)⟩
theorem keep_there (w : World) (L : List UInt8) (hL : L.length = 32) : (w.alloc (Obj.cells #[Value.int .u8 0, Value.int .u8 0, Value.int .u8 0, Value.int .u8 0, Value.int .u8 0, Value.int .u8 0, Value.int .u8 0, Value.int .u8 0, Value.int .u8 0, Value.int .u8 0, Value.int .u8 0, Value.int .u8 0, Value.int .u8 0, Value.int .u8 0, Value.int .u8 0, Value.int .u8 0, Value.int .u8 0, Value.int .u8 0, Value.int .u8 0, Value.int .u8 0, Value.int .u8 0, Value.int .u8 0, Value.int .u8 0, Value.int .u8 0, Value.int .u8 0, Value.int .u8 0, Value.int .u8 0, Value.int .u8 0, Value.int .u8 0, Value.int .u8 0, Value.int .u8 0, Value.int .u8 0] 28)).there w.heap.size 0 (L.map byteV).toArray.size := by
  have hb := Blk.new w 28 #[Value.int .u8 0, Value.int .u8 0, Value.int .u8 0, Value.int .u8 0, Value.int .u8 0, Value.int .u8 0, Value.int .u8 0, Value.int .u8 0, Value.int .u8 0, Value.int .u8 0, Value.int .u8 0, Value.int .u8 0, Value.int .u8 0, Value.int .u8 0, Value.int .u8 0, Value.int .u8 0, Value.int .u8 0, Value.int .u8 0, Value.int .u8 0, Value.int .u8 0, Value.int .u8 0, Value.int .u8 0, Value.int .u8 0, Value.int .u8 0, Value.int .u8 0, Value.int .u8 0, Value.int .u8 0, Value.int .u8 0, Value.int .u8 0, Value.int .u8 0, Value.int .u8 0, Value.int .u8 0]
  exact hb.there _ (by rw [List.size_toArray, List.length_map, hL]; exact Nat.le_refl _)
set_option maxRecDepth 100000 in
set_option maxHeartbeats 2000000 in
theorem awake_any (w : World) (hk : Keys w) (hst : StartIs w) : Calls Tryd.prog 6 #[] w fun e w' => e = .returned (.bool true) ∧ Reg.Ext w w' := by
  have HK := Lib.hid hk
  have HS := Lib.hid hst
  clear hk hst
  go_enter Tryd.func6, Tryd.ntmps6
  go_wp2_with fail
  have x1 : Reg.Ext w (w.alloc (Obj.cells #[Value.string ⟨#[97, 98, 99]⟩] 9)) := Reg.Ext.alloc _ _
  have r1 := Rd.new w 9 #[strV ⟨#[97, 98, 99]⟩]
  refine (of_any _ 1 1 [⟨#[97, 98, 99]⟩] _ rfl (by decide) r1 (by decide) (HK.out.ext x1) (HS.out.ext x1)).mono ?_
  rintro e w2 ⟨rfl, x2⟩
  have X2 := Lib.hid (x1.trans x2)
  clear x1 x2 r1
  rename_i hK
  refine hK _ _ ?_
  iterate 3 go_step
  refine wpList_store_mid rfl 28 _ _ rfl w2.heap.size 0 ((sum (cat [⟨#[97, 98, 99]⟩])).map byteV).toArray rfl rfl (keep_there w2 _ rfl) (by rw [List.size_toArray, List.length_map]; kernel_rfl) ?_ ?_
  · refine all_oneCell_toArray fun v hv => ?_
    obtain ⟨x, _, rfl⟩ := List.mem_map.1 hv
    rfl
  simp only [List.toList_toArray]
  obtain ⟨hxk, hbk⟩ := keep w2 (sum (cat [⟨#[97, 98, 99]⟩])) rfl
  generalize (w2.alloc (Obj.cells #[Value.int .u8 0, Value.int .u8 0, Value.int .u8 0, Value.int .u8 0, Value.int .u8 0, Value.int .u8 0, Value.int .u8 0, Value.int .u8 0, Value.int .u8 0, Value.int .u8 0, Value.int .u8 0, Value.int .u8 0, Value.int .u8 0, Value.int .u8 0, Value.int .u8 0, Value.int .u8 0, Value.int .u8 0, Value.int .u8 0, Value.int .u8 0, Value.int .u8 0, Value.int .u8 0, Value.int .u8 0, Value.int .u8 0, Value.int .u8 0, Value.int .u8 0, Value.int .u8 0, Value.int .u8 0, Value.int .u8 0, Value.int .u8 0, Value.int .u8 0, Value.int .u8 0, Value.int .u8 0] 28)).setCells w2.heap.size 0 ((sum (cat [⟨#[97, 98, 99]⟩])).map byteV) = w3 at *
  have HX3 := Lib.hid hxk
  have HB3 := Lib.hid hbk
  clear hxk hbk
  simp only [Act.put, Act.eval, List.setIfInBounds_toArray, List.set_cons_zero, List.set_cons_succ, Nat.reduceAdd, Array.getD_eq_getD_getElem?, List.getElem?_toArray, List.getElem?_cons_succ, List.getElem?_cons_zero, Option.getD_some]
  have X3 := Lib.hid (X2.out.trans HX3.out)
  have hB := HB3.out
  rw [show cat [⟨#[97, 98, 99]⟩] = [97, 98, 99] from rfl, sum_abc] at hB
  have HB := Lib.hid hB
  clear hB X2 HX3 HB3
  go_wp2_with fail
  refine (of_any none 0 0 [] w3 rfl (by decide) (Rd.nil_ _ _) (by decide) (HK.out.ext X3.out) (HS.out.ext X3.out)).mono ?_
  rintro e w4 ⟨rfl, x4⟩
  have X4 := Lib.hid (X3.out.trans x4)
  have HBB := Lib.hid (HB.out.ext x4)
  clear x4 HB X3
  rename_i hK
  refine hK _ _ ?_
  iterate 3 go_step
  refine wpList_store_mid rfl 28 _ _ rfl w4.heap.size 0 ((sum (cat [])).map byteV).toArray rfl rfl (keep_there w4 _ rfl) (by rw [List.size_toArray, List.length_map]; kernel_rfl) ?_ ?_
  · refine all_oneCell_toArray fun v hv => ?_
    obtain ⟨x, _, rfl⟩ := List.mem_map.1 hv
    rfl
  simp only [List.toList_toArray]
  obtain ⟨hxk, hbk⟩ := keep w4 (sum (cat [])) rfl
  generalize (w4.alloc (Obj.cells #[Value.int .u8 0, Value.int .u8 0, Value.int .u8 0, Value.int .u8 0, Value.int .u8 0, Value.int .u8 0, Value.int .u8 0, Value.int .u8 0, Value.int .u8 0, Value.int .u8 0, Value.int .u8 0, Value.int .u8 0, Value.int .u8 0, Value.int .u8 0, Value.int .u8 0, Value.int .u8 0, Value.int .u8 0, Value.int .u8 0, Value.int .u8 0, Value.int .u8 0, Value.int .u8 0, Value.int .u8 0, Value.int .u8 0, Value.int .u8 0, Value.int .u8 0, Value.int .u8 0, Value.int .u8 0, Value.int .u8 0, Value.int .u8 0, Value.int .u8 0, Value.int .u8 0, Value.int .u8 0] 28)).setCells w4.heap.size 0 ((sum (cat [])).map byteV) = w5 at *
  have HX5 := Lib.hid hxk
  have HB5 := Lib.hid hbk
  clear hxk hbk
  simp only [Act.put, Act.eval, List.setIfInBounds_toArray, List.set_cons_zero, List.set_cons_succ, Nat.reduceAdd, Array.getD_eq_getD_getElem?, List.getElem?_toArray, List.getElem?_cons_succ, List.getElem?_cons_zero, Option.getD_some]
  have X5 := Lib.hid (X4.out.trans HX5.out)
  have HA5 := HBB.out.ext HX5.out
  have hB := HB5.out
  rw [show cat [] = [] from rfl, sum_none] at hB
  have a0 := HA5.cell 0
  have a1 := HA5.cell 1
  have a2 := HA5.cell 2
  have a3 := HA5.cell 3
  have a31 := HA5.cell 31
  have b0 := hB.cell 0
  have b1 := hB.cell 1
  have b31 := hB.cell 31
  simp only [List.map_cons, List.map_nil, List.getElem?_cons_zero, List.getElem?_cons_succ, byteV] at a0 a1 a2 a3 a31 b0 b1 b31
  clear hB HA5 HBB HX5 HB5 X4
  go_wp2_with fail
  go_ret
  exact ⟨rfl, X5.out⟩
theorem copy_abs (p T : Nat) (l : List UInt8) (size : Nat) (w : World) (h : Abs w p T l size) :
    Calls Tryd.prog 13 #[.pointer (some ⟨p, 0, none⟩)] w fun e w' => ∃ p', e = .returned (.pointer (some ⟨p', 0, none⟩)) ∧ w.heap.size ≤ p' ∧ Abs w' p' 41 l size ∧ Reg.Ext w w' := by
  obtain ⟨rest, hat, hr⟩ := h
  refine (copy_any p T _ rest _ size w hat).mono ?_
  rintro e w' ⟨p', rfl, h1, h2, h3⟩
  exact ⟨p', rfl, h1, ⟨rest, h2, hr⟩, h3⟩
theorem cat_one (s : ByteArray) : cat [s] = s.data.toList := by simp [cat]
theorem cat_two (s t : ByteArray) : cat [s, t] = s.data.toList ++ t.data.toList := by simp [cat]
theorem of_one (b n : Nat) (s : ByteArray) (w : World) (hr : Rd w (some ⟨b, 0, none⟩) [strV s]) (hs : s.size < 1152921504606846976) (hk : Keys w) (hst : StartIs w) :
    Calls Tryd.prog 12 #[.slice (some ⟨b, 0, none⟩) 1 n] w fun e w' => e = .returned (.agg ((sum s.data.toList).map byteV).toArray) ∧ Reg.Ext w w' := by
  have h := of_any (some ⟨b, 0, none⟩) 1 n [s] w rfl (by decide) hr (by rw [cat_one, len_data]; exact hs) hk hst
  rw [cat_one] at h
  exact h
theorem of_two (b n : Nat) (s t : ByteArray) (w : World) (hr : Rd w (some ⟨b, 0, none⟩) [strV s, strV t]) (hs : s.size + t.size < 1152921504606846976) (hk : Keys w) (hst : StartIs w) :
    Calls Tryd.prog 12 #[.slice (some ⟨b, 0, none⟩) 2 n] w fun e w' => e = .returned (.agg ((sum (s.data.toList ++ t.data.toList)).map byteV).toArray) ∧ Reg.Ext w w' := by
  have h := of_any (some ⟨b, 0, none⟩) 2 n [s, t] w rfl (by decide) hr (by rw [cat_two, List.length_append, len_data, len_data]; exact hs) hk hst
  rw [cat_two] at h
  exact h
set_option maxRecDepth 100000 in
set_option maxHeartbeats 2000000 in
theorem none_law (s t : ByteArray) (w : World) (hs : s.size ≤ maxLen) (ht : t.size ≤ maxLen) (hk : Keys w) (hst : StartIs w) :
    Calls Tryd.prog 5 #[.string s, .string t] w fun e w' => e = .returned (.bool true) ∧ Reg.Ext w w' := by
  have HK := Lib.hid hk
  have HST := Lib.hid hst
  have hk1 := hk.lt
  clear hk hst
  unfold maxLen at hs ht
  by_cases hl1 : s.size ≤ 4096
  · by_cases hl2 : t.size ≤ 4096
    · have d1 : decide ((4096 : Int) < (s.size : Int)) = false := by simp; omega
      have d2 : decide ((4096 : Int) < (t.size : Int)) = false := by simp; omega
      have hsm : s.size ≤ maxLen := maxLen_of (by omega)
      have htm : t.size ≤ maxLen := maxLen_of (by omega)
      have HSM := Lib.hid hsm
      have HTM := Lib.hid htm
      clear hsm htm
      go_enter Tryd.func5, Tryd.ntmps5
      go_wp2_with fail
      refine (awake_any w HK.out HST.out).mono ?_
      rintro e w1 ⟨rfl, x1⟩
      have X1 := Lib.hid x1
      clear x1
      go_wp2_with fail
      refine (write_nil s w1).mono ?_
      rintro e w' ⟨rfl, rfl⟩
      go_wp2_with fail
      refine (new_any w1 (HST.out.ext X1.out)).mono ?_
      rintro e w2 ⟨h, rfl, hh, ah, x2⟩
      have X2 := Lib.hid (X1.out.trans x2)
      have hwh : w.heap.size ≤ h := Nat.le_trans X1.out.size hh
      have AH := Lib.hid ah
      clear x2 ah hh
      go_wp2_with fail
      have hhk : h ≠ 1 := by omega
      refine (write_any h _ [] 0 s w2 AH.out (HK.out.ext X2.out) hhk HSM.out (by omega)).mono ?_
      rintro e w3 ⟨rfl, a3, b3⟩
      rw [List.nil_append, Nat.zero_add] at a3
      have X3 := Lib.hid (X2.out.trans_but b3 hwh)
      have A3 := Lib.hid a3
      clear a3 b3 AH X2
      go_wp2_with fail
      refine (copy_abs h _ _ _ w3 A3.out).mono ?_
      rintro e w4 ⟨c, rfl, hc, ac, x4⟩
      have hch : h ≠ c := by have := A3.out.lt; omega
      have hck : c ≠ 1 := by have := A3.out.lt; omega
      have hwc : w.heap.size ≤ c := Nat.le_trans X3.out.size hc
      have X4 := Lib.hid (X3.out.trans x4)
      have A4 := Lib.hid (A3.out.ext x4)
      have C4 := Lib.hid ac
      clear ac x4 A3 X3 hc
      go_wp2_with fail
      refine (write_any h _ _ s.size t w4 A4.out (HK.out.ext X4.out) hhk HTM.out (by omega)).mono ?_
      rintro e w5 ⟨rfl, a5, b5⟩
      have X5 := Lib.hid (X4.out.trans_but b5 hwh)
      have A5 := Lib.hid a5
      have C5 := Lib.hid (C4.out.but b5 (Ne.symm hch))
      clear a5 b5 A4 C4 X4
      go_wp2_with fail
      refine (write_any c _ _ s.size ⟨#[]⟩ w5 C5.out (HK.out.ext X5.out) hck (by decide) (by show s.size + 0 < _; omega)).mono ?_
      rintro e w6 ⟨rfl, c6, b6⟩
      have X6 := Lib.hid (X5.out.trans_but b6 hwc)
      have A6 := Lib.hid (A5.out.but b6 hch)
      have C6 : Hid (Abs w6 c 41 s.data.toList s.size) := by
        have e0 : s.data.toList ++ (⟨#[]⟩ : ByteArray).data.toList = s.data.toList := by simp
        rw [e0] at c6
        exact c6
      clear c6 b6 A5 C5 X5
      go_wp2_with fail
      refine (sum_nil [] rfl w6 (HK.out.ext X6.out) (HST.out.ext X6.out) (HK.out.ext X6.out).lt).mono ?_
      rintro e w7 ⟨rfl, x7⟩
      have X7 := Lib.hid (X6.out.trans x7)
      have A7 := Lib.hid (A6.out.ext x7)
      have C7 := Lib.hid (C6.out.ext x7)
      clear x7 A6 C6 X6
      go_wp2_with fail
      refine (of_any none 0 0 [] w7 rfl (by decide) (Rd.nil_ _ _) (by decide) (HK.out.ext X7.out) (HST.out.ext X7.out)).mono ?_
      rintro e w8 ⟨rfl, x8⟩
      rw [show cat [] = [] from rfl]
      have X8 := Lib.hid (X7.out.trans x8)
      have A8 := Lib.hid (A7.out.ext x8)
      have C8 := Lib.hid (C7.out.ext x8)
      clear x8 A7 C7 X7
      go_wp2_with fail
      refine (len_nil w8).mono ?_
      rintro e w' ⟨rfl, rfl⟩
      go_wp2_with fail
      refine (copy_nil w8).mono ?_
      rintro e w' ⟨rfl, rfl⟩
      go_wp2_with fail
      refine (sum_any c 41 s.data.toList w8 (by rw [len_data]; exact C8.out) (HK.out.ext X8.out) (HK.out.ext X8.out).lt (by rw [len_data]; omega)).mono ?_
      rintro e w9 ⟨rfl, x9⟩
      have X9 := Lib.hid (X8.out.trans x9)
      have A9 := Lib.hid (A8.out.ext x9)
      clear x9 A8 C8 X8
      go_wp2_with fail
      have xa := Reg.Ext.alloc w9 (Obj.cells #[Value.string s] 9)
      have ra : Rd (w9.alloc (Obj.cells #[Value.string s] 9)) (some ⟨w9.heap.size, 0, none⟩) [strV s] := Rd.new w9 9 #[strV s]
      have XA := Lib.hid (X9.out.trans xa)
      have AA := Lib.hid (A9.out.ext xa)
      clear xa A9 X9
      refine (of_one _ 1 s _ ra (by omega) (HK.out.ext XA.out) (HST.out.ext XA.out)).mono ?_
      rintro e w10 ⟨rfl, x10⟩
      have X10 := Lib.hid (XA.out.trans x10)
      have A10 := Lib.hid (AA.out.ext x10)
      clear x10 XA AA ra
      go_wp2_with fail
      refine (sum_any h 41 (s.data.toList ++ t.data.toList) w10 (by rw [List.length_append, len_data, len_data]; exact A10.out) (HK.out.ext X10.out) (HK.out.ext X10.out).lt (by rw [List.length_append, len_data, len_data]; omega)).mono ?_
      rintro e w11 ⟨rfl, x11⟩
      have X11 := Lib.hid (X10.out.trans x11)
      clear x11 X10 A10
      go_wp2_with fail
      have xa := Reg.Ext.alloc w11 (Obj.cells #[Value.string s, Value.string t] 9)
      have ra : Rd (w11.alloc (Obj.cells #[Value.string s, Value.string t] 9)) (some ⟨w11.heap.size, 0, none⟩) [strV s, strV t] := Rd.new w11 9 #[strV s, strV t]
      have XA := Lib.hid (X11.out.trans xa)
      clear xa X11
      refine (of_two _ 2 s t _ ra (by omega) (HK.out.ext XA.out) (HST.out.ext XA.out)).mono ?_
      rintro e w12 ⟨rfl, x12⟩
      have X12 := Lib.hid (XA.out.trans x12)
      clear x12 XA ra
      go_wp2_with fail
      refine (new_any w12 (HST.out.ext X12.out)).mono ?_
      rintro e w13 ⟨n, rfl, -, an, x13⟩
      have X13 := Lib.hid (X12.out.trans x13)
      have A13 := Lib.hid an
      clear x13 X12 an
      go_wp2_with fail
      refine (sum_any n 41 [] w13 A13.out (HK.out.ext X13.out) (HK.out.ext X13.out).lt (by decide)).mono ?_
      rintro e w14 ⟨rfl, x14⟩
      have X14 := Lib.hid (X13.out.trans x14)
      clear x14 X13 A13
      go_wp2_with fail
      have xa := Reg.Ext.alloc w14 (Obj.cells #[Value.string ⟨#[]⟩, Value.string ⟨#[]⟩] 9)
      have ra : Rd (w14.alloc (Obj.cells #[Value.string ⟨#[]⟩, Value.string ⟨#[]⟩] 9)) (some ⟨w14.heap.size, 0, none⟩) [strV ⟨#[]⟩, strV ⟨#[]⟩] := Rd.new w14 9 #[strV ⟨#[]⟩, strV ⟨#[]⟩]
      have XA := Lib.hid (X14.out.trans xa)
      clear xa X14
      refine (of_two _ 2 ⟨#[]⟩ ⟨#[]⟩ _ ra (by decide) (HK.out.ext XA.out) (HST.out.ext XA.out)).mono ?_
      rintro e w15 ⟨he, x15⟩
      rw [show (⟨#[]⟩ : ByteArray).data.toList ++ (⟨#[]⟩ : ByteArray).data.toList = [] from rfl] at he
      subst he
      have X15 := Lib.hid (XA.out.trans x15)
      clear x15 XA ra
      go_wp2_with fail
      go_ret
      exact ⟨rfl, X15.out⟩
    · have d1 : decide ((4096 : Int) < (s.size : Int)) = false := by simp; omega
      have d2 : decide ((4096 : Int) < (t.size : Int)) = true := by simp; omega
      go_enter Tryd.func5, Tryd.ntmps5
      go_wp2_with fail
      refine (awake_any w HK.out HST.out).mono ?_
      rintro e w1 ⟨rfl, x1⟩
      go_wp2_with fail
      go_ret
      exact ⟨rfl, x1⟩
  · have d1 : decide ((4096 : Int) < (s.size : Int)) = true := by simp; omega
    go_enter Tryd.func5, Tryd.ntmps5
    go_wp2_with fail
    refine (awake_any w HK.out HST.out).mono ?_
    rintro e w1 ⟨rfl, x1⟩
    go_wp2_with fail
    go_ret
    exact ⟨rfl, x1⟩
end Sha
end Go.Proofs.YthgbhpeidngjmaaDoor

/- Made by merge.py from: SlipRef2 SlipRef3. -/
import Derived.Test.YtafeealbdpmdkaaGreatDoorSpR
import Derived.Test.YtafeealbdpmdkaaGreatDoorSpB
import Derived.Test.YtafeealbdpmdkaaGreatDoorBuf
set_option linter.unusedSimpArgs false
set_option linter.unusedVariables false
set_option linter.unusedSectionVars false
set_option maxRecDepth 100000
/- The reference's functions of chapter 8: number, Framed, Body. -/
open Go.Act renaming put → z_1, eval → z_2
open List renaming setIfInBounds_toArray → z_3, set_cons_zero → z_4, set_cons_succ → z_5, getElem?_toArray → z_7, getElem?_cons_succ → z_8, getElem?_cons_zero → z_9
open Array renaming getD_eq_getD_getElem? → z_6
open Option renaming getD_some → z_0
open Go.Lib renaming hid → y_
open Nat renaming reduceAdd → z_b
-- squeezed
namespace Go.Proofs.YtafeealbdpmdkaaGreatDoor
open Go.RowKit
namespace Slp
open Bld (len1 be8)
open CrcP (more tail)
set_option maxHeartbeats 4000000 in
theorem numberR_any (n : Nat) (w : World) (hn : n < 9223372036854775808) :
  Calls Tryz.prog 81 #[.int .i64 (n : Int)] w fun e w' => e = .returned (.string ⟨(be8 n).toArray⟩) ∧ Reg.Ext w w' := by
 go_enter Tryz.func81, Tryz.ntmps81
 go_wp2_with fail
 have hb0 := Buf.empty w w (Reg.Ext.refl w)
 generalize w.alloc (.cells #[] 5) = w1 at *
 have HB0 : Hid (Buf w w1 (.slice (some ⟨w.heap.size, 0, none⟩) 0 0) ((be8 n).take 0)) := hb0
 clear hb0
 go_loopw [3, 4] (fun v i wr => ∃ k : Nat, k ≤ 8 ∧ i = .int .i64 (7 - (k : Int)) ∧ Hid (Buf w wr v ((be8 n).take k))) (fun _ i _ => (intOf i + 1).toNat)
 case atStart => exact ⟨0, by omega, by simp, HB0⟩
 case round =>
  obtain ⟨k, hk, hi, HB⟩ := hrel
  clear HB0
  by_cases hk8 : k < 8
  ·rcases (by omega : k = 0 ∨ k = 1 ∨ k = 2 ∨ k = 3 ∨ k = 4 ∨ k = 5 ∨ k = 6 ∨ k = 7) with rfl | rfl | rfl | rfl | rfl | rfl | rfl | rfl
   ·have hi' := hi
    rw [show (7 - ((0 : Nat) : Int)) = 7 by decide] at hi'
    subst hi'
    have HE := y_ (show ((be8 n).take 0) ++ [UInt8.ofNat (n / 72057594037927936 % 256)] = (be8 n).take (0 + 1) from rfl)
    have hlb : ((be8 n).take 0).length + 1 ≤ 1099511627776 := by rw [List.length_take]; omega
    have hbn : ((n / 72057594037927936 % 256 : Nat) : Int) = ((UInt8.ofNat (n / 72057594037927936 % 256)).toNat : Int) := by rw [UInt8.toNat_ofNat_of_lt' (by show _ < 256; omega)]
    have HBN := y_ hbn
    generalize ((be8 n).take 0) = ll at *
    clear hbn
    have hnn := hn
    go_wp2_with (refine Buf.push1 rfl (.tmp 10) (.tmp 17) rfl u3 ll rfl w wr _ (UInt8.ofNat (n / 72057594037927936 % 256)) (by rw [← HBN.out]; omega) HB.out rfl hlb ?_; intro v4 w4 hb4 hg4; rw [HE.out] at hb4; have HB4 := y_ hb4; clear hb4 hg4)
    go_roundw
    case rel => exact ⟨0 + 1, by omega, by simp, HB4⟩
    case measure => simp [intOf]
   ·have hi' := hi
    rw [show (7 - ((1 : Nat) : Int)) = 6 by decide] at hi'
    subst hi'
    have HE := y_ (show ((be8 n).take 1) ++ [UInt8.ofNat (n / 281474976710656 % 256)] = (be8 n).take (1 + 1) from rfl)
    have hlb : ((be8 n).take 1).length + 1 ≤ 1099511627776 := by rw [List.length_take]; omega
    have hbn : ((n / 281474976710656 % 256 : Nat) : Int) = ((UInt8.ofNat (n / 281474976710656 % 256)).toNat : Int) := by rw [UInt8.toNat_ofNat_of_lt' (by show _ < 256; omega)]
    have HBN := y_ hbn
    generalize ((be8 n).take 1) = ll at *
    clear hbn
    have hnn := hn
    go_wp2_with (refine Buf.push1 rfl (.tmp 10) (.tmp 17) rfl u3 ll rfl w wr _ (UInt8.ofNat (n / 281474976710656 % 256)) (by rw [← HBN.out]; omega) HB.out rfl hlb ?_; intro v4 w4 hb4 hg4; rw [HE.out] at hb4; have HB4 := y_ hb4; clear hb4 hg4)
    go_roundw
    case rel => exact ⟨1 + 1, by omega, by simp, HB4⟩
    case measure => simp [intOf]
   ·have hi' := hi
    rw [show (7 - ((2 : Nat) : Int)) = 5 by decide] at hi'
    subst hi'
    have HE := y_ (show ((be8 n).take 2) ++ [UInt8.ofNat (n / 1099511627776 % 256)] = (be8 n).take (2 + 1) from rfl)
    have hlb : ((be8 n).take 2).length + 1 ≤ 1099511627776 := by rw [List.length_take]; omega
    have hbn : ((n / 1099511627776 % 256 : Nat) : Int) = ((UInt8.ofNat (n / 1099511627776 % 256)).toNat : Int) := by rw [UInt8.toNat_ofNat_of_lt' (by show _ < 256; omega)]
    have HBN := y_ hbn
    generalize ((be8 n).take 2) = ll at *
    clear hbn
    have hnn := hn
    go_wp2_with (refine Buf.push1 rfl (.tmp 10) (.tmp 17) rfl u3 ll rfl w wr _ (UInt8.ofNat (n / 1099511627776 % 256)) (by rw [← HBN.out]; omega) HB.out rfl hlb ?_; intro v4 w4 hb4 hg4; rw [HE.out] at hb4; have HB4 := y_ hb4; clear hb4 hg4)
    go_roundw
    case rel => exact ⟨2 + 1, by omega, by simp, HB4⟩
    case measure => simp [intOf]
   ·have hi' := hi
    rw [show (7 - ((3 : Nat) : Int)) = 4 by decide] at hi'
    subst hi'
    have HE := y_ (show ((be8 n).take 3) ++ [UInt8.ofNat (n / 4294967296 % 256)] = (be8 n).take (3 + 1) from rfl)
    have hlb : ((be8 n).take 3).length + 1 ≤ 1099511627776 := by rw [List.length_take]; omega
    have hbn : ((n / 4294967296 % 256 : Nat) : Int) = ((UInt8.ofNat (n / 4294967296 % 256)).toNat : Int) := by rw [UInt8.toNat_ofNat_of_lt' (by show _ < 256; omega)]
    have HBN := y_ hbn
    generalize ((be8 n).take 3) = ll at *
    clear hbn
    have hnn := hn
    go_wp2_with (refine Buf.push1 rfl (.tmp 10) (.tmp 17) rfl u3 ll rfl w wr _ (UInt8.ofNat (n / 4294967296 % 256)) (by rw [← HBN.out]; omega) HB.out rfl hlb ?_; intro v4 w4 hb4 hg4; rw [HE.out] at hb4; have HB4 := y_ hb4; clear hb4 hg4)
    go_roundw
    case rel => exact ⟨3 + 1, by omega, by simp, HB4⟩
    case measure => simp [intOf]
   ·have hi' := hi
    rw [show (7 - ((4 : Nat) : Int)) = 3 by decide] at hi'
    subst hi'
    have HE := y_ (show ((be8 n).take 4) ++ [UInt8.ofNat (n / 16777216 % 256)] = (be8 n).take (4 + 1) from rfl)
    have hlb : ((be8 n).take 4).length + 1 ≤ 1099511627776 := by rw [List.length_take]; omega
    have hbn : ((n / 16777216 % 256 : Nat) : Int) = ((UInt8.ofNat (n / 16777216 % 256)).toNat : Int) := by rw [UInt8.toNat_ofNat_of_lt' (by show _ < 256; omega)]
    have HBN := y_ hbn
    generalize ((be8 n).take 4) = ll at *
    clear hbn
    have hnn := hn
    go_wp2_with (refine Buf.push1 rfl (.tmp 10) (.tmp 17) rfl u3 ll rfl w wr _ (UInt8.ofNat (n / 16777216 % 256)) (by rw [← HBN.out]; omega) HB.out rfl hlb ?_; intro v4 w4 hb4 hg4; rw [HE.out] at hb4; have HB4 := y_ hb4; clear hb4 hg4)
    go_roundw
    case rel => exact ⟨4 + 1, by omega, by simp, HB4⟩
    case measure => simp [intOf]
   ·have hi' := hi
    rw [show (7 - ((5 : Nat) : Int)) = 2 by decide] at hi'
    subst hi'
    have HE := y_ (show ((be8 n).take 5) ++ [UInt8.ofNat (n / 65536 % 256)] = (be8 n).take (5 + 1) from rfl)
    have hlb : ((be8 n).take 5).length + 1 ≤ 1099511627776 := by rw [List.length_take]; omega
    have hbn : ((n / 65536 % 256 : Nat) : Int) = ((UInt8.ofNat (n / 65536 % 256)).toNat : Int) := by rw [UInt8.toNat_ofNat_of_lt' (by show _ < 256; omega)]
    have HBN := y_ hbn
    generalize ((be8 n).take 5) = ll at *
    clear hbn
    have hnn := hn
    go_wp2_with (refine Buf.push1 rfl (.tmp 10) (.tmp 17) rfl u3 ll rfl w wr _ (UInt8.ofNat (n / 65536 % 256)) (by rw [← HBN.out]; omega) HB.out rfl hlb ?_; intro v4 w4 hb4 hg4; rw [HE.out] at hb4; have HB4 := y_ hb4; clear hb4 hg4)
    go_roundw
    case rel => exact ⟨5 + 1, by omega, by simp, HB4⟩
    case measure => simp [intOf]
   ·have hi' := hi
    rw [show (7 - ((6 : Nat) : Int)) = 1 by decide] at hi'
    subst hi'
    have HE := y_ (show ((be8 n).take 6) ++ [UInt8.ofNat (n / 256 % 256)] = (be8 n).take (6 + 1) from rfl)
    have hlb : ((be8 n).take 6).length + 1 ≤ 1099511627776 := by rw [List.length_take]; omega
    have hbn : ((n / 256 % 256 : Nat) : Int) = ((UInt8.ofNat (n / 256 % 256)).toNat : Int) := by rw [UInt8.toNat_ofNat_of_lt' (by show _ < 256; omega)]
    have HBN := y_ hbn
    generalize ((be8 n).take 6) = ll at *
    clear hbn
    have hnn := hn
    go_wp2_with (refine Buf.push1 rfl (.tmp 10) (.tmp 17) rfl u3 ll rfl w wr _ (UInt8.ofNat (n / 256 % 256)) (by rw [← HBN.out]; omega) HB.out rfl hlb ?_; intro v4 w4 hb4 hg4; rw [HE.out] at hb4; have HB4 := y_ hb4; clear hb4 hg4)
    go_roundw
    case rel => exact ⟨6 + 1, by omega, by simp, HB4⟩
    case measure => simp [intOf]
   ·have hi' := hi
    rw [show (7 - ((7 : Nat) : Int)) = 0 by decide] at hi'
    subst hi'
    have HE := y_ (show ((be8 n).take 7) ++ [UInt8.ofNat (n / 1 % 256)] = (be8 n).take (7 + 1) from rfl)
    have hlb : ((be8 n).take 7).length + 1 ≤ 1099511627776 := by rw [List.length_take]; omega
    have hbn : ((n / 1 % 256 : Nat) : Int) = ((UInt8.ofNat (n / 1 % 256)).toNat : Int) := by rw [UInt8.toNat_ofNat_of_lt' (by show _ < 256; omega)]
    have HBN := y_ hbn
    generalize ((be8 n).take 7) = ll at *
    clear hbn
    have hnn := hn
    go_wp2_with (refine Buf.push1 rfl (.tmp 10) (.tmp 17) rfl u3 ll rfl w wr _ (UInt8.ofNat (n / 1 % 256)) (by rw [← HBN.out]; omega) HB.out rfl hlb ?_; intro v4 w4 hb4 hg4; rw [HE.out] at hb4; have HB4 := y_ hb4; clear hb4 hg4)
    go_roundw
    case rel => exact ⟨7 + 1, by omega, by simp, HB4⟩
    case measure => simp [intOf]
  ·have hk' : k = 8 := by omega
   subst hk'
   have hi' := hi
   rw [show (7 - ((8 : Nat) : Int)) = -1 by decide] at hi'
   subst hi'
   have he : (be8 n).take 8 = be8 n := List.take_of_length_le (by simp [be8])
   have hb := HB.out
   rw [he] at hb
   have hcs := hb.str
   have HX := y_ hb.ext
   obtain ⟨q, hq⟩ : ∃ q, q = be8 n := ⟨_, rfl⟩
   rw [← hq] at hcs
   have HQ := y_ hq
   clear hb HB he hq
   go_wp2_with fail
   go_ret
   exact ⟨by rw [← HQ.out]; rfl, HX.out⟩
end Slp
end Go.Proofs.YtafeealbdpmdkaaGreatDoor
/- The reference's Framed and Body. -/
namespace Go.Proofs.YtafeealbdpmdkaaGreatDoor
open Go.RowKit
namespace Slp
open Bld (len1 be8)
open CrcP (more tail)
set_option maxHeartbeats 2000000 in
theorem framedR_any (s : ByteArray) (w : World) (hs : s.size ≤ 1048576) :
  Calls Tryz.prog 53 #[.string s] w fun e w' => e = .returned (.string ⟨(frame s.data.toList).toArray⟩) ∧ Reg.Ext w w' := by
 obtain ⟨h0, hh0⟩ : ∃ h, h = headB s.size := ⟨_, rfl⟩
 have hx1 := Reg.Ext.alloc w (Obj.cells #[Value.int .u8 ((s.size : Int) / 256 % 256), Value.int .u8 ((s.size : Int) % 256)] 5)
 have hk1 := Blk.new w 5 #[Value.int .u8 ((s.size : Int) / 256 % 256), Value.int .u8 ((s.size : Int) % 256)]
 have ha : (UInt8.ofNat (s.size / 256 % 256)).toNat = s.size / 256 % 256 := UInt8.toNat_ofNat_of_lt' (by show _ < 256; omega)
 have hb : (UInt8.ofNat (s.size % 256)).toNat = s.size % 256 := UInt8.toNat_ofNat_of_lt' (by show _ < 256; omega)
 have hcv := conv_bytes (P := Tryz.prog) (w.alloc (Obj.cells #[Value.int .u8 ((s.size : Int) / 256 % 256), Value.int .u8 ((s.size : Int) % 256)] 5)) 84 9 5 Tryz.underlying84 Tryz.underlying5 Tryz.underlying9 w.heap.size 0 2 2 h0 (by rw [hh0]; rfl) (by
  intro j hj
  rw [hh0] at hj
  subst hh0
  match j, hj with
  | 0, _ => rw [hk1.cell]; simp [headB, byteV, ha]
  | 1, _ => rw [hk1.cell]; simp [headB, byteV, hb])
 have HX1 := y_ hx1
 clear hx1 hk1 ha hb
 go_enter Tryz.func53, Tryz.ntmps53
 go_upto_region 2 with (fail)
 clear hcv
 generalize w.alloc (Obj.cells #[Value.int .u8 ((s.size : Int) / 256 % 256), Value.int .u8 ((s.size : Int) % 256)] 5) = w1 at *
 obtain ⟨H0, hH0⟩ : ∃ H0 : ByteArray, H0 = ⟨(headB s.size).toArray⟩ := ⟨_, rfl⟩
 have hHs : H0.size = 2 := by rw [hH0, siz]; rfl
 have HHL := y_ (show H0.data.toList = headB s.size by rw [hH0])
 rw [← hH0]
 clear hH0 hh0
 have hmx : (H0 ++ s).size ≤ maxLen := by rw [ByteArray.size_append]; unfold maxLen; omega
 have CM := y_ (Crc.moreR_any 0 (H0 ++ s) w1 (by decide) hmx)
 rw [← CrcP.more_moreR, show (H0 ++ s).data.toList = headB s.size ++ s.data.toList by rw [← HHL.out]; simp] at CM
 have hlt : more 0 (headB s.size ++ s.data.toList) < 4294967296 := CrcP.more_lt _ _
 have HV : Hid (frame s.data.toList = H0.data.toList ++ tail (more 0 (headB s.size ++ s.data.toList)) ++ s.data.toList) := by
  show frame _ = _
  unfold frame
  rw [len_data, HHL.out]
 generalize more 0 (headB s.size ++ s.data.toList) = m at *
 clear hmx
 go_wp2_with fail
 refine (CM.out).mono ?_
 rintro e w2 ⟨rfl, rfl⟩
 clear CM
 go_wp2_with fail
 refine (Crc.tailR_any m _ hlt).mono ?_
 rintro e w3 ⟨rfl, x3⟩
 have HX3 := y_ (HX1.out.trans x3)
 clear x3 HX1
 obtain ⟨T4, hT4⟩ : ∃ T4 : ByteArray, T4 = ⟨(tail m).toArray⟩ := ⟨_, rfl⟩
 have hTs : T4.size = 4 := by rw [hT4, siz]; rfl
 have HTL := y_ (show T4.data.toList = tail m by rw [hT4])
 rw [← hT4]
 have HW : Hid ((⟨(frame s.data.toList).toArray⟩ : ByteArray) = H0 ++ T4 ++ s) := by
  show _ = _
  exact ba_ext (by rw [lst, HV.out, ← HTL.out]; simp)
 clear hT4
 go_wp2_with fail
 go_ret
 exact ⟨by rw [HW.out]; rfl, HX3.out⟩
set_option maxRecDepth 100000 in
set_option maxHeartbeats 4000000 in
theorem bodyR_any (x : S) (hx : x.dig.length = 32) (hg : good x = true) (w : World) :
  Calls Tryz.prog 54 #[.agg x.cells.toArray] w fun e w' => e = .returned (.string ⟨(body x).toArray⟩) ∧ Reg.Ext w w' := by
 obtain ⟨hk, hnm, ht100, hs0, hs1, ha0, ha1⟩ := good_bounds hg
 have hb1 := boxS w x
 have hx1 := Reg.Ext.alloc w (Obj.cells x.cells.toArray 39)
 have CH := y_ (has_any x.k hk)
 have hkb := kind_byte hk
 have hfk := flds_known hk
 go_enter Tryz.func54, Tryz.ntmps54
 go_upto_region 1 with (fail)
 generalize w.alloc (Obj.cells x.cells.toArray 39) = w1 at *
 generalize hg1 : w.heap.size = g1 at *
 have c0 : w1.cell? ⟨g1, 0, none⟩ = some (.int .i64 x.k) := hb1.cell 0
 have H1 := y_ hb1
 have X := y_ hx1
 clear hb1 hx1 hg
 go_wp2_with fail
 refine (CH.out w1).mono ?_
 rintro e w2 ⟨rfl, x2⟩
 have X := y_ (X.out.trans x2)
 have H1 := y_ (H1.out.ext x2)
 have c0 : w2.cell? ⟨g1, 0, none⟩ = some (.int .i64 x.k) := H1.out.cell 0
 clear x2 CH
 obtain ⟨f, hf⟩ : ∃ f, f = flds x.k := ⟨_, rfl⟩
 rw [← hf] at hfk hnm ⊢
 have HFL := y_ hf
 clear hf
 rcases hfk with rfl | rfl | rfl | rfl | rfl
 ·rw [show (F.cells ⟨true, true, true, true⟩) = [.bool true, .bool true, .bool true, .bool true] from rfl]
  go_upto_region 2 with (fail)
  have hbf : Blk (w2.alloc (Obj.cells #[Value.bool true, Value.bool true, Value.bool true, Value.bool true] 130)) w2.heap.size 130 [.bool true, .bool true, .bool true, .bool true] := Blk.new w2 130 #[Value.bool true, Value.bool true, Value.bool true, Value.bool true]
  have hxf := Reg.Ext.alloc w2 (Obj.cells #[Value.bool true, Value.bool true, Value.bool true, Value.bool true] 130)
  have HF := y_ hbf
  have H1n := y_ (H1.out.ext hxf)
  have Xn := y_ (X.out.trans hxf)
  clear H1 X hbf hxf c0
  have H1 := H1n
  have X := Xn
  clear H1n Xn
  generalize w2.alloc (Obj.cells #[Value.bool true, Value.bool true, Value.bool true, Value.bool true] 130) = wi at *
  generalize w2.heap.size = g3 at *
  have c0 : wi.cell? ⟨g1, 0, none⟩ = some (.int .i64 x.k) := H1.out.cell 0
  have hkm := hkb.2
  have hkn : x.k = ((UInt8.ofNat x.k.toNat).toNat : Int) := hkb.2.symm.trans hkb.1
  have hk1 := Blk.new wi 5 #[Value.int .u8 x.k]
  have hcv := conv_bytes (P := Tryz.prog) (wi.alloc (Obj.cells #[Value.int .u8 x.k] 5)) 84 9 5 Tryz.underlying84 Tryz.underlying5 Tryz.underlying9 wi.heap.size 0 1 1 [UInt8.ofNat x.k.toNat] rfl (by
   intro j hj
   match j, hj with
   | 0, _ =>
     rw [hk1.cell]
     show some (Value.int .u8 x.k) = some (byteV (UInt8.ofNat x.k.toNat))
     unfold byteV
     rw [← hkn])
  have xj := Reg.Ext.alloc wi (Obj.cells #[Value.int .u8 x.k] 5)
  obtain ⟨A, hA⟩ : ∃ A : ByteArray, A = ⟨#[UInt8.ofNat x.k.toNat]⟩ := ⟨_, rfl⟩
  have HKN := y_ hkn
  clear hkn hk1
  go_upto_region 3 with (fail)
  clear hcv hkm c0
  generalize wi.alloc (Obj.cells #[Value.int .u8 x.k] 5) = wj at *
  generalize wi.heap.size = gk at *
  have H1n := y_ (H1.out.ext xj)
  have HFn := y_ (HF.out.ext xj)
  have Xn := y_ (X.out.trans xj)
  clear H1 HF X xj
  have H1 := H1n
  have HF := HFn
  have X := Xn
  clear H1n HFn Xn
  try clear wi
  generalize wj = wi at *
  rw [← hA]
  have HA := y_ (show A.data.toList = [UInt8.ofNat x.k.toNat] by rw [hA])
  have hAs : A.size ≤ 1 := by rw [hA]; exact Nat.le_refl 1
  clear hA
  have hB := HF.out
  have p0 : wi.cell? ⟨g3, 0, none⟩ = some (.bool true) := hB.cell 0
  have p1 : wi.cell? ⟨g3, 1, none⟩ = some (.bool true) := hB.cell 1
  have p2 : wi.cell? ⟨g3, 2, none⟩ = some (.bool true) := hB.cell 2
  have p3 : wi.cell? ⟨g3, 3, none⟩ = some (.bool true) := hB.cell 3
  clear hB
  go_upto_region 4 with (fail)
  clear p0 p1 p2 p3
  have hnm' := hnm (by trivial)
  obtain ⟨R1, hR1⟩ : ∃ R : ByteArray, R = ⟨(len1 x.repo :: x.repo.data.toList).toArray⟩ := ⟨_, rfl⟩
  obtain ⟨R2, hR2⟩ : ∃ R : ByteArray, R = ⟨(len1 x.tag :: x.tag.data.toList).toArray⟩ := ⟨_, rfl⟩
  have hs1 : R1.size ≤ 129 := by rw [hR1, siz, List.length_cons, len_data]; omega
  have hs2 : R2.size ≤ 129 := by rw [hR2, siz, List.length_cons, len_data]; omega
  have C1 := y_ (fun w => textR_any x.repo w (by omega))
  have C2 := y_ (fun w => textR_any x.tag w (by omega))
  rw [← hR1] at C1
  rw [← hR2] at C2
  have HR1 := y_ (show R1.data.toList = len1 x.repo :: x.repo.data.toList by rw [hR1])
  have HR2 := y_ (show R2.data.toList = len1 x.tag :: x.tag.data.toList by rw [hR2])
  clear hR1 hR2
  apply Reg.wp_tab Reg.Ext (by kernel_rfl) (by kernel_rfl) Reg.Ext.refl (fun _ _ _ => Reg.Ext.trans) (Reg.Ext.drew _)
  case' h => intro O
  repeat (first
   | (apply Reg.TW.move_ Reg.Ext.refl _ rfl rfl
      ·simp only [z_1, z_2, z_3, z_4, z_5, z_b, z_6, z_7, z_8, z_9, z_0]
       rfl)
   | (apply Reg.TW.assign_ Reg.Ext.refl _ rfl rfl
      ·simp only [z_1, z_2, z_3, z_4, z_5, z_b, z_6, z_7, z_8, z_9, z_0]
       rfl)
   | (apply Reg.TW.skip_ rfl
      ·simp only [z_1, z_2, z_3, z_4, z_5, z_b, z_6, z_7, z_8, z_9, z_0]
       rfl)
   | (apply Reg.TW.pure_ rfl
      ·intro w1 hw1 hf K hK
       simp only [z_1, z_3, z_4, z_5] at hK
       have HK := y_ hK
       clear hf hK
       have q1 : w1.cell? ⟨g1, 1, none⟩ = some (.string x.repo) := (H1.out.ext hw1).cell 1
       unfold Reg.One; dsimp only
       go_wp2_with fail
       exact HK.out _ (Reg.Ext.refl _)
      ·simp only [z_1, z_2, z_3, z_4, z_5, z_b, z_6, z_7, z_8, z_9, z_0]
       rfl))
  apply Reg.TW.call_ (c := .string R1) (fun _ => True) rfl (fun _ _ _ h => h)
  ·intro w1 hw1 hf K hK
   simp only [z_1, z_3, z_4, z_5] at hK
   have HK := y_ hK
   clear hK
   unfold Reg.One; dsimp only
   go_wp2_with fail
   refine (C1.out _).mono ?_
   rintro e w' ⟨rfl, hx⟩
   go_wp2_with fail
   exact HK.out _ hx trivial
  ·simp only [z_1, z_2, z_3, z_4, z_5, z_b, z_6, z_7, z_8, z_9, z_0]
   rfl
  repeat (first
   | (apply Reg.TW.move_ Reg.Ext.refl _ rfl rfl
      ·simp only [z_1, z_2, z_3, z_4, z_5, z_b, z_6, z_7, z_8, z_9, z_0]
       rfl)
   | (apply Reg.TW.assign_ Reg.Ext.refl _ rfl rfl
      ·simp only [z_1, z_2, z_3, z_4, z_5, z_b, z_6, z_7, z_8, z_9, z_0]
       rfl)
   | (apply Reg.TW.skip_ rfl
      ·simp only [z_1, z_2, z_3, z_4, z_5, z_b, z_6, z_7, z_8, z_9, z_0]
       rfl)
   | (apply Reg.TW.pure_ rfl
      ·intro w1 hw1 hf K hK
       simp only [z_1, z_3, z_4, z_5] at hK
       have HK := y_ hK
       clear hf hK
       have q2 : w1.cell? ⟨g1, 2, none⟩ = some (.string x.tag) := (H1.out.ext hw1).cell 2
       unfold Reg.One; dsimp only
       go_wp2_with fail
       exact HK.out _ (Reg.Ext.refl _)
      ·simp only [z_1, z_2, z_3, z_4, z_5, z_b, z_6, z_7, z_8, z_9, z_0]
       rfl))
  apply Reg.TW.call_ (c := .string R2) (fun _ => True) rfl (fun _ _ _ h => h)
  ·intro w1 hw1 hf K hK
   simp only [z_1, z_3, z_4, z_5] at hK
   have HK := y_ hK
   clear hK
   unfold Reg.One; dsimp only
   go_wp2_with fail
   refine (C2.out _).mono ?_
   rintro e w' ⟨rfl, hx⟩
   go_wp2_with fail
   exact HK.out _ hx trivial
  ·simp only [z_1, z_2, z_3, z_4, z_5, z_b, z_6, z_7, z_8, z_9, z_0]
   rfl
  repeat (first
   | (apply Reg.TW.move_ Reg.Ext.refl _ rfl rfl
      ·simp only [z_1, z_2, z_3, z_4, z_5, z_b, z_6, z_7, z_8, z_9, z_0]
       rfl)
   | (apply Reg.TW.assign_ Reg.Ext.refl _ rfl rfl
      ·simp only [z_1, z_2, z_3, z_4, z_5, z_b, z_6, z_7, z_8, z_9, z_0]
       rfl)
   | (apply Reg.TW.skip_ rfl
      ·simp only [z_1, z_2, z_3, z_4, z_5, z_b, z_6, z_7, z_8, z_9, z_0]
       rfl)
   | (apply Reg.TW.pure_ rfl
      ·intro w1 hw1 hf K hK
       simp only [z_1, z_3, z_4, z_5] at hK
       have HK := y_ hK
       clear hf hK
       unfold Reg.One; dsimp only
       go_wp2_with fail
       exact HK.out _ (Reg.Ext.refl _)
      ·simp only [z_1, z_2, z_3, z_4, z_5, z_b, z_6, z_7, z_8, z_9, z_0]
       rfl))
  refine Reg.TW.nil_ ?_
  intro wj xj _
  have H1n := y_ (H1.out.ext xj)
  have HFn := y_ (HF.out.ext xj)
  have Xn := y_ (X.out.trans xj)
  clear H1 HF X xj
  have H1 := H1n
  have HF := HFn
  have X := Xn
  clear H1n HFn Xn
  try clear wi
  generalize wj = wi at *
  clear C1 C2
  obtain ⟨A2, hA2⟩ : ∃ A2, A ++ R1 ++ R2 = A2 := ⟨_, rfl⟩
  rw [hA2]
  have hA2l : A2.data.toList = A.data.toList ++ R1.data.toList ++ R2.data.toList := by rw [← hA2]; simp
  rw [HA.out, HR1.out, HR2.out] at hA2l
  clear HR1 HR2
  have hA2s : A2.size ≤ 300 := by rw [← hA2, ByteArray.size_append, ByteArray.size_append]; omega
  clear hA2 HA hAs
  have hAs := hA2s
  have HA := y_ hA2l
  clear hA2s hA2l
  generalize A2 = A at *
  have hB := HF.out
  have p0 : wi.cell? ⟨g3, 0, none⟩ = some (.bool true) := hB.cell 0
  have p1 : wi.cell? ⟨g3, 1, none⟩ = some (.bool true) := hB.cell 1
  have p2 : wi.cell? ⟨g3, 2, none⟩ = some (.bool true) := hB.cell 2
  have p3 : wi.cell? ⟨g3, 3, none⟩ = some (.bool true) := hB.cell 3
  clear hB
  go_upto_region 6 with (fail)
  clear p0 p1 p2 p3
  have hcv : (convert 84 9 (.slice (some ⟨g1, 3, none⟩) 32 32)).run Tryz.prog wi = .ok (.string ⟨x.dig.toArray⟩) wi := by
   refine conv_bytes wi 84 9 5 Tryz.underlying84 Tryz.underlying5 Tryz.underlying9 g1 3 32 32 x.dig hx ?_
   intro j hj
   exact range_dig H1.out j (byteV x.dig[j]) (by rw [List.getElem?_map, List.getElem?_eq_getElem hj]; rfl)
  have hal : Tryz.prog.arrayLen 37 = 32 := by as_aux_lemma => kernel_rfl
  obtain ⟨D, hD⟩ : ∃ D : ByteArray, D = ⟨x.dig.toArray⟩ := ⟨_, rfl⟩
  have hDs : D.size = 32 := by rw [hD, siz, hx]
  rw [← hD] at hcv
  have HD := y_ (show D.data.toList = x.dig by rw [hD])
  clear hD
  go_upto_region 7 with (fail)
  clear hcv hal
  obtain ⟨A2, hA2⟩ : ∃ A2, A ++ D = A2 := ⟨_, rfl⟩
  rw [hA2]
  have hA2l : A2.data.toList = A.data.toList ++ D.data.toList := by rw [← hA2]; simp
  rw [HA.out, HD.out] at hA2l
  clear HD
  have hA2s : A2.size ≤ 340 := by rw [← hA2, ByteArray.size_append]; omega
  clear hA2 HA hAs
  have hAs := hA2s
  have HA := y_ hA2l
  clear hA2s hA2l
  generalize A2 = A at *
  have hB := HF.out
  have p0 : wi.cell? ⟨g3, 0, none⟩ = some (.bool true) := hB.cell 0
  have p1 : wi.cell? ⟨g3, 1, none⟩ = some (.bool true) := hB.cell 1
  have p2 : wi.cell? ⟨g3, 2, none⟩ = some (.bool true) := hB.cell 2
  have p3 : wi.cell? ⟨g3, 3, none⟩ = some (.bool true) := hB.cell 3
  clear hB
  go_upto_region 8 with (fail)
  clear p0 p1 p2 p3
  obtain ⟨R1, hR1⟩ : ∃ R : ByteArray, R = ⟨(len1 x.typ :: x.typ.data.toList).toArray⟩ := ⟨_, rfl⟩
  obtain ⟨R2, hR2⟩ : ∃ R : ByteArray, R = ⟨(be8 x.size.toNat).toArray⟩ := ⟨_, rfl⟩
  have hs1 : R1.size ≤ 129 := by rw [hR1, siz, List.length_cons, len_data]; omega
  have hs2 : R2.size ≤ 8 := by rw [hR2, siz, be8_len]; exact Nat.le_refl 8
  have C1 := y_ (fun w => textR_any x.typ w (by omega))
  have C2 := y_ (fun w => numberR_any x.size.toNat w (by omega))
  rw [Int.toNat_of_nonneg hs0] at C2
  rw [← hR1] at C1
  rw [← hR2] at C2
  have HR1 := y_ (show R1.data.toList = len1 x.typ :: x.typ.data.toList by rw [hR1])
  have HR2 := y_ (show R2.data.toList = be8 x.size.toNat by rw [hR2])
  clear hR1 hR2
  apply Reg.wp_tab Reg.Ext (by kernel_rfl) (by kernel_rfl) Reg.Ext.refl (fun _ _ _ => Reg.Ext.trans) (Reg.Ext.drew _)
  case' h => intro O
  repeat (first
   | (apply Reg.TW.move_ Reg.Ext.refl _ rfl rfl
      ·simp only [z_1, z_2, z_3, z_4, z_5, z_b, z_6, z_7, z_8, z_9, z_0]
       rfl)
   | (apply Reg.TW.assign_ Reg.Ext.refl _ rfl rfl
      ·simp only [z_1, z_2, z_3, z_4, z_5, z_b, z_6, z_7, z_8, z_9, z_0]
       rfl)
   | (apply Reg.TW.skip_ rfl
      ·simp only [z_1, z_2, z_3, z_4, z_5, z_b, z_6, z_7, z_8, z_9, z_0]
       rfl)
   | (apply Reg.TW.pure_ rfl
      ·intro w1 hw1 hf K hK
       simp only [z_1, z_3, z_4, z_5] at hK
       have HK := y_ hK
       clear hf hK
       have q1 : w1.cell? ⟨g1, 35, none⟩ = some (.string x.typ) := (by rw [(H1.out.ext hw1).cell, at35 x hx])
       unfold Reg.One; dsimp only
       go_wp2_with fail
       exact HK.out _ (Reg.Ext.refl _)
      ·simp only [z_1, z_2, z_3, z_4, z_5, z_b, z_6, z_7, z_8, z_9, z_0]
       rfl))
  apply Reg.TW.call_ (c := .string R1) (fun _ => True) rfl (fun _ _ _ h => h)
  ·intro w1 hw1 hf K hK
   simp only [z_1, z_3, z_4, z_5] at hK
   have HK := y_ hK
   clear hK
   unfold Reg.One; dsimp only
   go_wp2_with fail
   refine (C1.out _).mono ?_
   rintro e w' ⟨rfl, hx⟩
   go_wp2_with fail
   exact HK.out _ hx trivial
  ·simp only [z_1, z_2, z_3, z_4, z_5, z_b, z_6, z_7, z_8, z_9, z_0]
   rfl
  repeat (first
   | (apply Reg.TW.move_ Reg.Ext.refl _ rfl rfl
      ·simp only [z_1, z_2, z_3, z_4, z_5, z_b, z_6, z_7, z_8, z_9, z_0]
       rfl)
   | (apply Reg.TW.assign_ Reg.Ext.refl _ rfl rfl
      ·simp only [z_1, z_2, z_3, z_4, z_5, z_b, z_6, z_7, z_8, z_9, z_0]
       rfl)
   | (apply Reg.TW.skip_ rfl
      ·simp only [z_1, z_2, z_3, z_4, z_5, z_b, z_6, z_7, z_8, z_9, z_0]
       rfl)
   | (apply Reg.TW.pure_ rfl
      ·intro w1 hw1 hf K hK
       simp only [z_1, z_3, z_4, z_5] at hK
       have HK := y_ hK
       clear hf hK
       have q2 : w1.cell? ⟨g1, 36, none⟩ = some (.int .i64 x.size) := (by rw [(H1.out.ext hw1).cell, at36 x hx])
       unfold Reg.One; dsimp only
       go_wp2_with fail
       exact HK.out _ (Reg.Ext.refl _)
      ·simp only [z_1, z_2, z_3, z_4, z_5, z_b, z_6, z_7, z_8, z_9, z_0]
       rfl))
  apply Reg.TW.call_ (c := .string R2) (fun _ => True) rfl (fun _ _ _ h => h)
  ·intro w1 hw1 hf K hK
   simp only [z_1, z_3, z_4, z_5] at hK
   have HK := y_ hK
   clear hK
   unfold Reg.One; dsimp only
   go_wp2_with fail
   refine (C2.out _).mono ?_
   rintro e w' ⟨rfl, hx⟩
   go_wp2_with fail
   exact HK.out _ hx trivial
  ·simp only [z_1, z_2, z_3, z_4, z_5, z_b, z_6, z_7, z_8, z_9, z_0]
   rfl
  repeat (first
   | (apply Reg.TW.move_ Reg.Ext.refl _ rfl rfl
      ·simp only [z_1, z_2, z_3, z_4, z_5, z_b, z_6, z_7, z_8, z_9, z_0]
       rfl)
   | (apply Reg.TW.assign_ Reg.Ext.refl _ rfl rfl
      ·simp only [z_1, z_2, z_3, z_4, z_5, z_b, z_6, z_7, z_8, z_9, z_0]
       rfl)
   | (apply Reg.TW.skip_ rfl
      ·simp only [z_1, z_2, z_3, z_4, z_5, z_b, z_6, z_7, z_8, z_9, z_0]
       rfl)
   | (apply Reg.TW.pure_ rfl
      ·intro w1 hw1 hf K hK
       simp only [z_1, z_3, z_4, z_5] at hK
       have HK := y_ hK
       clear hf hK
       unfold Reg.One; dsimp only
       go_wp2_with fail
       exact HK.out _ (Reg.Ext.refl _)
      ·simp only [z_1, z_2, z_3, z_4, z_5, z_b, z_6, z_7, z_8, z_9, z_0]
       rfl))
  refine Reg.TW.nil_ ?_
  intro wj xj _
  have H1n := y_ (H1.out.ext xj)
  have HFn := y_ (HF.out.ext xj)
  have Xn := y_ (X.out.trans xj)
  clear H1 HF X xj
  have H1 := H1n
  have HF := HFn
  have X := Xn
  clear H1n HFn Xn
  try clear wi
  generalize wj = wi at *
  clear C1 C2
  obtain ⟨A2, hA2⟩ : ∃ A2, A ++ R1 ++ R2 = A2 := ⟨_, rfl⟩
  rw [hA2]
  have hA2l : A2.data.toList = A.data.toList ++ R1.data.toList ++ R2.data.toList := by rw [← hA2]; simp
  rw [HA.out, HR1.out, HR2.out] at hA2l
  clear HR1 HR2
  have hA2s : A2.size ≤ 500 := by rw [← hA2, ByteArray.size_append, ByteArray.size_append]; omega
  clear hA2 HA hAs
  have hAs := hA2s
  have HA := y_ hA2l
  clear hA2s hA2l
  generalize A2 = A at *
  have hB := HF.out
  have p0 : wi.cell? ⟨g3, 0, none⟩ = some (.bool true) := hB.cell 0
  have p1 : wi.cell? ⟨g3, 1, none⟩ = some (.bool true) := hB.cell 1
  have p2 : wi.cell? ⟨g3, 2, none⟩ = some (.bool true) := hB.cell 2
  have p3 : wi.cell? ⟨g3, 3, none⟩ = some (.bool true) := hB.cell 3
  clear hB
  obtain ⟨R2, hR2⟩ : ∃ R : ByteArray, R = ⟨(be8 x.at_.toNat).toArray⟩ := ⟨_, rfl⟩
  have hs2 : R2.size ≤ 8 := by rw [hR2, siz, be8_len]; exact Nat.le_refl 8
  have C2 := y_ (numberR_any x.at_.toNat wi (by omega))
  rw [Int.toNat_of_nonneg ha0] at C2
  rw [← hR2] at C2
  have HR2 := y_ (show R2.data.toList = be8 x.at_.toNat by rw [hR2])
  have q37 : wi.cell? ⟨g1, 37, none⟩ = some (.int .i64 x.at_) := by rw [H1.out.cell, at37 x hx]
  clear hR2
  go_wp2_with fail
  refine (C2.out).mono ?_
  rintro e wj ⟨rfl, xj⟩
  clear C2 p0 p1 p2 p3 q37
  have H1n := y_ (H1.out.ext xj)
  have HFn := y_ (HF.out.ext xj)
  have Xn := y_ (X.out.trans xj)
  clear H1 HF X xj
  have H1 := H1n
  have HF := HFn
  have X := Xn
  clear H1n HFn Xn
  try clear wi
  generalize wj = wi at *
  go_upto_region 11 with (fail)
  obtain ⟨A2, hA2⟩ : ∃ A2, A ++ R2 = A2 := ⟨_, rfl⟩
  rw [hA2]
  have hA2l : A2.data.toList = A.data.toList ++ R2.data.toList := by rw [← hA2]; simp
  rw [HA.out, HR2.out] at hA2l
  clear HR2
  have hA2s : A2.size ≤ 600 := by rw [← hA2, ByteArray.size_append]; omega
  clear hA2 HA hAs
  have hAs := hA2s
  have HA := y_ hA2l
  clear hA2s hA2l
  generalize A2 = A at *
  have hB := HF.out
  have p0 : wi.cell? ⟨g3, 0, none⟩ = some (.bool true) := hB.cell 0
  have p1 : wi.cell? ⟨g3, 1, none⟩ = some (.bool true) := hB.cell 1
  have p2 : wi.cell? ⟨g3, 2, none⟩ = some (.bool true) := hB.cell 2
  have p3 : wi.cell? ⟨g3, 3, none⟩ = some (.bool true) := hB.cell 3
  clear hB
  have HV : Hid ((⟨(body x).toArray⟩ : ByteArray) = A) := by
   show _ = _
   exact ba_ext (by rw [lst, HA.out]; unfold body; rw [← HFL.out]; simp)
  go_wp2_with fail
  go_ret
  exact ⟨by rw [HV.out]; rfl, X.out⟩
  all_goals rfl
 ·rw [show (F.cells ⟨true, false, false, true⟩) = [.bool true, .bool false, .bool false, .bool true] from rfl]
  go_upto_region 2 with (fail)
  have hbf : Blk (w2.alloc (Obj.cells #[Value.bool true, Value.bool false, Value.bool false, Value.bool true] 130)) w2.heap.size 130 [.bool true, .bool false, .bool false, .bool true] := Blk.new w2 130 #[Value.bool true, Value.bool false, Value.bool false, Value.bool true]
  have hxf := Reg.Ext.alloc w2 (Obj.cells #[Value.bool true, Value.bool false, Value.bool false, Value.bool true] 130)
  have HF := y_ hbf
  have H1n := y_ (H1.out.ext hxf)
  have Xn := y_ (X.out.trans hxf)
  clear H1 X hbf hxf c0
  have H1 := H1n
  have X := Xn
  clear H1n Xn
  generalize w2.alloc (Obj.cells #[Value.bool true, Value.bool false, Value.bool false, Value.bool true] 130) = wi at *
  generalize w2.heap.size = g3 at *
  have c0 : wi.cell? ⟨g1, 0, none⟩ = some (.int .i64 x.k) := H1.out.cell 0
  have hkm := hkb.2
  have hkn : x.k = ((UInt8.ofNat x.k.toNat).toNat : Int) := hkb.2.symm.trans hkb.1
  have hk1 := Blk.new wi 5 #[Value.int .u8 x.k]
  have hcv := conv_bytes (P := Tryz.prog) (wi.alloc (Obj.cells #[Value.int .u8 x.k] 5)) 84 9 5 Tryz.underlying84 Tryz.underlying5 Tryz.underlying9 wi.heap.size 0 1 1 [UInt8.ofNat x.k.toNat] rfl (by
   intro j hj
   match j, hj with
   | 0, _ =>
     rw [hk1.cell]
     show some (Value.int .u8 x.k) = some (byteV (UInt8.ofNat x.k.toNat))
     unfold byteV
     rw [← hkn])
  have xj := Reg.Ext.alloc wi (Obj.cells #[Value.int .u8 x.k] 5)
  obtain ⟨A, hA⟩ : ∃ A : ByteArray, A = ⟨#[UInt8.ofNat x.k.toNat]⟩ := ⟨_, rfl⟩
  have HKN := y_ hkn
  clear hkn hk1
  go_upto_region 3 with (fail)
  clear hcv hkm c0
  generalize wi.alloc (Obj.cells #[Value.int .u8 x.k] 5) = wj at *
  generalize wi.heap.size = gk at *
  have H1n := y_ (H1.out.ext xj)
  have HFn := y_ (HF.out.ext xj)
  have Xn := y_ (X.out.trans xj)
  clear H1 HF X xj
  have H1 := H1n
  have HF := HFn
  have X := Xn
  clear H1n HFn Xn
  try clear wi
  generalize wj = wi at *
  rw [← hA]
  have HA := y_ (show A.data.toList = [UInt8.ofNat x.k.toNat] by rw [hA])
  have hAs : A.size ≤ 1 := by rw [hA]; exact Nat.le_refl 1
  clear hA
  have hB := HF.out
  have p0 : wi.cell? ⟨g3, 0, none⟩ = some (.bool true) := hB.cell 0
  have p1 : wi.cell? ⟨g3, 1, none⟩ = some (.bool false) := hB.cell 1
  have p2 : wi.cell? ⟨g3, 2, none⟩ = some (.bool false) := hB.cell 2
  have p3 : wi.cell? ⟨g3, 3, none⟩ = some (.bool true) := hB.cell 3
  clear hB
  go_upto_region 4 with (fail)
  clear p0 p1 p2 p3
  have hnm' := hnm (by trivial)
  obtain ⟨R1, hR1⟩ : ∃ R : ByteArray, R = ⟨(len1 x.repo :: x.repo.data.toList).toArray⟩ := ⟨_, rfl⟩
  obtain ⟨R2, hR2⟩ : ∃ R : ByteArray, R = ⟨(len1 x.tag :: x.tag.data.toList).toArray⟩ := ⟨_, rfl⟩
  have hs1 : R1.size ≤ 129 := by rw [hR1, siz, List.length_cons, len_data]; omega
  have hs2 : R2.size ≤ 129 := by rw [hR2, siz, List.length_cons, len_data]; omega
  have C1 := y_ (fun w => textR_any x.repo w (by omega))
  have C2 := y_ (fun w => textR_any x.tag w (by omega))
  rw [← hR1] at C1
  rw [← hR2] at C2
  have HR1 := y_ (show R1.data.toList = len1 x.repo :: x.repo.data.toList by rw [hR1])
  have HR2 := y_ (show R2.data.toList = len1 x.tag :: x.tag.data.toList by rw [hR2])
  clear hR1 hR2
  apply Reg.wp_tab Reg.Ext (by kernel_rfl) (by kernel_rfl) Reg.Ext.refl (fun _ _ _ => Reg.Ext.trans) (Reg.Ext.drew _)
  case' h => intro O
  repeat (first
   | (apply Reg.TW.move_ Reg.Ext.refl _ rfl rfl
      ·simp only [z_1, z_2, z_3, z_4, z_5, z_b, z_6, z_7, z_8, z_9, z_0]
       rfl)
   | (apply Reg.TW.assign_ Reg.Ext.refl _ rfl rfl
      ·simp only [z_1, z_2, z_3, z_4, z_5, z_b, z_6, z_7, z_8, z_9, z_0]
       rfl)
   | (apply Reg.TW.skip_ rfl
      ·simp only [z_1, z_2, z_3, z_4, z_5, z_b, z_6, z_7, z_8, z_9, z_0]
       rfl)
   | (apply Reg.TW.pure_ rfl
      ·intro w1 hw1 hf K hK
       simp only [z_1, z_3, z_4, z_5] at hK
       have HK := y_ hK
       clear hf hK
       have q1 : w1.cell? ⟨g1, 1, none⟩ = some (.string x.repo) := (H1.out.ext hw1).cell 1
       unfold Reg.One; dsimp only
       go_wp2_with fail
       exact HK.out _ (Reg.Ext.refl _)
      ·simp only [z_1, z_2, z_3, z_4, z_5, z_b, z_6, z_7, z_8, z_9, z_0]
       rfl))
  apply Reg.TW.call_ (c := .string R1) (fun _ => True) rfl (fun _ _ _ h => h)
  ·intro w1 hw1 hf K hK
   simp only [z_1, z_3, z_4, z_5] at hK
   have HK := y_ hK
   clear hK
   unfold Reg.One; dsimp only
   go_wp2_with fail
   refine (C1.out _).mono ?_
   rintro e w' ⟨rfl, hx⟩
   go_wp2_with fail
   exact HK.out _ hx trivial
  ·simp only [z_1, z_2, z_3, z_4, z_5, z_b, z_6, z_7, z_8, z_9, z_0]
   rfl
  repeat (first
   | (apply Reg.TW.move_ Reg.Ext.refl _ rfl rfl
      ·simp only [z_1, z_2, z_3, z_4, z_5, z_b, z_6, z_7, z_8, z_9, z_0]
       rfl)
   | (apply Reg.TW.assign_ Reg.Ext.refl _ rfl rfl
      ·simp only [z_1, z_2, z_3, z_4, z_5, z_b, z_6, z_7, z_8, z_9, z_0]
       rfl)
   | (apply Reg.TW.skip_ rfl
      ·simp only [z_1, z_2, z_3, z_4, z_5, z_b, z_6, z_7, z_8, z_9, z_0]
       rfl)
   | (apply Reg.TW.pure_ rfl
      ·intro w1 hw1 hf K hK
       simp only [z_1, z_3, z_4, z_5] at hK
       have HK := y_ hK
       clear hf hK
       have q2 : w1.cell? ⟨g1, 2, none⟩ = some (.string x.tag) := (H1.out.ext hw1).cell 2
       unfold Reg.One; dsimp only
       go_wp2_with fail
       exact HK.out _ (Reg.Ext.refl _)
      ·simp only [z_1, z_2, z_3, z_4, z_5, z_b, z_6, z_7, z_8, z_9, z_0]
       rfl))
  apply Reg.TW.call_ (c := .string R2) (fun _ => True) rfl (fun _ _ _ h => h)
  ·intro w1 hw1 hf K hK
   simp only [z_1, z_3, z_4, z_5] at hK
   have HK := y_ hK
   clear hK
   unfold Reg.One; dsimp only
   go_wp2_with fail
   refine (C2.out _).mono ?_
   rintro e w' ⟨rfl, hx⟩
   go_wp2_with fail
   exact HK.out _ hx trivial
  ·simp only [z_1, z_2, z_3, z_4, z_5, z_b, z_6, z_7, z_8, z_9, z_0]
   rfl
  repeat (first
   | (apply Reg.TW.move_ Reg.Ext.refl _ rfl rfl
      ·simp only [z_1, z_2, z_3, z_4, z_5, z_b, z_6, z_7, z_8, z_9, z_0]
       rfl)
   | (apply Reg.TW.assign_ Reg.Ext.refl _ rfl rfl
      ·simp only [z_1, z_2, z_3, z_4, z_5, z_b, z_6, z_7, z_8, z_9, z_0]
       rfl)
   | (apply Reg.TW.skip_ rfl
      ·simp only [z_1, z_2, z_3, z_4, z_5, z_b, z_6, z_7, z_8, z_9, z_0]
       rfl)
   | (apply Reg.TW.pure_ rfl
      ·intro w1 hw1 hf K hK
       simp only [z_1, z_3, z_4, z_5] at hK
       have HK := y_ hK
       clear hf hK
       unfold Reg.One; dsimp only
       go_wp2_with fail
       exact HK.out _ (Reg.Ext.refl _)
      ·simp only [z_1, z_2, z_3, z_4, z_5, z_b, z_6, z_7, z_8, z_9, z_0]
       rfl))
  refine Reg.TW.nil_ ?_
  intro wj xj _
  have H1n := y_ (H1.out.ext xj)
  have HFn := y_ (HF.out.ext xj)
  have Xn := y_ (X.out.trans xj)
  clear H1 HF X xj
  have H1 := H1n
  have HF := HFn
  have X := Xn
  clear H1n HFn Xn
  try clear wi
  generalize wj = wi at *
  clear C1 C2
  obtain ⟨A2, hA2⟩ : ∃ A2, A ++ R1 ++ R2 = A2 := ⟨_, rfl⟩
  rw [hA2]
  have hA2l : A2.data.toList = A.data.toList ++ R1.data.toList ++ R2.data.toList := by rw [← hA2]; simp
  rw [HA.out, HR1.out, HR2.out] at hA2l
  clear HR1 HR2
  have hA2s : A2.size ≤ 300 := by rw [← hA2, ByteArray.size_append, ByteArray.size_append]; omega
  clear hA2 HA hAs
  have hAs := hA2s
  have HA := y_ hA2l
  clear hA2s hA2l
  generalize A2 = A at *
  have hB := HF.out
  have p0 : wi.cell? ⟨g3, 0, none⟩ = some (.bool true) := hB.cell 0
  have p1 : wi.cell? ⟨g3, 1, none⟩ = some (.bool false) := hB.cell 1
  have p2 : wi.cell? ⟨g3, 2, none⟩ = some (.bool false) := hB.cell 2
  have p3 : wi.cell? ⟨g3, 3, none⟩ = some (.bool true) := hB.cell 3
  clear hB
  obtain ⟨R2, hR2⟩ : ∃ R : ByteArray, R = ⟨(be8 x.at_.toNat).toArray⟩ := ⟨_, rfl⟩
  have hs2 : R2.size ≤ 8 := by rw [hR2, siz, be8_len]; exact Nat.le_refl 8
  have C2 := y_ (numberR_any x.at_.toNat wi (by omega))
  rw [Int.toNat_of_nonneg ha0] at C2
  rw [← hR2] at C2
  have HR2 := y_ (show R2.data.toList = be8 x.at_.toNat by rw [hR2])
  have q37 : wi.cell? ⟨g1, 37, none⟩ = some (.int .i64 x.at_) := by rw [H1.out.cell, at37 x hx]
  clear hR2
  go_wp2_with fail
  refine (C2.out).mono ?_
  rintro e wj ⟨rfl, xj⟩
  clear C2 p0 p1 p2 p3 q37
  have H1n := y_ (H1.out.ext xj)
  have HFn := y_ (HF.out.ext xj)
  have Xn := y_ (X.out.trans xj)
  clear H1 HF X xj
  have H1 := H1n
  have HF := HFn
  have X := Xn
  clear H1n HFn Xn
  try clear wi
  generalize wj = wi at *
  go_upto_region 11 with (fail)
  obtain ⟨A2, hA2⟩ : ∃ A2, A ++ R2 = A2 := ⟨_, rfl⟩
  rw [hA2]
  have hA2l : A2.data.toList = A.data.toList ++ R2.data.toList := by rw [← hA2]; simp
  rw [HA.out, HR2.out] at hA2l
  clear HR2
  have hA2s : A2.size ≤ 600 := by rw [← hA2, ByteArray.size_append]; omega
  clear hA2 HA hAs
  have hAs := hA2s
  have HA := y_ hA2l
  clear hA2s hA2l
  generalize A2 = A at *
  have hB := HF.out
  have p0 : wi.cell? ⟨g3, 0, none⟩ = some (.bool true) := hB.cell 0
  have p1 : wi.cell? ⟨g3, 1, none⟩ = some (.bool false) := hB.cell 1
  have p2 : wi.cell? ⟨g3, 2, none⟩ = some (.bool false) := hB.cell 2
  have p3 : wi.cell? ⟨g3, 3, none⟩ = some (.bool true) := hB.cell 3
  clear hB
  have HV : Hid ((⟨(body x).toArray⟩ : ByteArray) = A) := by
   show _ = _
   exact ba_ext (by rw [lst, HA.out]; unfold body; rw [← HFL.out]; simp)
  go_wp2_with fail
  go_ret
  exact ⟨by rw [HV.out]; rfl, X.out⟩
  all_goals rfl
 ·rw [show (F.cells ⟨true, false, false, false⟩) = [.bool true, .bool false, .bool false, .bool false] from rfl]
  go_upto_region 2 with (fail)
  have hbf : Blk (w2.alloc (Obj.cells #[Value.bool true, Value.bool false, Value.bool false, Value.bool false] 130)) w2.heap.size 130 [.bool true, .bool false, .bool false, .bool false] := Blk.new w2 130 #[Value.bool true, Value.bool false, Value.bool false, Value.bool false]
  have hxf := Reg.Ext.alloc w2 (Obj.cells #[Value.bool true, Value.bool false, Value.bool false, Value.bool false] 130)
  have HF := y_ hbf
  have H1n := y_ (H1.out.ext hxf)
  have Xn := y_ (X.out.trans hxf)
  clear H1 X hbf hxf c0
  have H1 := H1n
  have X := Xn
  clear H1n Xn
  generalize w2.alloc (Obj.cells #[Value.bool true, Value.bool false, Value.bool false, Value.bool false] 130) = wi at *
  generalize w2.heap.size = g3 at *
  have c0 : wi.cell? ⟨g1, 0, none⟩ = some (.int .i64 x.k) := H1.out.cell 0
  have hkm := hkb.2
  have hkn : x.k = ((UInt8.ofNat x.k.toNat).toNat : Int) := hkb.2.symm.trans hkb.1
  have hk1 := Blk.new wi 5 #[Value.int .u8 x.k]
  have hcv := conv_bytes (P := Tryz.prog) (wi.alloc (Obj.cells #[Value.int .u8 x.k] 5)) 84 9 5 Tryz.underlying84 Tryz.underlying5 Tryz.underlying9 wi.heap.size 0 1 1 [UInt8.ofNat x.k.toNat] rfl (by
   intro j hj
   match j, hj with
   | 0, _ =>
     rw [hk1.cell]
     show some (Value.int .u8 x.k) = some (byteV (UInt8.ofNat x.k.toNat))
     unfold byteV
     rw [← hkn])
  have xj := Reg.Ext.alloc wi (Obj.cells #[Value.int .u8 x.k] 5)
  obtain ⟨A, hA⟩ : ∃ A : ByteArray, A = ⟨#[UInt8.ofNat x.k.toNat]⟩ := ⟨_, rfl⟩
  have HKN := y_ hkn
  clear hkn hk1
  go_upto_region 3 with (fail)
  clear hcv hkm c0
  generalize wi.alloc (Obj.cells #[Value.int .u8 x.k] 5) = wj at *
  generalize wi.heap.size = gk at *
  have H1n := y_ (H1.out.ext xj)
  have HFn := y_ (HF.out.ext xj)
  have Xn := y_ (X.out.trans xj)
  clear H1 HF X xj
  have H1 := H1n
  have HF := HFn
  have X := Xn
  clear H1n HFn Xn
  try clear wi
  generalize wj = wi at *
  rw [← hA]
  have HA := y_ (show A.data.toList = [UInt8.ofNat x.k.toNat] by rw [hA])
  have hAs : A.size ≤ 1 := by rw [hA]; exact Nat.le_refl 1
  clear hA
  have hB := HF.out
  have p0 : wi.cell? ⟨g3, 0, none⟩ = some (.bool true) := hB.cell 0
  have p1 : wi.cell? ⟨g3, 1, none⟩ = some (.bool false) := hB.cell 1
  have p2 : wi.cell? ⟨g3, 2, none⟩ = some (.bool false) := hB.cell 2
  have p3 : wi.cell? ⟨g3, 3, none⟩ = some (.bool false) := hB.cell 3
  clear hB
  go_upto_region 4 with (fail)
  clear p0 p1 p2 p3
  have hnm' := hnm (by trivial)
  obtain ⟨R1, hR1⟩ : ∃ R : ByteArray, R = ⟨(len1 x.repo :: x.repo.data.toList).toArray⟩ := ⟨_, rfl⟩
  obtain ⟨R2, hR2⟩ : ∃ R : ByteArray, R = ⟨(len1 x.tag :: x.tag.data.toList).toArray⟩ := ⟨_, rfl⟩
  have hs1 : R1.size ≤ 129 := by rw [hR1, siz, List.length_cons, len_data]; omega
  have hs2 : R2.size ≤ 129 := by rw [hR2, siz, List.length_cons, len_data]; omega
  have C1 := y_ (fun w => textR_any x.repo w (by omega))
  have C2 := y_ (fun w => textR_any x.tag w (by omega))
  rw [← hR1] at C1
  rw [← hR2] at C2
  have HR1 := y_ (show R1.data.toList = len1 x.repo :: x.repo.data.toList by rw [hR1])
  have HR2 := y_ (show R2.data.toList = len1 x.tag :: x.tag.data.toList by rw [hR2])
  clear hR1 hR2
  apply Reg.wp_tab Reg.Ext (by kernel_rfl) (by kernel_rfl) Reg.Ext.refl (fun _ _ _ => Reg.Ext.trans) (Reg.Ext.drew _)
  case' h => intro O
  repeat (first
   | (apply Reg.TW.move_ Reg.Ext.refl _ rfl rfl
      ·simp only [z_1, z_2, z_3, z_4, z_5, z_b, z_6, z_7, z_8, z_9, z_0]
       rfl)
   | (apply Reg.TW.assign_ Reg.Ext.refl _ rfl rfl
      ·simp only [z_1, z_2, z_3, z_4, z_5, z_b, z_6, z_7, z_8, z_9, z_0]
       rfl)
   | (apply Reg.TW.skip_ rfl
      ·simp only [z_1, z_2, z_3, z_4, z_5, z_b, z_6, z_7, z_8, z_9, z_0]
       rfl)
   | (apply Reg.TW.pure_ rfl
      ·intro w1 hw1 hf K hK
       simp only [z_1, z_3, z_4, z_5] at hK
       have HK := y_ hK
       clear hf hK
       have q1 : w1.cell? ⟨g1, 1, none⟩ = some (.string x.repo) := (H1.out.ext hw1).cell 1
       unfold Reg.One; dsimp only
       go_wp2_with fail
       exact HK.out _ (Reg.Ext.refl _)
      ·simp only [z_1, z_2, z_3, z_4, z_5, z_b, z_6, z_7, z_8, z_9, z_0]
       rfl))
  apply Reg.TW.call_ (c := .string R1) (fun _ => True) rfl (fun _ _ _ h => h)
  ·intro w1 hw1 hf K hK
   simp only [z_1, z_3, z_4, z_5] at hK
   have HK := y_ hK
   clear hK
   unfold Reg.One; dsimp only
   go_wp2_with fail
   refine (C1.out _).mono ?_
   rintro e w' ⟨rfl, hx⟩
   go_wp2_with fail
   exact HK.out _ hx trivial
  ·simp only [z_1, z_2, z_3, z_4, z_5, z_b, z_6, z_7, z_8, z_9, z_0]
   rfl
  repeat (first
   | (apply Reg.TW.move_ Reg.Ext.refl _ rfl rfl
      ·simp only [z_1, z_2, z_3, z_4, z_5, z_b, z_6, z_7, z_8, z_9, z_0]
       rfl)
   | (apply Reg.TW.assign_ Reg.Ext.refl _ rfl rfl
      ·simp only [z_1, z_2, z_3, z_4, z_5, z_b, z_6, z_7, z_8, z_9, z_0]
       rfl)
   | (apply Reg.TW.skip_ rfl
      ·simp only [z_1, z_2, z_3, z_4, z_5, z_b, z_6, z_7, z_8, z_9, z_0]
       rfl)
   | (apply Reg.TW.pure_ rfl
      ·intro w1 hw1 hf K hK
       simp only [z_1, z_3, z_4, z_5] at hK
       have HK := y_ hK
       clear hf hK
       have q2 : w1.cell? ⟨g1, 2, none⟩ = some (.string x.tag) := (H1.out.ext hw1).cell 2
       unfold Reg.One; dsimp only
       go_wp2_with fail
       exact HK.out _ (Reg.Ext.refl _)
      ·simp only [z_1, z_2, z_3, z_4, z_5, z_b, z_6, z_7, z_8, z_9, z_0]
       rfl))
  apply Reg.TW.call_ (c := .string R2) (fun _ => True) rfl (fun _ _ _ h => h)
  ·intro w1 hw1 hf K hK
   simp only [z_1, z_3, z_4, z_5] at hK
   have HK := y_ hK
   clear hK
   unfold Reg.One; dsimp only
   go_wp2_with fail
   refine (C2.out _).mono ?_
   rintro e w' ⟨rfl, hx⟩
   go_wp2_with fail
   exact HK.out _ hx trivial
  ·simp only [z_1, z_2, z_3, z_4, z_5, z_b, z_6, z_7, z_8, z_9, z_0]
   rfl
  repeat (first
   | (apply Reg.TW.move_ Reg.Ext.refl _ rfl rfl
      ·simp only [z_1, z_2, z_3, z_4, z_5, z_b, z_6, z_7, z_8, z_9, z_0]
       rfl)
   | (apply Reg.TW.assign_ Reg.Ext.refl _ rfl rfl
      ·simp only [z_1, z_2, z_3, z_4, z_5, z_b, z_6, z_7, z_8, z_9, z_0]
       rfl)
   | (apply Reg.TW.skip_ rfl
      ·simp only [z_1, z_2, z_3, z_4, z_5, z_b, z_6, z_7, z_8, z_9, z_0]
       rfl)
   | (apply Reg.TW.pure_ rfl
      ·intro w1 hw1 hf K hK
       simp only [z_1, z_3, z_4, z_5] at hK
       have HK := y_ hK
       clear hf hK
       unfold Reg.One; dsimp only
       go_wp2_with fail
       exact HK.out _ (Reg.Ext.refl _)
      ·simp only [z_1, z_2, z_3, z_4, z_5, z_b, z_6, z_7, z_8, z_9, z_0]
       rfl))
  refine Reg.TW.nil_ ?_
  intro wj xj _
  have H1n := y_ (H1.out.ext xj)
  have HFn := y_ (HF.out.ext xj)
  have Xn := y_ (X.out.trans xj)
  clear H1 HF X xj
  have H1 := H1n
  have HF := HFn
  have X := Xn
  clear H1n HFn Xn
  try clear wi
  generalize wj = wi at *
  clear C1 C2
  obtain ⟨A2, hA2⟩ : ∃ A2, A ++ R1 ++ R2 = A2 := ⟨_, rfl⟩
  rw [hA2]
  have hA2l : A2.data.toList = A.data.toList ++ R1.data.toList ++ R2.data.toList := by rw [← hA2]; simp
  rw [HA.out, HR1.out, HR2.out] at hA2l
  clear HR1 HR2
  have hA2s : A2.size ≤ 300 := by rw [← hA2, ByteArray.size_append, ByteArray.size_append]; omega
  clear hA2 HA hAs
  have hAs := hA2s
  have HA := y_ hA2l
  clear hA2s hA2l
  generalize A2 = A at *
  have hB := HF.out
  have p0 : wi.cell? ⟨g3, 0, none⟩ = some (.bool true) := hB.cell 0
  have p1 : wi.cell? ⟨g3, 1, none⟩ = some (.bool false) := hB.cell 1
  have p2 : wi.cell? ⟨g3, 2, none⟩ = some (.bool false) := hB.cell 2
  have p3 : wi.cell? ⟨g3, 3, none⟩ = some (.bool false) := hB.cell 3
  clear hB
  have HV : Hid ((⟨(body x).toArray⟩ : ByteArray) = A) := by
   show _ = _
   exact ba_ext (by rw [lst, HA.out]; unfold body; rw [← HFL.out]; simp)
  go_wp2_with fail
  go_ret
  exact ⟨by rw [HV.out]; rfl, X.out⟩
  all_goals rfl
 ·rw [show (F.cells ⟨false, true, true, false⟩) = [.bool false, .bool true, .bool true, .bool false] from rfl]
  go_upto_region 2 with (fail)
  have hbf : Blk (w2.alloc (Obj.cells #[Value.bool false, Value.bool true, Value.bool true, Value.bool false] 130)) w2.heap.size 130 [.bool false, .bool true, .bool true, .bool false] := Blk.new w2 130 #[Value.bool false, Value.bool true, Value.bool true, Value.bool false]
  have hxf := Reg.Ext.alloc w2 (Obj.cells #[Value.bool false, Value.bool true, Value.bool true, Value.bool false] 130)
  have HF := y_ hbf
  have H1n := y_ (H1.out.ext hxf)
  have Xn := y_ (X.out.trans hxf)
  clear H1 X hbf hxf c0
  have H1 := H1n
  have X := Xn
  clear H1n Xn
  generalize w2.alloc (Obj.cells #[Value.bool false, Value.bool true, Value.bool true, Value.bool false] 130) = wi at *
  generalize w2.heap.size = g3 at *
  have c0 : wi.cell? ⟨g1, 0, none⟩ = some (.int .i64 x.k) := H1.out.cell 0
  have hkm := hkb.2
  have hkn : x.k = ((UInt8.ofNat x.k.toNat).toNat : Int) := hkb.2.symm.trans hkb.1
  have hk1 := Blk.new wi 5 #[Value.int .u8 x.k]
  have hcv := conv_bytes (P := Tryz.prog) (wi.alloc (Obj.cells #[Value.int .u8 x.k] 5)) 84 9 5 Tryz.underlying84 Tryz.underlying5 Tryz.underlying9 wi.heap.size 0 1 1 [UInt8.ofNat x.k.toNat] rfl (by
   intro j hj
   match j, hj with
   | 0, _ =>
     rw [hk1.cell]
     show some (Value.int .u8 x.k) = some (byteV (UInt8.ofNat x.k.toNat))
     unfold byteV
     rw [← hkn])
  have xj := Reg.Ext.alloc wi (Obj.cells #[Value.int .u8 x.k] 5)
  obtain ⟨A, hA⟩ : ∃ A : ByteArray, A = ⟨#[UInt8.ofNat x.k.toNat]⟩ := ⟨_, rfl⟩
  have HKN := y_ hkn
  clear hkn hk1
  go_upto_region 3 with (fail)
  clear hcv hkm c0
  generalize wi.alloc (Obj.cells #[Value.int .u8 x.k] 5) = wj at *
  generalize wi.heap.size = gk at *
  have H1n := y_ (H1.out.ext xj)
  have HFn := y_ (HF.out.ext xj)
  have Xn := y_ (X.out.trans xj)
  clear H1 HF X xj
  have H1 := H1n
  have HF := HFn
  have X := Xn
  clear H1n HFn Xn
  try clear wi
  generalize wj = wi at *
  rw [← hA]
  have HA := y_ (show A.data.toList = [UInt8.ofNat x.k.toNat] by rw [hA])
  have hAs : A.size ≤ 1 := by rw [hA]; exact Nat.le_refl 1
  clear hA
  have hB := HF.out
  have p0 : wi.cell? ⟨g3, 0, none⟩ = some (.bool false) := hB.cell 0
  have p1 : wi.cell? ⟨g3, 1, none⟩ = some (.bool true) := hB.cell 1
  have p2 : wi.cell? ⟨g3, 2, none⟩ = some (.bool true) := hB.cell 2
  have p3 : wi.cell? ⟨g3, 3, none⟩ = some (.bool false) := hB.cell 3
  clear hB
  go_upto_region 6 with (fail)
  clear p0 p1 p2 p3
  have hcv : (convert 84 9 (.slice (some ⟨g1, 3, none⟩) 32 32)).run Tryz.prog wi = .ok (.string ⟨x.dig.toArray⟩) wi := by
   refine conv_bytes wi 84 9 5 Tryz.underlying84 Tryz.underlying5 Tryz.underlying9 g1 3 32 32 x.dig hx ?_
   intro j hj
   exact range_dig H1.out j (byteV x.dig[j]) (by rw [List.getElem?_map, List.getElem?_eq_getElem hj]; rfl)
  have hal : Tryz.prog.arrayLen 37 = 32 := by as_aux_lemma => kernel_rfl
  obtain ⟨D, hD⟩ : ∃ D : ByteArray, D = ⟨x.dig.toArray⟩ := ⟨_, rfl⟩
  have hDs : D.size = 32 := by rw [hD, siz, hx]
  rw [← hD] at hcv
  have HD := y_ (show D.data.toList = x.dig by rw [hD])
  clear hD
  go_upto_region 7 with (fail)
  clear hcv hal
  obtain ⟨A2, hA2⟩ : ∃ A2, A ++ D = A2 := ⟨_, rfl⟩
  rw [hA2]
  have hA2l : A2.data.toList = A.data.toList ++ D.data.toList := by rw [← hA2]; simp
  rw [HA.out, HD.out] at hA2l
  clear HD
  have hA2s : A2.size ≤ 340 := by rw [← hA2, ByteArray.size_append]; omega
  clear hA2 HA hAs
  have hAs := hA2s
  have HA := y_ hA2l
  clear hA2s hA2l
  generalize A2 = A at *
  have hB := HF.out
  have p0 : wi.cell? ⟨g3, 0, none⟩ = some (.bool false) := hB.cell 0
  have p1 : wi.cell? ⟨g3, 1, none⟩ = some (.bool true) := hB.cell 1
  have p2 : wi.cell? ⟨g3, 2, none⟩ = some (.bool true) := hB.cell 2
  have p3 : wi.cell? ⟨g3, 3, none⟩ = some (.bool false) := hB.cell 3
  clear hB
  go_upto_region 8 with (fail)
  clear p0 p1 p2 p3
  obtain ⟨R1, hR1⟩ : ∃ R : ByteArray, R = ⟨(len1 x.typ :: x.typ.data.toList).toArray⟩ := ⟨_, rfl⟩
  obtain ⟨R2, hR2⟩ : ∃ R : ByteArray, R = ⟨(be8 x.size.toNat).toArray⟩ := ⟨_, rfl⟩
  have hs1 : R1.size ≤ 129 := by rw [hR1, siz, List.length_cons, len_data]; omega
  have hs2 : R2.size ≤ 8 := by rw [hR2, siz, be8_len]; exact Nat.le_refl 8
  have C1 := y_ (fun w => textR_any x.typ w (by omega))
  have C2 := y_ (fun w => numberR_any x.size.toNat w (by omega))
  rw [Int.toNat_of_nonneg hs0] at C2
  rw [← hR1] at C1
  rw [← hR2] at C2
  have HR1 := y_ (show R1.data.toList = len1 x.typ :: x.typ.data.toList by rw [hR1])
  have HR2 := y_ (show R2.data.toList = be8 x.size.toNat by rw [hR2])
  clear hR1 hR2
  apply Reg.wp_tab Reg.Ext (by kernel_rfl) (by kernel_rfl) Reg.Ext.refl (fun _ _ _ => Reg.Ext.trans) (Reg.Ext.drew _)
  case' h => intro O
  repeat (first
   | (apply Reg.TW.move_ Reg.Ext.refl _ rfl rfl
      ·simp only [z_1, z_2, z_3, z_4, z_5, z_b, z_6, z_7, z_8, z_9, z_0]
       rfl)
   | (apply Reg.TW.assign_ Reg.Ext.refl _ rfl rfl
      ·simp only [z_1, z_2, z_3, z_4, z_5, z_b, z_6, z_7, z_8, z_9, z_0]
       rfl)
   | (apply Reg.TW.skip_ rfl
      ·simp only [z_1, z_2, z_3, z_4, z_5, z_b, z_6, z_7, z_8, z_9, z_0]
       rfl)
   | (apply Reg.TW.pure_ rfl
      ·intro w1 hw1 hf K hK
       simp only [z_1, z_3, z_4, z_5] at hK
       have HK := y_ hK
       clear hf hK
       have q1 : w1.cell? ⟨g1, 35, none⟩ = some (.string x.typ) := (by rw [(H1.out.ext hw1).cell, at35 x hx])
       unfold Reg.One; dsimp only
       go_wp2_with fail
       exact HK.out _ (Reg.Ext.refl _)
      ·simp only [z_1, z_2, z_3, z_4, z_5, z_b, z_6, z_7, z_8, z_9, z_0]
       rfl))
  apply Reg.TW.call_ (c := .string R1) (fun _ => True) rfl (fun _ _ _ h => h)
  ·intro w1 hw1 hf K hK
   simp only [z_1, z_3, z_4, z_5] at hK
   have HK := y_ hK
   clear hK
   unfold Reg.One; dsimp only
   go_wp2_with fail
   refine (C1.out _).mono ?_
   rintro e w' ⟨rfl, hx⟩
   go_wp2_with fail
   exact HK.out _ hx trivial
  ·simp only [z_1, z_2, z_3, z_4, z_5, z_b, z_6, z_7, z_8, z_9, z_0]
   rfl
  repeat (first
   | (apply Reg.TW.move_ Reg.Ext.refl _ rfl rfl
      ·simp only [z_1, z_2, z_3, z_4, z_5, z_b, z_6, z_7, z_8, z_9, z_0]
       rfl)
   | (apply Reg.TW.assign_ Reg.Ext.refl _ rfl rfl
      ·simp only [z_1, z_2, z_3, z_4, z_5, z_b, z_6, z_7, z_8, z_9, z_0]
       rfl)
   | (apply Reg.TW.skip_ rfl
      ·simp only [z_1, z_2, z_3, z_4, z_5, z_b, z_6, z_7, z_8, z_9, z_0]
       rfl)
   | (apply Reg.TW.pure_ rfl
      ·intro w1 hw1 hf K hK
       simp only [z_1, z_3, z_4, z_5] at hK
       have HK := y_ hK
       clear hf hK
       have q2 : w1.cell? ⟨g1, 36, none⟩ = some (.int .i64 x.size) := (by rw [(H1.out.ext hw1).cell, at36 x hx])
       unfold Reg.One; dsimp only
       go_wp2_with fail
       exact HK.out _ (Reg.Ext.refl _)
      ·simp only [z_1, z_2, z_3, z_4, z_5, z_b, z_6, z_7, z_8, z_9, z_0]
       rfl))
  apply Reg.TW.call_ (c := .string R2) (fun _ => True) rfl (fun _ _ _ h => h)
  ·intro w1 hw1 hf K hK
   simp only [z_1, z_3, z_4, z_5] at hK
   have HK := y_ hK
   clear hK
   unfold Reg.One; dsimp only
   go_wp2_with fail
   refine (C2.out _).mono ?_
   rintro e w' ⟨rfl, hx⟩
   go_wp2_with fail
   exact HK.out _ hx trivial
  ·simp only [z_1, z_2, z_3, z_4, z_5, z_b, z_6, z_7, z_8, z_9, z_0]
   rfl
  repeat (first
   | (apply Reg.TW.move_ Reg.Ext.refl _ rfl rfl
      ·simp only [z_1, z_2, z_3, z_4, z_5, z_b, z_6, z_7, z_8, z_9, z_0]
       rfl)
   | (apply Reg.TW.assign_ Reg.Ext.refl _ rfl rfl
      ·simp only [z_1, z_2, z_3, z_4, z_5, z_b, z_6, z_7, z_8, z_9, z_0]
       rfl)
   | (apply Reg.TW.skip_ rfl
      ·simp only [z_1, z_2, z_3, z_4, z_5, z_b, z_6, z_7, z_8, z_9, z_0]
       rfl)
   | (apply Reg.TW.pure_ rfl
      ·intro w1 hw1 hf K hK
       simp only [z_1, z_3, z_4, z_5] at hK
       have HK := y_ hK
       clear hf hK
       unfold Reg.One; dsimp only
       go_wp2_with fail
       exact HK.out _ (Reg.Ext.refl _)
      ·simp only [z_1, z_2, z_3, z_4, z_5, z_b, z_6, z_7, z_8, z_9, z_0]
       rfl))
  refine Reg.TW.nil_ ?_
  intro wj xj _
  have H1n := y_ (H1.out.ext xj)
  have HFn := y_ (HF.out.ext xj)
  have Xn := y_ (X.out.trans xj)
  clear H1 HF X xj
  have H1 := H1n
  have HF := HFn
  have X := Xn
  clear H1n HFn Xn
  try clear wi
  generalize wj = wi at *
  clear C1 C2
  obtain ⟨A2, hA2⟩ : ∃ A2, A ++ R1 ++ R2 = A2 := ⟨_, rfl⟩
  rw [hA2]
  have hA2l : A2.data.toList = A.data.toList ++ R1.data.toList ++ R2.data.toList := by rw [← hA2]; simp
  rw [HA.out, HR1.out, HR2.out] at hA2l
  clear HR1 HR2
  have hA2s : A2.size ≤ 500 := by rw [← hA2, ByteArray.size_append, ByteArray.size_append]; omega
  clear hA2 HA hAs
  have hAs := hA2s
  have HA := y_ hA2l
  clear hA2s hA2l
  generalize A2 = A at *
  have hB := HF.out
  have p0 : wi.cell? ⟨g3, 0, none⟩ = some (.bool false) := hB.cell 0
  have p1 : wi.cell? ⟨g3, 1, none⟩ = some (.bool true) := hB.cell 1
  have p2 : wi.cell? ⟨g3, 2, none⟩ = some (.bool true) := hB.cell 2
  have p3 : wi.cell? ⟨g3, 3, none⟩ = some (.bool false) := hB.cell 3
  clear hB
  have HV : Hid ((⟨(body x).toArray⟩ : ByteArray) = A) := by
   show _ = _
   exact ba_ext (by rw [lst, HA.out]; unfold body; rw [← HFL.out]; simp)
  go_wp2_with fail
  go_ret
  exact ⟨by rw [HV.out]; rfl, X.out⟩
  all_goals rfl
 ·rw [show (F.cells ⟨false, true, false, false⟩) = [.bool false, .bool true, .bool false, .bool false] from rfl]
  go_upto_region 2 with (fail)
  have hbf : Blk (w2.alloc (Obj.cells #[Value.bool false, Value.bool true, Value.bool false, Value.bool false] 130)) w2.heap.size 130 [.bool false, .bool true, .bool false, .bool false] := Blk.new w2 130 #[Value.bool false, Value.bool true, Value.bool false, Value.bool false]
  have hxf := Reg.Ext.alloc w2 (Obj.cells #[Value.bool false, Value.bool true, Value.bool false, Value.bool false] 130)
  have HF := y_ hbf
  have H1n := y_ (H1.out.ext hxf)
  have Xn := y_ (X.out.trans hxf)
  clear H1 X hbf hxf c0
  have H1 := H1n
  have X := Xn
  clear H1n Xn
  generalize w2.alloc (Obj.cells #[Value.bool false, Value.bool true, Value.bool false, Value.bool false] 130) = wi at *
  generalize w2.heap.size = g3 at *
  have c0 : wi.cell? ⟨g1, 0, none⟩ = some (.int .i64 x.k) := H1.out.cell 0
  have hkm := hkb.2
  have hkn : x.k = ((UInt8.ofNat x.k.toNat).toNat : Int) := hkb.2.symm.trans hkb.1
  have hk1 := Blk.new wi 5 #[Value.int .u8 x.k]
  have hcv := conv_bytes (P := Tryz.prog) (wi.alloc (Obj.cells #[Value.int .u8 x.k] 5)) 84 9 5 Tryz.underlying84 Tryz.underlying5 Tryz.underlying9 wi.heap.size 0 1 1 [UInt8.ofNat x.k.toNat] rfl (by
   intro j hj
   match j, hj with
   | 0, _ =>
     rw [hk1.cell]
     show some (Value.int .u8 x.k) = some (byteV (UInt8.ofNat x.k.toNat))
     unfold byteV
     rw [← hkn])
  have xj := Reg.Ext.alloc wi (Obj.cells #[Value.int .u8 x.k] 5)
  obtain ⟨A, hA⟩ : ∃ A : ByteArray, A = ⟨#[UInt8.ofNat x.k.toNat]⟩ := ⟨_, rfl⟩
  have HKN := y_ hkn
  clear hkn hk1
  go_upto_region 3 with (fail)
  clear hcv hkm c0
  generalize wi.alloc (Obj.cells #[Value.int .u8 x.k] 5) = wj at *
  generalize wi.heap.size = gk at *
  have H1n := y_ (H1.out.ext xj)
  have HFn := y_ (HF.out.ext xj)
  have Xn := y_ (X.out.trans xj)
  clear H1 HF X xj
  have H1 := H1n
  have HF := HFn
  have X := Xn
  clear H1n HFn Xn
  try clear wi
  generalize wj = wi at *
  rw [← hA]
  have HA := y_ (show A.data.toList = [UInt8.ofNat x.k.toNat] by rw [hA])
  have hAs : A.size ≤ 1 := by rw [hA]; exact Nat.le_refl 1
  clear hA
  have hB := HF.out
  have p0 : wi.cell? ⟨g3, 0, none⟩ = some (.bool false) := hB.cell 0
  have p1 : wi.cell? ⟨g3, 1, none⟩ = some (.bool true) := hB.cell 1
  have p2 : wi.cell? ⟨g3, 2, none⟩ = some (.bool false) := hB.cell 2
  have p3 : wi.cell? ⟨g3, 3, none⟩ = some (.bool false) := hB.cell 3
  clear hB
  go_upto_region 6 with (fail)
  clear p0 p1 p2 p3
  have hcv : (convert 84 9 (.slice (some ⟨g1, 3, none⟩) 32 32)).run Tryz.prog wi = .ok (.string ⟨x.dig.toArray⟩) wi := by
   refine conv_bytes wi 84 9 5 Tryz.underlying84 Tryz.underlying5 Tryz.underlying9 g1 3 32 32 x.dig hx ?_
   intro j hj
   exact range_dig H1.out j (byteV x.dig[j]) (by rw [List.getElem?_map, List.getElem?_eq_getElem hj]; rfl)
  have hal : Tryz.prog.arrayLen 37 = 32 := by as_aux_lemma => kernel_rfl
  obtain ⟨D, hD⟩ : ∃ D : ByteArray, D = ⟨x.dig.toArray⟩ := ⟨_, rfl⟩
  have hDs : D.size = 32 := by rw [hD, siz, hx]
  rw [← hD] at hcv
  have HD := y_ (show D.data.toList = x.dig by rw [hD])
  clear hD
  go_upto_region 7 with (fail)
  clear hcv hal
  obtain ⟨A2, hA2⟩ : ∃ A2, A ++ D = A2 := ⟨_, rfl⟩
  rw [hA2]
  have hA2l : A2.data.toList = A.data.toList ++ D.data.toList := by rw [← hA2]; simp
  rw [HA.out, HD.out] at hA2l
  clear HD
  have hA2s : A2.size ≤ 340 := by rw [← hA2, ByteArray.size_append]; omega
  clear hA2 HA hAs
  have hAs := hA2s
  have HA := y_ hA2l
  clear hA2s hA2l
  generalize A2 = A at *
  have hB := HF.out
  have p0 : wi.cell? ⟨g3, 0, none⟩ = some (.bool false) := hB.cell 0
  have p1 : wi.cell? ⟨g3, 1, none⟩ = some (.bool true) := hB.cell 1
  have p2 : wi.cell? ⟨g3, 2, none⟩ = some (.bool false) := hB.cell 2
  have p3 : wi.cell? ⟨g3, 3, none⟩ = some (.bool false) := hB.cell 3
  clear hB
  have HV : Hid ((⟨(body x).toArray⟩ : ByteArray) = A) := by
   show _ = _
   exact ba_ext (by rw [lst, HA.out]; unfold body; rw [← HFL.out]; simp)
  go_wp2_with fail
  go_ret
  exact ⟨by rw [HV.out]; rfl, X.out⟩
end Slp
end Go.Proofs.YtafeealbdpmdkaaGreatDoor

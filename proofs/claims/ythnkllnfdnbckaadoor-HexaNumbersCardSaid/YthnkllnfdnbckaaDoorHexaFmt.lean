/- internal/strconv.FormatInt at base 16; hexa.Hexnum. -/
import Derived.Test.YthnkllnfdnbckaaDoorHexaDec
import Derived.Test.YthnkllnfdnbckaaDoorBlk
set_option linter.unusedSimpArgs false
set_option linter.unusedVariables false
set_option linter.unusedSectionVars false
namespace Go.Proofs.YthnkllnfdnbckaaDoor
open Go.RowKit
namespace Hex
open HexP
def hexDigits (u : Nat) : List UInt8 := if u < 16 then [dig u] else hexDigits (u / 16) ++ [dig (u % 16)]
termination_by u
decreasing_by omega
theorem hexDigits_small {u : Nat} (h : u < 16) : hexDigits u = [dig u] := by rw [hexDigits, if_pos h]
theorem hexDigits_big {u : Nat} (h : ¬ u < 16) : hexDigits u = hexDigits (u / 16) ++ [dig (u % 16)] := by rw [hexDigits, if_neg h]
def Tz (w : World) : Prop := w.cell? ⟨2, 15, none⟩ = some (.int .u8 4)
theorem Tz.ext {w w' : World} (h : Tz w) (hx : Reg.Ext w w') : Tz w' := by
  have hlt := World.block_lt_of_cell? w _ h
  unfold Tz at *
  rw [hx.cell hlt]; exact h
set_option maxHeartbeats 1000000 in
theorem tz64 (w : World) (ht : Tz w) : Calls Tryd.prog 40 #[.int .u64 16] w fun e w' => e = .returned (.int .i64 4) ∧ w = w' := by
  have c1 : w.cell? ⟨2, 15, none⟩ = some (.int .u8 4) := ht
  have e0 : Go.bits .and .u64 16 (IntKind.u64.wrap (-16)) = 16 := by decide
  have e1 : Go.bits .and .u64 16 18446744073709551600 = 16 := by decide
  go_enter Tryd.func40, Tryd.ntmps40
  go_wp2
  go_ret
  exact ⟨rfl, rfl⟩
set_option maxHeartbeats 1000000 in
theorem tz_16 (w : World) (ht : Tz w) : Calls Tryd.prog 38 #[.int .u64 16] w fun e w' => e = .returned (.int .i64 4) ∧ w = w' := by
  have HT := Lib.hid ht
  clear ht
  go_enter Tryd.func38, Tryd.ntmps38
  go_wp2_with fail
  refine (tz64 w HT.out).mono ?_
  rintro e w' ⟨rfl, rfl⟩
  go_wp2
  go_ret
  exact ⟨rfl, rfl⟩
set_option maxHeartbeats 1000000 in
theorem two_16 (w : World) : Calls Tryd.prog 37 #[.int .i64 16] w fun e w' => e = .returned (.bool true) ∧ w = w' := by
  have e0 : Go.bits .and .i64 16 15 = 0 := by decide
  go_enter Tryd.func37, Tryd.ntmps37
  go_wp2
  go_ret
  exact ⟨rfl, rfl⟩
theorem and15u (v : Nat) (hv : v < 18446744073709551616) : Go.bits .and .u64 (v : Int) 15 = ((v % 16 : Nat) : Int) := by
  have := u64_and_nat v 15 hv (by omega)
  rw [show ((15 : Nat) : Int) = 15 from rfl] at this
  rw [this]
  congr 1
  exact Nat.and_two_pow_sub_one_eq_mod v 4
def a36 : ByteArray := ⟨#[48, 49, 50, 51, 52, 53, 54, 55, 56, 57, 97, 98, 99, 100, 101, 102, 103, 104, 105, 106, 107, 108, 109, 110, 111, 112, 113, 114, 115, 116, 117, 118, 119, 120, 121, 122]⟩
theorem index_36 (n : Nat) (m : Int) (h : n < 16) (hm : m = (n : Int)) : ∀ W, (Instr.index 9 (.string ⟨#[48, 49, 50, 51, 52, 53, 54, 55, 56, 57, 97, 98, 99, 100, 101, 102, 103, 104, 105, 106, 107, 108, 109, 110, 111, 112, 113, 114, 115, 116, 117, 118, 119, 120, 121, 122]⟩) (.int .u64 m)).run Tryd.prog W = .ok (.int .u8 ((dig n).toNat : Int)) W := by
  intro W
  subst hm
  rcases (by omega : n = 0 ∨ n = 1 ∨ n = 2 ∨ n = 3 ∨ n = 4 ∨ n = 5 ∨ n = 6 ∨ n = 7 ∨ n = 8 ∨ n = 9 ∨ n = 10 ∨ n = 11 ∨ n = 12 ∨ n = 13 ∨ n = 14 ∨ n = 15) with
    rfl | rfl | rfl | rfl | rfl | rfl | rfl | rfl | rfl | rfl | rfl | rfl | rfl | rfl | rfl | rfl <;> as_aux_lemma => kernel_rfl
/-- the buffer of 65 bytes, its end filled -/
def Tail (w : World) (g i : Nat) (l : List UInt8) : Prop := i + l.length = 65 ∧ ∃ pre : List Value, pre.length = i ∧ Blk w g 55 (pre ++ l.map byteV)
theorem Tail.new (w : World) (cs : Array Value) (h : cs.size = 65) : Tail (w.alloc (.cells cs 55)) w.heap.size 65 [] :=
  ⟨rfl, cs.toList, by simpa using h, by simpa using Blk.new w 55 cs⟩
theorem Tail.cell {w : World} {g i : Nat} {l : List UInt8} (h : Tail w g (i + 1) l) : ∃ v, w.cell? ⟨g, i, none⟩ = some v := by
  obtain ⟨_, pre, hp, hb⟩ := h
  exact ⟨_, hb.cellAt (i := i) (by simp; omega)⟩
theorem Tail.frozen {w : World} {g i : Nat} {l : List UInt8} (h : Tail w g i l) (k : Nat) : w.frozen? ⟨g, k, none⟩ = false := by
  obtain ⟨_, pre, hp, hb⟩ := h
  exact hb.frozen k
theorem Tail.set_ {w : World} {g i : Nat} {l : List UInt8} (h : Tail w g (i + 1) l) (c : UInt8) : Tail (w.setCell ⟨g, i, none⟩ (.int .u8 (c.toNat : Int))) g i (c :: l) := by
  obtain ⟨hs, pre, hp, hb⟩ := h
  refine ⟨by simp; omega, pre.take i, by rw [List.length_take]; omega, ?_⟩
  have h2 := hb.set_ i (.int .u8 (c.toNat : Int))
  have e : (pre ++ l.map byteV).set i (.int .u8 (c.toNat : Int)) = pre.take i ++ (c :: l).map byteV := by
    rw [List.set_append_left _ _ (by omega), List.set_eq_take_append_cons_drop, if_pos (by omega), List.drop_of_length_le (by omega)]
    simp [byteV]
  rw [e] at h2
  exact h2
theorem Tail.str {w : World} {g i : Nat} {l : List UInt8} (h : Tail w g i l) (len cap : Nat) (hl : l.length = len) : (convert 39 9 (.slice (some ⟨g, i, none⟩) len cap)).run Tryd.prog w = .ok (.string ⟨l.toArray⟩) w := by
  obtain ⟨hs, pre, hp, hb⟩ := h
  refine conv_bytes w 39 9 5 Tryd.underlying39 Tryd.underlying5 Tryd.underlying9 g i len cap l hl ?_
  intro j hj
  rw [hb.cellAt (by simp; omega)]
  rw [List.getElem_append_right (by omega)]
  simp [hp]
def zeros65 : Array Value := (List.replicate 65 (Value.int .u8 0)).toArray
theorem zero_65 : ∀ w, (zeroValue 55).run Tryd.prog w = .ok (.agg zeros65) w := fun w => by
  as_aux_lemma => kernel_rfl
theorem pow_step (m v : Nat) (hm : 49 ≤ m) (hv : v < 16 ^ (m + 1 - 49)) (h : 16 ≤ v) : 50 ≤ m ∧ v / 16 < 16 ^ (m - 49) := by
  have hne : m ≠ 49 := by rintro rfl; simp at hv; omega
  refine ⟨by omega, ?_⟩
  have e : m + 1 - 49 = (m - 49) + 1 := by omega
  rw [e, Nat.pow_succ] at hv
  exact Nat.div_lt_of_lt_mul (by omega)
set_option maxRecDepth 100000 in
set_option maxHeartbeats 4000000 in
theorem bits_16 (u : Nat) (hu : u < 18446744073709551616) (w : World) (ht : Tz w) : Calls Tryd.prog 33 #[.slice none 0 0, .int .u64 (u : Int), .int .i64 16, .bool false, .bool false] w fun e w' => e = .returned (.tuple #[.slice none 0 0, .string ⟨(hexDigits u).toArray⟩]) ∧ Reg.Ext w w' := by
  have HT := Lib.hid (ht.ext (Reg.Ext.alloc w (Obj.cells zeros65 55)))
  clear ht
  have hz := zero_65 w
  go_enter Tryd.func33, Tryd.ntmps33
  go_wp2_with fail
  have hx0 := Reg.Ext.alloc w (Obj.cells zeros65 55)
  have ht0 := Tail.new w zeros65 (by rfl)
  generalize w.alloc (Obj.cells zeros65 55) = w0 at *
  generalize hgg : w.heap.size = g at *
  have hgl : w.heap.size ≤ g := by omega
  have HX0 := Lib.hid hx0
  have HT0 := Lib.hid ht0
  clear hx0 ht0 hz hgg
  refine (two_16 _).mono ?_
  rintro e w' ⟨rfl, rfl⟩
  go_wp2_with fail
  refine (tz_16 _ HT.out).mono ?_
  rintro e w' ⟨rfl, rfl⟩
  go_wp2_with fail
  go_loopw [1, 13] (fun a i wr => ∃ m v : Nat, 49 ≤ m ∧ m ≤ 64 ∧ v < 16 ^ (m + 1 - 49) ∧ i = .int .i64 ((m : Int) + 1) ∧ a = .int .u64 (v : Int) ∧ v < 18446744073709551616 ∧ ∃ l : List UInt8, Hid (hexDigits u = hexDigits v ++ l) ∧ Hid (Tail wr g (m + 1) l) ∧ Hid (Reg.Ext w wr)) (fun a _ _ => (intOf a).toNat)
  case atStart => exact ⟨64, u, by omega, by omega, by simpa using hu, rfl, rfl, hu, [], by show _ = _; simp, HT0, HX0⟩
  case round =>
    obtain ⟨m, v, hm, hm2, hvm, rfl, rfl, hv, l, HL, HTA, HX⟩ := hrel
    clear HT0 HX0 HT
    obtain ⟨cv, hcv⟩ := HTA.out.cell
    have hfz := HTA.out.frozen m
    have HTN := fun c => HTA.out.set_ c
    have HXN := fun c => HX.out.trans_but (But.set_ g wr m c) hgl
    have hll := HTA.out.1
    by_cases h16 : 16 ≤ v
    · have d1 : decide ((16 : Int) ≤ (v : Int)) = true := by rw [decide_eq_true_iff]; omega
      have hst := pow_step m v hm hvm h16
      have ha := and15u v hv
      rw [Int.natCast_emod] at ha
      have hi := index_36 (v % 16) ((v : Int) % 16) (by omega) (by omega)
      have HL2 : Hid (hexDigits u = hexDigits (v / 16) ++ dig (v % 16) :: l) := by
        show _ = _
        rw [HL.out, hexDigits_big (by omega)]; simp
      have HTN2 := Lib.hid (HTN (dig (v % 16)))
      have HXN2 := Lib.hid (HXN (.int .u8 ((dig (v % 16)).toNat : Int)))
      have HST := Lib.hid (And.intro h16 hst)
      clear HTN HXN hst h16 hvm HL HTA HX
      go_wp2_with fail
      obtain ⟨m', rfl⟩ : ∃ m', m = m' + 1 := ⟨m - 1, by have := HST.out.2.1; omega⟩
      refine ⟨⟨m', v / 16, by have := HST.out.2.1; omega, by omega, HST.out.2.2, by rw [Int.natCast_add]; rfl, by go_num, by omega, _, HL2, HTN2, HXN2⟩, by have := HST.out.1; simp [intOf]; omega⟩
    · have d1 : decide ((16 : Int) ≤ (v : Int)) = false := by rw [decide_eq_false_iff_not]; omega
      have hi := index_36 v (v : Int) (by omega) rfl
      have HL2 : Hid (hexDigits u = dig v :: l) := by
        show _ = _
        rw [HL.out, hexDigits_small (by omega)]; rfl
      have hsl := run_slice_arr_from (P := Tryd.prog) 55 65 5 Tryd.underlying55 (by kernel_rfl) g 0 m .i64 (by omega)
      rw [Nat.zero_add] at hsl
      have hst := (HTN (dig v)).str (65 - m) (65 - m) (by rw [List.length_cons]; omega)
      have HXN2 := Lib.hid (HXN (.int .u8 ((dig v).toNat : Int)))
      clear HTN HXN h16 hvm HL HTA HX
      go_wp2_with fail
      go_ret2
      exact ⟨by rw [HL2.out]; rfl, HXN2.out⟩
set_option maxHeartbeats 1000000 in
theorem fmtI_16 (u : Nat) (hu : u < 9223372036854775808) (w : World) (ht : Tz w) : Calls Tryd.prog 29 #[.int .i64 (u : Int), .int .i64 16] w fun e w' => e = .returned (.string ⟨(hexDigits u).toArray⟩) ∧ Reg.Ext w w' := by
  have HT := Lib.hid ht
  clear ht
  have d1 : decide ((u : Int) < 0) = false := by rw [decide_eq_false_iff_not]; omega
  go_enter Tryd.func29, Tryd.ntmps29
  go_wp2_with fail
  refine (bits_16 u (by omega) w HT.out).mono ?_
  rintro e w1 ⟨rfl, x1⟩
  have X1 := Lib.hid x1
  clear x1
  go_wp2_with fail
  go_ret
  exact ⟨rfl, X1.out⟩
theorem fmt_16 (u : Nat) (hu : u < 9223372036854775808) (w : World) (ht : Tz w) : Calls Tryd.prog 25 #[.int .i64 (u : Int), .int .i64 16] w fun e w' => e = .returned (.string ⟨(hexDigits u).toArray⟩) ∧ Reg.Ext w w' := by
  have HT := Lib.hid ht
  clear ht
  go_enter Tryd.func25, Tryd.ntmps25
  go_wp2_with fail
  refine (fmtI_16 u hu w HT.out).mono ?_
  rintro e w1 ⟨rfl, x1⟩
  have X1 := Lib.hid x1
  clear x1
  go_wp2_with fail
  go_ret
  exact ⟨rfl, X1.out⟩
theorem hexnum_any (n : Int) (w : World) (h0 : -9223372036854775808 ≤ n) (h1 : n ≤ 9223372036854775807) (ht : Tz w) : Calls Tryd.prog 14 #[.int .i64 n] w fun e w' => e = .returned (.string ⟨(hexDigits n.toNat).toArray⟩) ∧ Reg.Ext w w' := by
  have HT := Lib.hid ht
  clear ht
  go_enter Tryd.func14, Tryd.ntmps14
  go_wp2_with fail
  rw [show max n 0 = ((n.toNat : Nat) : Int) by omega]
  refine (fmt_16 n.toNat (by omega) w HT.out).mono ?_
  rintro e w1 ⟨rfl, x1⟩
  have X1 := Lib.hid x1
  clear x1
  go_wp2_with fail
  go_ret
  exact ⟨rfl, X1.out⟩
end Hex
end Go.Proofs.YthnkllnfdnbckaaDoor

/- CrcTells: a burst of up to 32 bits changes the sum. -/
import Derived.Test.YtphjephneaaohaaDoorCrcLaws
import Derived.Test.YtphjephneaaohaaDoorBytes
set_option linter.unusedSimpArgs false
set_option linter.unusedVariables false
set_option linter.unusedSectionVars false
namespace Go.Proofs.YtphjephneaaohaaDoor
open Go.RowKit
namespace Crc
open CrcP

theorem byte_split (u v : Nat) (hu : u < 256) : u + 256 * v = 2 ^ 8 * v ^^^ u := by
  have h1 := split_xor 8 (u + 256 * v)
  have e1 : (u + 256 * v) / 2 ^ 8 = v := by omega
  have e2 : (u + 256 * v) % 2 ^ 8 = u := by omega
  rw [e1, e2] at h1
  exact h1
theorem shl_xor (k a b : Nat) : 2 ^ k * (a ^^^ b) = 2 ^ k * a ^^^ 2 ^ k * b := by
  have := Nat.shiftLeft_xor_distrib (a := a) (b := b) (i := k)
  simpa [Nat.shiftLeft_eq, Nat.mul_comm] using this
theorem le_set (l : List UInt8) (p : Nat) (x : UInt8) (h : p < l.length) : le (l.set p (l[p] ^^^ x)) = le l ^^^ 2 ^ (8 * p) * x.toNat := by
  induction l generalizing p with
  | nil => simp at h
  | cons c l ih =>
    cases p with
    | zero =>
      simp only [List.set_cons_zero, List.getElem_cons_zero, le, UInt8.toNat_xor, Nat.mul_zero, Nat.pow_zero, Nat.one_mul]
      rw [byte_split _ _ (Nat.xor_lt_two_pow (n := 8) c.toNat_lt x.toNat_lt), byte_split _ _ c.toNat_lt, Nat.xor_assoc]
    | succ p =>
      have h' : p < l.length := by simpa using h
      simp only [List.set_cons_succ, List.getElem_cons_succ, le]
      rw [ih p h', byte_split _ _ c.toNat_lt, byte_split _ _ c.toNat_lt, shl_xor]
      rw [show 8 * (p + 1) = 8 + 8 * p from by omega, Nat.pow_add, Nat.mul_assoc, Nat.xor_assoc, Nat.xor_comm _ c.toNat, ← Nat.xor_assoc]
theorem mod_next (B k : Nat) : B % 2 ^ (8 * (k + 1)) = B % 2 ^ (8 * k) ^^^ 2 ^ (8 * k) * (B / 2 ^ (8 * k) % 256) := by
  have h := split_xor (8 * k) (B % 2 ^ (8 * (k + 1)))
  have e : 2 ^ (8 * (k + 1)) = 2 ^ (8 * k) * 256 := by rw [show 8 * (k + 1) = 8 * k + 8 from by omega, Nat.pow_add]
  rw [e, Nat.mod_mul_right_div_self, Nat.mod_mul_right_mod] at h
  rw [e, h, Nat.xor_comm]

theorem burst_round (wr : World) (g : Nat) (l : List UInt8) (s0 q k B : Nat) (hp : q + k < l.length) (hb : BytesAt wr g l) (hle : le l = s0 ^^^ 2 ^ (8 * q) * (B % 2 ^ (8 * k))) :
    ∃ (c3 c2 : Nat) (l2 : List UInt8), wr.cell? ⟨g, q + k, none⟩ = some (.int .u8 (c3 : Int)) ∧ wr.frozen? ⟨g, q + k, none⟩ = false ∧
      Go.bits .xor .u8 (c3 : Int) ((B / 2 ^ (8 * k) % 256 : Nat) : Int) = (c2 : Int) ∧ BytesAt (wr.setCell ⟨g, q + k, none⟩ (.int .u8 (c2 : Int))) g l2 ∧ l2.length = l.length ∧
      le l2 = s0 ^^^ 2 ^ (8 * q) * (B % 2 ^ (8 * (k + 1))) := by
  have hx : B / 2 ^ (8 * k) % 256 < 256 := Nat.mod_lt _ (by decide)
  have hx' : (UInt8.ofNat (B / 2 ^ (8 * k) % 256)).toNat = B / 2 ^ (8 * k) % 256 := by
    rw [UInt8.toNat_ofNat', Nat.mod_eq_of_lt hx]
  refine ⟨(l[q + k]).toNat, (l[q + k] ^^^ UInt8.ofNat (B / 2 ^ (8 * k) % 256)).toNat, l.set (q + k) (l[q + k] ^^^ UInt8.ofNat (B / 2 ^ (8 * k) % 256)), hb.cell _ hp, hb.free _ hp, ?_, hb.set (q + k) _ hp, List.length_set, ?_⟩
  · rw [u8_xor_nat _ _ (l[q + k]).toNat_lt hx, UInt8.toNat_xor, hx']
  · rw [le_set l (q + k) _ hp, hle, mod_next B k, shl_xor, Nat.xor_assoc, hx', ← Nat.mul_assoc, ← Nat.pow_add, Nat.mul_add]

set_option maxRecDepth 100000 in
set_option maxHeartbeats 1600000 in
theorem tells_law (s : ByteArray) (at_ : Int) (mask : Nat) (w : World) (hs : s.size ≤ maxLen) (h1 : -9223372036854775808 ≤ at_) (h2 : at_ ≤ 9223372036854775807) (hmask : mask < 4294967296) (hT : Tab w) :
    Calls Tryd.prog 5 #[.string s, .int .i64 at_, .int .u32 (mask : Int)] w fun e w' => e = .returned (.bool true) ∧ Reg.Ext w w' := by
  unfold maxLen at hs
  have HT := Lib.hid hT
  clear hT
  by_cases hl : 4 ≤ s.size ∧ s.size ≤ 4096 ∧ mask ≠ 0
  · obtain ⟨hl4, hl, hm0⟩ := hl
    have d1 : decide ((s.size : Int) < 4) = false := by simp; omega
    have d2 : decide ((4096 : Int) < (s.size : Int)) = false := by simp; omega
    have d3 : ((mask : Int) == 0) = false := by simp; omega
    go_enter Tryd.func5, Tryd.ntmps5
    go_wp2_with fail
    refine (awake_any _ HT.out).mono ?_
    rintro e w1 ⟨rfl, x1⟩
    obtain ⟨bit, hbit, ek⟩ := umod at_ (8 * (s.size - 4)) (by omega)
    have ek' : wrap64 ((IntKind.u64.wrap at_).tmod (8 * ((s.size : Int) - 4) + 1)) = (bit : Int) := by
      rw [← ek]; congr 2; omega
    clear ek
    have hcv := fun w : World => Lib.run_convert_string_bytes (P := Tryd.prog) w 9 32 5 s Tryd.underlying9 Tryd.underlying32 Tryd.underlying5
    go_wp2_with fail
    rw [ek']
    have HEK := Lib.hid ek'
    clear ek' hcv
    have hB : mask * 2 ^ (bit % 8) < 549755813888 := by
      have h8 : 2 ^ (bit % 8) ≤ 2 ^ 7 := Nat.pow_le_pow_right (by decide) (by omega)
      calc mask * 2 ^ (bit % 8) ≤ 4294967295 * 2 ^ 7 := Nat.mul_le_mul (by omega) h8
        _ < 549755813888 := by decide
    have eB : IntKind.u64.wrap ((mask : Int) * 2 ^ (bit % 8)) = ((mask * 2 ^ (bit % 8) : Nat) : Int) := by
      rw [IntKind.wrap_u64]
      have : (mask : Int) * 2 ^ (bit % 8) = ((mask * 2 ^ (bit % 8) : Nat) : Int) := by simp
      rw [this]; omega
    rw [eB]
    clear eB
    generalize hBB : mask * 2 ^ (bit % 8) = Bst at *
    have HBB := Lib.hid hBB
    clear hBB
    have x2 := x1.trans (conv_ext w1 5 s)
    have b2 := BytesAt.conv w1 5 s
    have hge : w.heap.size ≤ w1.heap.size := x1.size
    generalize Lib.bytesWorld w1 5 s = w2 at *
    generalize grownCap w1 s.size 0 5 = cap at *
    generalize w1.heap.size = g at *
    clear x1 h1 h2 d1 d2 d3
    go_loopw [10, 11] (fun i _ wr => ∃ k : Nat, k ≤ 5 ∧ i = .int .i64 k ∧ ∃ l : List UInt8, l.length = s.size ∧ BytesAt wr g l ∧ Reg.Ext w wr ∧ Hid (le l = le s.data.toList ^^^ 2 ^ (8 * (bit / 8)) * (Bst % 2 ^ (8 * k)))) (fun i _ _ => 5 - (intOf i).toNat)
    case atStart => exact ⟨0, by omega, rfl, s.data.toList, len_data s, b2, x2, by show _ = _; rw [Nat.mul_zero, Nat.pow_zero, Nat.mod_one, Nat.mul_zero, Nat.xor_zero]⟩
    case round =>
      obtain ⟨k, hk, rfl, l, hll, hb, hx, HL⟩ := hrel
      have HX := Lib.hid hx
      have HB := Lib.hid hb
      have HLL := Lib.hid hll
      clear hx hb hll
      have hq : bit / 8 ≤ s.size - 4 := by omega
      rcases (by omega : k = 0 ∨ k = 1 ∨ k = 2 ∨ k = 3 ∨ k = 4 ∨ k = 5) with rfl | rfl | rfl | rfl | rfl | rfl
      · obtain ⟨c3, c2, l2, cc, cf, cx, cb, cl, ce⟩ := burst_round wr g l _ (bit / 8) 0 Bst (by rw [HLL.out]; omega) HB.out HL.out
        have hxs : Reg.Ext w (wr.setCell ⟨g, bit / 8 + 0, none⟩ (.int .u8 (c2 : Int))) := HX.out.setCell hge _
        have d4 : decide ((s.size : Int) ≤ (bit : Int) / 8) = false := by rw [decide_eq_false_iff_not]; omega
        have e1 : ((Bst / 1 % 256 : Nat) : Int) = (Bst : Int) % 256 := by omega
        have ex : Go.bits .xor .u8 (c3 : Int) ((Bst : Int) % 256) = (c2 : Int) := by rw [← e1]; exact cx
        have HF := Lib.hid ce
        have HBS := Lib.hid cb
        have HXS := Lib.hid hxs
        have HLS := Lib.hid cl
        rw [Nat.add_zero] at cc cf HBS HXS
        clear ce cb hxs cl e1 cx
        go_wp2
        go_roundw
        case rel => exact ⟨1, by omega, rfl, l2, HLS.out.trans HLL.out, HBS.out, HXS.out, HF⟩
        case measure => simp [intOf]
      · obtain ⟨c3, c2, l2, cc, cf, cx, cb, cl, ce⟩ := burst_round wr g l _ (bit / 8) 1 Bst (by rw [HLL.out]; omega) HB.out HL.out
        have hxs : Reg.Ext w (wr.setCell ⟨g, bit / 8 + 1, none⟩ (.int .u8 (c2 : Int))) := HX.out.setCell hge _
        have d4 : decide ((s.size : Int) ≤ (bit : Int) / 8 + 1) = false := by rw [decide_eq_false_iff_not]; omega
        have e1 : ((Bst / 256 % 256 : Nat) : Int) = (Bst : Int) / 256 % 256 := by omega
        have ex : Go.bits .xor .u8 (c3 : Int) ((Bst : Int) / 256 % 256) = (c2 : Int) := by rw [← e1]; exact cx
        have HF := Lib.hid ce
        have HBS := Lib.hid cb
        have HXS := Lib.hid hxs
        have HLS := Lib.hid cl
        clear ce cb hxs cl e1 cx
        go_wp2
        go_roundw
        case rel => exact ⟨2, by omega, rfl, l2, HLS.out.trans HLL.out, HBS.out, HXS.out, HF⟩
        case measure => simp [intOf]
      · obtain ⟨c3, c2, l2, cc, cf, cx, cb, cl, ce⟩ := burst_round wr g l _ (bit / 8) 2 Bst (by rw [HLL.out]; omega) HB.out HL.out
        have hxs : Reg.Ext w (wr.setCell ⟨g, bit / 8 + 2, none⟩ (.int .u8 (c2 : Int))) := HX.out.setCell hge _
        have d4 : decide ((s.size : Int) ≤ (bit : Int) / 8 + 2) = false := by rw [decide_eq_false_iff_not]; omega
        have e1 : ((Bst / 65536 % 256 : Nat) : Int) = (Bst : Int) / 65536 % 256 := by omega
        have ex : Go.bits .xor .u8 (c3 : Int) ((Bst : Int) / 65536 % 256) = (c2 : Int) := by rw [← e1]; exact cx
        have HF := Lib.hid ce
        have HBS := Lib.hid cb
        have HXS := Lib.hid hxs
        have HLS := Lib.hid cl
        clear ce cb hxs cl e1 cx
        go_wp2
        go_roundw
        case rel => exact ⟨3, by omega, rfl, l2, HLS.out.trans HLL.out, HBS.out, HXS.out, HF⟩
        case measure => simp [intOf]
      · obtain ⟨c3, c2, l2, cc, cf, cx, cb, cl, ce⟩ := burst_round wr g l _ (bit / 8) 3 Bst (by rw [HLL.out]; omega) HB.out HL.out
        have hxs : Reg.Ext w (wr.setCell ⟨g, bit / 8 + 3, none⟩ (.int .u8 (c2 : Int))) := HX.out.setCell hge _
        have d4 : decide ((s.size : Int) ≤ (bit : Int) / 8 + 3) = false := by rw [decide_eq_false_iff_not]; omega
        have e1 : ((Bst / 16777216 % 256 : Nat) : Int) = (Bst : Int) / 16777216 % 256 := by omega
        have ex : Go.bits .xor .u8 (c3 : Int) ((Bst : Int) / 16777216 % 256) = (c2 : Int) := by rw [← e1]; exact cx
        have HF := Lib.hid ce
        have HBS := Lib.hid cb
        have HXS := Lib.hid hxs
        have HLS := Lib.hid cl
        clear ce cb hxs cl e1 cx
        go_wp2
        go_roundw
        case rel => exact ⟨4, by omega, rfl, l2, HLS.out.trans HLL.out, HBS.out, HXS.out, HF⟩
        case measure => simp [intOf]
      · by_cases hlast : bit / 8 + 4 < s.size
        · obtain ⟨c3, c2, l2, cc, cf, cx, cb, cl, ce⟩ := burst_round wr g l _ (bit / 8) 4 Bst (by rw [HLL.out]; omega) HB.out HL.out
          have hxs : Reg.Ext w (wr.setCell ⟨g, bit / 8 + 4, none⟩ (.int .u8 (c2 : Int))) := HX.out.setCell hge _
          have d4 : decide ((s.size : Int) ≤ (bit : Int) / 8 + 4) = false := by rw [decide_eq_false_iff_not]; omega
          have e1 : ((Bst / 4294967296 % 256 : Nat) : Int) = (Bst : Int) / 4294967296 := by omega
          have ex : Go.bits .xor .u8 (c3 : Int) ((Bst : Int) / 4294967296) = (c2 : Int) := by rw [← e1]; exact cx
          have HF := Lib.hid ce
          have HBS := Lib.hid cb
          have HXS := Lib.hid hxs
          have HLS := Lib.hid cl
          clear ce cb hxs cl e1 cx
          go_wp2
          go_roundw
          case rel => exact ⟨5, by omega, rfl, l2, HLS.out.trans HLL.out, HBS.out, HXS.out, HF⟩
          case measure => simp [intOf]
        · have hz : Bst / 4294967296 = 0 := by
            have hb8 : bit = 8 * (s.size - 4) := by omega
            have : bit % 8 = 0 := by omega
            rw [← HBB.out, this, Nat.pow_zero, Nat.mul_one]
            omega
          have d4 : decide ((s.size : Int) ≤ (bit : Int) / 8 + 4) = true := by rw [decide_eq_true_iff]; omega
          have d5 : (((Bst : Int) / 4294967296) == 0) = true := by simp; omega
          have hfin : le l = le s.data.toList ^^^ 2 ^ (8 * (bit / 8)) * (Bst % 2 ^ (8 * (4 + 1))) := by
            rw [HL.out, mod_next Bst 4]
            have : Bst / 2 ^ (8 * 4) % 256 = 0 := by show Bst / 4294967296 % 256 = 0; rw [hz]
            rw [this, Nat.mul_zero, Nat.xor_zero]
          have HF := Lib.hid hfin
          clear hz hfin
          go_wp2
          go_roundw
          case rel => exact ⟨5, by omega, rfl, l, HLL.out, HB.out, HX.out, HF⟩
          case measure => simp [intOf]
      · have hlm : le l = le s.data.toList ^^^ 2 ^ bit * mask := by
          rw [HL.out]
          congr 1
          rw [Nat.mod_eq_of_lt (show Bst < 2 ^ (8 * 5) from Nat.lt_of_lt_of_le hB (by decide)), ← HBB.out, Nat.mul_comm mask, ← Nat.mul_assoc, ← Nat.pow_add]
          rw [show 8 * (bit / 8) + bit % 8 = bit from by omega]
        have hne : ofS [⟨l.toArray⟩] ≠ ofS [s] := by
          have := tells s.data.toList l (by rw [len_data]; exact HLL.out.symm) bit mask hmask hm0 (by rw [len_data]; omega) (by rw [hlm, ← Nat.xor_assoc, Nat.xor_self, Nat.zero_xor])
          simpa [ofS, ofParts] using this
        have hsl : (⟨l.toArray⟩ : ByteArray).size ≤ maxLen := by
          show l.toArray.size ≤ maxLen
          rw [List.size_toArray, HLL.out]; exact maxLen_of hs
        have hss : s.size ≤ maxLen := maxLen_of hs
        have HNE := Lib.hid hne
        have HSL := Lib.hid hsl
        have HSS := Lib.hid hss
        have hcv : ∀ len cap, l.length = len → (convert 32 9 (.slice (some ⟨g, 0, none⟩) len cap)).run Tryd.prog wr = .ok (.string ⟨l.toArray⟩) wr := fun len cap h => HB.out.str _ _ _ Tryd.underlying32 Tryd.underlying5 Tryd.underlying9 len cap h
        have hcv1 := hcv s.size cap HLL.out
        clear hlm hne hsl hss hcv
        generalize (⟨l.toArray⟩ : ByteArray) = t at *
        go_wp2_with fail
        have x3 := HX.out.trans (Reg.Ext.alloc wr (Obj.cells #[Value.string t] 9))
        have r3 : Rd (wr.alloc (Obj.cells #[Value.string t] 9)) (some ⟨wr.heap.size, 0, none⟩) [strV t] := Rd.new wr 9 #[strV t]
        refine (of_one _ 1 t _ (ofS [t]) rfl r3 HSL.out (HT.out.below x3)).mono ?_
        rintro e w' ⟨rfl, rfl⟩
        go_wp2_with fail
        have x4 := x3.trans (Reg.Ext.alloc _ (Obj.cells #[Value.string s] 9))
        have r4 : Rd ((wr.alloc (Obj.cells #[Value.string t] 9)).alloc (Obj.cells #[Value.string s] 9)) (some ⟨wr.heap.size + 1, 0, none⟩) [strV s] := by
          have := Rd.new (wr.alloc (Obj.cells #[Value.string t] 9)) 9 #[strV s]
          rw [show (wr.alloc (Obj.cells #[Value.string t] 9)).heap.size = wr.heap.size + 1 from by simp] at this
          exact this
        refine (of_one _ 1 s _ (ofS [s]) rfl r4 HSS.out (HT.out.below x4)).mono ?_
        rintro e w' ⟨rfl, rfl⟩
        have hfb : (((ofS [t] : Nat) : Int) == ((ofS [s] : Nat) : Int)) = false := by
          rw [beq_eq_false_iff_ne]; intro h; exact HNE.out (by exact_mod_cast h)
        have hfb2 : (((ofS [t] : Nat) : Int) != ((ofS [s] : Nat) : Int)) = true := by rw [bne, hfb]; rfl
        generalize ofS [t] = q1 at *
        generalize ofS [s] = q2 at *
        go_wp2_with fail
        go_ret
        exact ⟨rfl, x4⟩
  · have hcase : s.size < 4 ∨ (4 ≤ s.size ∧ 4096 < s.size) ∨ (4 ≤ s.size ∧ s.size ≤ 4096 ∧ mask = 0) := by omega
    rcases hcase with h | ⟨h, h'⟩ | ⟨h, h', rfl⟩
    · have d1 : decide ((s.size : Int) < 4) = true := by simp; omega
      go_enter Tryd.func5, Tryd.ntmps5
      go_wp2_with fail
      refine (awake_any _ HT.out).mono ?_
      rintro e w1 ⟨rfl, x1⟩
      go_wp2_with fail
      go_ret
      exact ⟨rfl, x1⟩
    · have d1 : decide ((s.size : Int) < 4) = false := by simp; omega
      have d2 : decide ((4096 : Int) < (s.size : Int)) = true := by simp; omega
      go_enter Tryd.func5, Tryd.ntmps5
      go_wp2_with fail
      refine (awake_any _ HT.out).mono ?_
      rintro e w1 ⟨rfl, x1⟩
      go_wp2_with fail
      go_ret
      exact ⟨rfl, x1⟩
    · have d1 : decide ((s.size : Int) < 4) = false := by simp; omega
      have d2 : decide ((4096 : Int) < (s.size : Int)) = false := by simp; omega
      go_enter Tryd.func5, Tryd.ntmps5
      go_wp2_with fail
      refine (awake_any _ HT.out).mono ?_
      rintro e w1 ⟨rfl, x1⟩
      go_wp2_with fail
      go_ret
      exact ⟨rfl, x1⟩
end Crc
end Go.Proofs.YtphjephneaaohaaDoor

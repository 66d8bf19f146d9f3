/- The walks of package hexa: Undec, Unhexnum, Dec. -/
import Derived.Test.YthnkllnfdnbckaaDoorHexaNum
import Derived.Test.YthnkllnfdnbckaaDoorItoa
set_option linter.unusedSimpArgs false
set_option linter.unusedVariables false
set_option linter.unusedSectionVars false
namespace Go.Proofs.YthnkllnfdnbckaaDoor
open Go.RowKit
namespace Hex
open HexP
def isDecL (l : List UInt8) : Bool := (l.all fun c => decide (48 ≤ c.toNat ∧ c.toNat ≤ 57)) && (match l with
  | [] => false
  | [_] => true
  | c :: _ :: _ => decide (c ≠ 48))
theorem first_byte (s : ByteArray) (h : 0 < s.size) : ∃ l, s.data.toList = s[0] :: l := by
  match hl : s.data.toList with
  | [] => have := len_data s; rw [hl] at this; simp at this; omega
  | c :: l =>
    refine ⟨l, ?_⟩
    have : s[0] = s.data.toList[0]'(by rw [len_data]; exact h) := rfl
    rw [this]
    simp [hl]
set_option maxHeartbeats 2000000 in
theorem isdec_any (s : ByteArray) (w : World) (hs : s.size ≤ 274877906944) : Calls Tryd.prog 20 #[.string s] w fun e w' => e = .returned (.bool (isDecL s.data.toList)) ∧ Reg.Ext w w' := by
  go_enter Tryd.func20, Tryd.ntmps20
  obtain ⟨cap, w2, hcv, hby, hx2⟩ := BytesAt.of s w
  have HBY := Lib.hid hby
  have HX2 := Lib.hid hx2
  clear hby hx2
  go_wp2_with fail
  clear hcv
  go_loopw [4, 8] (fun _ i wr => ∃ k : Nat, k ≤ s.size ∧ i = .int .i64 k ∧ Hid (((s.data.toList.take k).all fun c => decide (48 ≤ c.toNat ∧ c.toNat ≤ 57)) = true) ∧ w2 = wr) (fun _ i _ => s.size - (intOf i).toNat)
  case atStart => exact ⟨0, Nat.zero_le _, rfl, rfl, rfl⟩
  case round =>
    obtain ⟨k, hk, rfl, HG, rfl⟩ := hrel
    by_cases hks : k < s.size
    · have cb := HBY.out.cell k hks
      have d1 : decide ((k : Int) < (s.size : Int)) = true := by rw [decide_eq_true_iff]; omega
      have hkl : k < s.data.toList.length := by rw [len_data]; exact hks
      have hmem : (s.data.toList[k]'hkl) ∈ s.data.toList := List.getElem_mem hkl
      have htk : s.data.toList.take (k + 1) = s.data.toList.take k ++ [s.data.toList[k]'hkl] := List.take_succ_eq_append_getElem hkl
      generalize (s.data.toList[k]'hkl) = c at *
      have hc := c.toNat_lt
      by_cases hlo : c.toNat < 48
      · have e1 : decide ((c.toNat : Int) < 48) = true := by rw [decide_eq_true_iff]; omega
        have HV := Lib.hid (show isDecL s.data.toList = false by
          unfold isDecL
          rw [show (s.data.toList.all fun c => decide (48 ≤ c.toNat ∧ c.toNat ≤ 57)) = false from List.all_eq_false.2 ⟨c, hmem, by simp; omega⟩]
          rfl)
        clear hmem htk hlo
        go_wp2_with fail
        go_ret
        exact ⟨by rw [HV.out]; rfl, HX2.out⟩
      · have e1 : decide ((c.toNat : Int) < 48) = false := by rw [decide_eq_false_iff_not]; omega
        by_cases hhi : 57 < c.toNat
        · have e2 : decide ((57 : Int) < (c.toNat : Int)) = true := by rw [decide_eq_true_iff]; omega
          have HV := Lib.hid (show isDecL s.data.toList = false by
            unfold isDecL
            rw [show (s.data.toList.all fun c => decide (48 ≤ c.toNat ∧ c.toNat ≤ 57)) = false from List.all_eq_false.2 ⟨c, hmem, by simp; omega⟩]
            rfl)
          clear hmem htk hlo hhi
          go_wp2_with fail
          go_ret
          exact ⟨by rw [HV.out]; rfl, HX2.out⟩
        · have e2 : decide ((57 : Int) < (c.toNat : Int)) = false := by rw [decide_eq_false_iff_not]; omega
          have HG2 : Hid (((s.data.toList.take (k + 1)).all fun c => decide (48 ≤ c.toNat ∧ c.toNat ≤ 57)) = true) := by
            show _ = _
            rw [htk, List.all_append, HG.out]
            simp
            omega
          clear hmem htk hlo hhi
          go_wp2_with fail
          go_roundw
          case rel => exact ⟨k + 1, by omega, by go_num, HG2, trivial⟩
          case measure => simp [intOf]; omega
    · have d1 : decide ((k : Int) < (s.size : Int)) = false := by rw [decide_eq_false_iff_not]; omega
      have hg := HG.out
      rw [List.take_of_length_le (by rw [len_data]; omega)] at hg
      by_cases h0 : s.size = 0
      · have hl : s.data.toList = [] := List.eq_nil_of_length_eq_zero (by rw [len_data]; exact h0)
        have HV := Lib.hid (show isDecL s.data.toList = false by rw [hl]; rfl)
        have t0 : s.toList.isEmpty = true := by rw [ByteArray.toList_eq, hl]; rfl
        clear hl hg h0
        go_wp2_with fail
        go_ret
        exact ⟨by rw [HV.out]; rfl, HX2.out⟩
      · obtain ⟨l, hl⟩ := first_byte s (by omega)
        have t0 : s.toList.isEmpty = false := by rw [ByteArray.toList_eq, hl]; rfl
        have hb0 : 0 < s.size := by omega
        have hb0' : (0 : Int) < (s.size : Int) := by omega
        have hll := len_data s
        rw [hl, List.length_cons] at hll
        have hdec : isDecL s.data.toList = (match s.data.toList with | [] => false | [_] => true | c :: _ :: _ => decide (c ≠ 48)) := by unfold isDecL; rw [hg, Bool.true_and]
        rw [hl] at hdec
        by_cases h1 : s.size = 1
        · have t1 : ((s.size : Int) == 1) = true := by rw [beq_iff_eq]; omega
          have hln : l = [] := List.eq_nil_of_length_eq_zero (by omega)
          have HV := Lib.hid (show isDecL s.data.toList = true by rw [hl, hdec, hln])
          clear hl hg h0 hdec hln h1 hll
          go_wp2_with fail
          go_ret
          exact ⟨by rw [HV.out]; rfl, HX2.out⟩
        · have t1 : ((s.size : Int) == 1) = false := by rw [beq_eq_false_iff_ne]; omega
          have hdec2 : isDecL s.data.toList = decide (s[0] ≠ 48) := by
            rw [hl, hdec]
            cases l with
            | nil => simp at hll; omega
            | cons d l => rfl
          have t2 : (((s[0]).toNat : Int) != 48) = decide (s[0] ≠ 48) := by
            rw [Bool.eq_iff_iff, bne_iff_ne, decide_eq_true_iff]
            constructor
            · intro h e; rw [e] at h; exact h rfl
            · intro h e; exact h (UInt8.toNat_inj.1 (by rw [show (48 : UInt8).toNat = 48 from rfl]; omega))
          generalize decide (s[0] ≠ 48) = v at *
          have HV := Lib.hid hdec2
          clear hl hg h0 hdec hdec2 h1 hll
          go_wp2_with fail
          go_ret
          exact ⟨by rw [HV.out]; rfl, HX2.out⟩
def undecV (most : Int) (l : List UInt8) : Value := if isDecL l then bndV10 most l else .tuple #[.int .i64 0, .int .i64 3]
theorem bnd10_two (most : Int) (l : List UInt8) : ∃ a b, bndV10 most l = .tuple #[.int .i64 a, .int .i64 b] := by
  unfold bndV10
  split
  · split
    · exact ⟨_, _, rfl⟩
    · exact ⟨_, _, rfl⟩
  · exact ⟨_, _, rfl⟩
theorem bnd16_two (most : Int) (l : List UInt8) : ∃ a b, bndV16 most l = .tuple #[.int .i64 a, .int .i64 b] := by
  unfold bndV16
  split
  · split
    · exact ⟨_, _, rfl⟩
    · exact ⟨_, _, rfl⟩
  · exact ⟨_, _, rfl⟩
set_option maxHeartbeats 2000000 in
theorem undec_any (s : ByteArray) (most : Int) (w : World) (hs : s.size ≤ 274877906944) : Calls Tryd.prog 8 #[.string s, .int .i64 most] w fun e w' => e = .returned (undecV most s.data.toList) ∧ Reg.Ext w w' := by
  go_enter Tryd.func8, Tryd.ntmps8
  go_wp2_with fail
  refine (isdec_any s w hs).mono ?_
  rintro e w1 ⟨rfl, x1⟩
  have X1 := Lib.hid x1
  clear x1
  cases hd : isDecL s.data.toList with
  | false =>
    have HV := Lib.hid (show undecV most s.data.toList = .tuple #[.int .i64 0, .int .i64 3] by unfold undecV; rw [hd]; rfl)
    clear hd
    go_wp2_with fail
    go_ret2
    exact ⟨by rw [HV.out]; rfl, X1.out⟩
  | true =>
    obtain ⟨a, b, hab⟩ := bnd10_two most s.data.toList
    have HV := Lib.hid (show undecV most s.data.toList = .tuple #[.int .i64 a, .int .i64 b] by unfold undecV; rw [hd, ← hab]; rfl)
    have HAB := Lib.hid hab
    clear hd hab
    go_wp2_with fail
    refine (bounded10 s most w1 hs).mono ?_
    rintro e w2 ⟨rfl, x2⟩
    rw [HAB.out]
    have X2 := Lib.hid (X1.out.trans x2)
    clear x2
    go_wp2_with fail
    go_ret2
    exact ⟨by rw [HV.out]; rfl, X2.out⟩
def numOk (l : List UInt8) : Bool := decide (1 ≤ l.length ∧ l.length ≤ 16) && (l.all fun c => (valR c).isSome)
def unnumV (most : Int) (l : List UInt8) : Value := if numOk l then bndV16 most l else .tuple #[.int .i64 0, .int .i64 3]
set_option maxHeartbeats 2000000 in
theorem unnum_any (s : ByteArray) (most : Int) (w : World) (hs : s.size ≤ 274877906944) : Calls Tryd.prog 10 #[.string s, .int .i64 most] w fun e w' => e = .returned (unnumV most s.data.toList) ∧ Reg.Ext w w' := by
  go_enter Tryd.func10, Tryd.ntmps10
  by_cases h0 : s.size = 0
  · have hl : s.data.toList = [] := List.eq_nil_of_length_eq_zero (by rw [len_data]; exact h0)
    have HV := Lib.hid (show unnumV most s.data.toList = .tuple #[.int .i64 0, .int .i64 3] by rw [hl]; rfl)
    have t0 : s.toList.isEmpty = true := by rw [ByteArray.toList_eq, hl]; rfl
    clear hl h0
    go_wp2_with fail
    go_ret2
    exact ⟨by rw [HV.out]; rfl, Reg.Ext.refl w⟩
  · have t0 : s.toList.isEmpty = false := by
      rw [ByteArray.toList_eq]
      cases hq : s.data.toList with
      | nil => have := len_data s; rw [hq] at this; simp at this; omega
      | cons _ _ => rfl
    by_cases h16 : 16 < s.size
    · have d1 : decide ((16 : Int) < (s.size : Int)) = true := by rw [decide_eq_true_iff]; omega
      have HV := Lib.hid (show unnumV most s.data.toList = .tuple #[.int .i64 0, .int .i64 3] by
        unfold unnumV numOk
        rw [len_data, decide_eq_false (by omega)]
        rfl)
      clear h0 h16
      go_wp2_with fail
      go_ret2
      exact ⟨by rw [HV.out]; rfl, Reg.Ext.refl w⟩
    · have d1 : decide ((16 : Int) < (s.size : Int)) = false := by rw [decide_eq_false_iff_not]; omega
      have hok : numOk s.data.toList = (s.data.toList.all fun c => (valR c).isSome) := by
        unfold numOk
        rw [len_data, decide_eq_true (by omega), Bool.true_and]
      have HOK := Lib.hid hok
      obtain ⟨cap, w2, hcv, hby, hx2⟩ := BytesAt.of s w
      have HBY := Lib.hid hby
      have HX2 := Lib.hid hx2
      clear hby hx2 h0 h16 hok
      go_wp2_with fail
      clear hcv
      go_loopw [7, 8, 9, 20] (fun _ _ _ i wr => ∃ k : Nat, k ≤ s.size ∧ i = .int .i64 k ∧ Hid (((s.data.toList.take k).all fun c => (valR c).isSome) = true) ∧ w2 = wr) (fun _ _ _ i _ => s.size - (intOf i).toNat)
      case atStart => exact ⟨0, Nat.zero_le _, rfl, rfl, rfl⟩
      case round =>
        obtain ⟨k, hk, rfl, HG, rfl⟩ := hrel
        by_cases hks : k < s.size
        · have cb := HBY.out.cell k hks
          have d2 : decide ((k : Int) < (s.size : Int)) = true := by rw [decide_eq_true_iff]; omega
          have hkl : k < s.data.toList.length := by rw [len_data]; exact hks
          have hmem : (s.data.toList[k]'hkl) ∈ s.data.toList := List.getElem_mem hkl
          have htk : s.data.toList.take (k + 1) = s.data.toList.take k ++ [s.data.toList[k]'hkl] := List.take_succ_eq_append_getElem hkl
          generalize (s.data.toList[k]'hkl) = c at *
          have hc := c.toNat_lt
          cases hv : valR c with
          | none =>
            have H2 := Lib.hid (show digitV c = .tuple #[.int .i64 0, .bool false] by unfold digitV; rw [hv])
            have HV := Lib.hid (show unnumV most s.data.toList = .tuple #[.int .i64 0, .int .i64 3] by
              unfold unnumV
              rw [HOK.out, show (s.data.toList.all fun c => (valR c).isSome) = false from List.all_eq_false.2 ⟨c, hmem, by simp [hv]⟩]
              rfl)
            clear hmem htk hv
            go_wp2_with fail
            refine (digit_any c _).mono ?_
            rintro e w' ⟨rfl, rfl⟩
            rw [H2.out]
            go_wp2_with fail
            go_ret2
            exact ⟨by rw [HV.out]; rfl, HX2.out⟩
          | some n =>
            have H2 := Lib.hid (show digitV c = .tuple #[.int .i64 (n : Int), .bool true] by unfold digitV; rw [hv])
            have HG2 : Hid (((s.data.toList.take (k + 1)).all fun c => (valR c).isSome) = true) := by
              show _ = _
              rw [htk, List.all_append, HG.out]
              simp [hv]
            clear hmem htk hv
            go_wp2_with fail
            refine (digit_any c _).mono ?_
            rintro e w' ⟨rfl, rfl⟩
            rw [H2.out]
            go_wp2_with fail
            go_roundw
            case rel => exact ⟨k + 1, by omega, by go_num, HG2, trivial⟩
            case measure => simp [intOf]; omega
        · have d2 : decide ((k : Int) < (s.size : Int)) = false := by rw [decide_eq_false_iff_not]; omega
          have hg := HG.out
          rw [List.take_of_length_le (by rw [len_data]; omega)] at hg
          obtain ⟨a, b, hab⟩ := bnd16_two most s.data.toList
          have HV := Lib.hid (show unnumV most s.data.toList = .tuple #[.int .i64 a, .int .i64 b] by unfold unnumV; rw [HOK.out, hg, ← hab]; rfl)
          have HAB := Lib.hid hab
          clear hg hab
          go_wp2_with fail
          refine (bounded16 s most _ hs).mono ?_
          rintro e w3 ⟨rfl, x3⟩
          rw [HAB.out]
          have X3 := Lib.hid (HX2.out.trans x3)
          clear x3
          go_wp2_with fail
          go_ret2
          exact ⟨by rw [HV.out]; rfl, X3.out⟩
/-! ### Dec -/
theorem ext_grow (w : World) (k : Nat) (os : Array Obj) : Reg.Ext w (Go.Sort.grow (w.drewN k) os) := by
  refine ⟨rfl, rfl, rfl, ?_, fun i hi => ?_⟩
  · show w.heap.size ≤ (w.heap ++ os).size
    rw [Array.size_append]; omega
  · show (w.heap ++ os)[i]? = w.heap[i]?
    rw [Array.getElem?_append_left hi]
def Tab10 (w : World) : Prop := Lib.TabIs Tryd.prog w "internal/strconv.uint64pow10" .u64 Lib.pow10Tab
theorem dec_any (n : Int) (w : World) (h0 : -9223372036854775808 ≤ n) (h1 : n ≤ 9223372036854775807) (ht : Tab10 w) : Calls Tryd.prog 12 #[.int .i64 n] w fun e w' => e = .returned (.string ⟨(Lib.itoa n).toArray⟩) ∧ Reg.Ext w w' := by
  have HT := Lib.hid ht
  clear ht
  go_enter Tryd.func12, Tryd.ntmps12
  go_wp2_with fail
  refine (Go.Proofs.Tryd.strconv_Itoa n h0 h1 w HT.out).mono ?_
  rintro e w1 ⟨rfl, k, os, rfl⟩
  have X1 := Lib.hid (ext_grow w k os)
  generalize Go.Sort.grow (w.drewN k) os = w2 at *
  go_wp2_with fail
  go_ret
  exact ⟨rfl, X1.out⟩
end Hex
end Go.Proofs.YthnkllnfdnbckaaDoor

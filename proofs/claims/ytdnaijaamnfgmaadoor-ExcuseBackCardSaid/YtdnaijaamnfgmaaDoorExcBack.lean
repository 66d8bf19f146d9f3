/- ExcuseBack: the walk. -/
import Derived.Test.YtdnaijaamnfgmaaDoorExcAwake
set_option linter.unusedSimpArgs false
set_option linter.unusedVariables false
set_option linter.unusedSectionVars false
namespace Go.Proofs.YtdnaijaamnfgmaaDoor
open Go.RowKit
namespace Exc
open ExcP HexP
theorem quote_beq (a b : List UInt8) : (quote a == quote b) = (a == b) := by
  rw [Bool.eq_iff_iff, beq_iff_eq, beq_iff_eq]
  exact ⟨quote_inj, fun h => by rw [h]⟩
theorem body_beq (a b : List UInt8) : (bodyL a b == bodyL b a) = (a == b) := by
  rw [Bool.eq_iff_iff, beq_iff_eq, beq_iff_eq]
  exact ⟨fun h => (body_inj h).1, fun h => by rw [h]⟩
/-- what is said of a text that is read -/
theorem unq_or (s : List UInt8) : (∃ T : ByteArray, unqV s = .tuple #[.string T, .int .i64 0] ∧ quote T.data.toList = s ∧ T.size ≤ s.length) ∨ unqV s = .tuple #[.string ⟨#[]⟩, .int .i64 3] := by
  unfold unqV
  cases h : unquoteP s with
  | none => exact .inr rfl
  | some t =>
    have := unquote_spec h
    refine .inl ⟨⟨t.toArray⟩, rfl, this.symm, ?_⟩
    rw [siz, this]
    have : ∀ t : List UInt8, t.length ≤ (enc t).length := by
      intro t
      induction t with
      | nil => simp
      | cons c t ih =>
        rw [enc_cons, List.length_append, List.length_cons]
        have : 1 ≤ (enc1 c).length := by unfold enc1; split; simp; split <;> simp
        omega
    have := this t
    unfold quote
    simp; omega
theorem of_or (s : List UInt8) : (∃ X Y : ByteArray, ofV s = .tuple #[.string X, .string Y, .int .i64 0] ∧ bodyL X.data.toList Y.data.toList = s) ∨ ofV s = .tuple #[.string ⟨#[]⟩, .string ⟨#[]⟩, .int .i64 3] := by
  unfold ofV
  cases h : ofP s with
  | none => exact .inr rfl
  | some p => exact .inl ⟨⟨p.1.toArray⟩, ⟨p.2.toArray⟩, rfl, (of_spec h).symm⟩
theorem enc_ge (t : List UInt8) : t.length ≤ (enc t).length := by
  induction t with
  | nil => simp
  | cons c t ih =>
    rw [enc_cons, List.length_append, List.length_cons]
    have : 1 ≤ (enc1 c).length := by unfold enc1; split; simp; split <;> simp
    omega
theorem quote_ge (t : List UInt8) : t.length ≤ (quote t).length := by unfold quote; have := enc_ge t; simp; omega
theorem body_ge (a b : List UInt8) : a.length ≤ (bodyL a b).length ∧ b.length ≤ (bodyL a b).length := by
  rw [body_len]
  have := quote_ge a
  have := quote_ge b
  exact ⟨by omega, by omega⟩
/-- Quote and Body, their answers behind a name -/
theorem quote_nm (a : ByteArray) (h : a.size ≤ 1048576) : ∃ Q : ByteArray, Q.data.toList = quote a.data.toList ∧ Q.size ≤ 7000000 ∧ ∀ w, Calls Tryd.prog 13 #[.string a] w fun e w' => e = .returned (.string Q) ∧ Reg.Ext w w' := by
  refine ⟨⟨(quote a.data.toList).toArray⟩, lst _, ?_, fun w => quote_any a w (by omega)⟩
  rw [siz]
  have := quote_len a.data.toList
  rw [len_data] at this
  omega
theorem body_nm (a b : ByteArray) (h : a.size ≤ 1048576) (h2 : b.size ≤ 1048576) : ∃ Q : ByteArray, Q.data.toList = bodyL a.data.toList b.data.toList ∧ Q.size ≤ 14000000 ∧ ∀ w, Calls Tryd.prog 15 #[.string a, .string b] w fun e w' => e = .returned (.string Q) ∧ Reg.Ext w w' := by
  refine ⟨⟨(bodyL a.data.toList b.data.toList).toArray⟩, lst _, ?_, fun w => body_any a b w (by omega) (by omega)⟩
  rw [siz]
  have := bodyL_len a.data.toList b.data.toList
  rw [len_data, len_data] at this
  omega
theorem e00 : ((⟨#[]⟩ : ByteArray) ++ ⟨#[]⟩).toList.isEmpty = true := by rw [ByteArray.toList_eq]; simp
set_option maxRecDepth 100000 in
set_option maxHeartbeats 8000000 in
theorem back_law (a b s : ByteArray) (w : World) (ha : a.size ≤ maxLen) (hb : b.size ≤ maxLen) (hs : s.size ≤ maxLen) (ht : Hex.Tab10 w) :
    Calls Tryd.prog 4 #[.string a, .string b, .string s] w fun e w' => e = .returned (.bool true) ∧ Reg.Ext w w' := by
  unfold maxLen at ha hb hs
  go_enter Tryd.func4, Tryd.ntmps4
  go_wp2_with fail
  refine (awake_any w ht).mono ?_
  rintro e w1 ⟨rfl, x1⟩
  have Y1 := Lib.hid x1
  clear x1 ht
  by_cases hal : 1024 < a.size
  · have da : decide ((1024 : Int) < (a.size : Int)) = true := by rw [decide_eq_true_iff]; omega
    go_wp2_with fail
    go_ret
    exact ⟨rfl, Y1.out⟩
  have d1 : decide ((1024 : Int) < (a.size : Int)) = false := by rw [decide_eq_false_iff_not]; omega
  by_cases hbl : 1024 < b.size
  · have db : decide ((1024 : Int) < (b.size : Int)) = true := by rw [decide_eq_true_iff]; omega
    go_wp2_with fail
    go_ret
    exact ⟨rfl, Y1.out⟩
  have d2 : decide ((1024 : Int) < (b.size : Int)) = false := by rw [decide_eq_false_iff_not]; omega
  by_cases hsl : 1024 < s.size
  · have ds : decide ((1024 : Int) < (s.size : Int)) = true := by rw [decide_eq_true_iff]; omega
    go_wp2_with fail
    go_ret
    exact ⟨rfl, Y1.out⟩
  have d3 : decide ((1024 : Int) < (s.size : Int)) = false := by rw [decide_eq_false_iff_not]; omega
  obtain ⟨Q, hQ, hQs, hcQ⟩ := quote_nm a (by omega)
  obtain ⟨Qb, hQb, hQbs, hcQb⟩ := quote_nm b (by omega)
  obtain ⟨AB, hAB, hABs, hcAB⟩ := body_nm a b (by omega) (by omega)
  obtain ⟨BA, hBA, hBAs, hcBA⟩ := body_nm b a (by omega) (by omega)
  have hqq : (Q.toList == Qb.toList) = (a.toList == b.toList) := by
    rw [ByteArray.toList_eq, ByteArray.toList_eq, ByteArray.toList_eq, ByteArray.toList_eq, hQ, hQb, quote_beq]
  have hbb : (AB.toList == BA.toList) = (a.toList == b.toList) := by
    rw [ByteArray.toList_eq, ByteArray.toList_eq, ByteArray.toList_eq, ByteArray.toList_eq, hAB, hBA, body_beq]
  have hasc : ∀ i (h : i < Q.size), 32 ≤ (Q[i]).toNat ∧ (Q[i]).toNat ≤ 126 := fun i h => quote_ascii a.data.toList Q[i] (by
    rw [← hQ]; exact List.getElem_mem (l := Q.data.toList) (by rw [len_data]; exact h))
  have CQ := Lib.hid hcQ
  have CQb := Lib.hid hcQb
  have CAB := Lib.hid hcAB
  have CBA := Lib.hid hcBA
  have HAS := Lib.hid hasc
  have hu : unqV Q.data.toList = .tuple #[.string a, .int .i64 0] := by rw [hQ]; unfold unqV; rw [unquote_quote]
  have ho : ofV AB.data.toList = .tuple #[.string a, .string b, .int .i64 0] := by rw [hAB]; unfold ofV; rw [of_body]
  have HU := Lib.hid hu
  have HO := Lib.hid ho
  clear hcQ hcQb hcAB hcBA hasc hQ hQb hAB hBA hu ho
  go_wp2_with fail
  refine (CQ.out w1).mono ?_
  rintro e w2 ⟨rfl, x2⟩
  have Y2 := Lib.hid (Y1.out.trans x2)
  clear x2 Y1
  go_wp2_with fail
  refine (unquote_any Q w2 (by omega)).mono ?_
  rintro e w3 ⟨rfl, x3⟩
  have Y3 := Lib.hid (Y2.out.trans x3)
  clear x3 Y2
  rw [HU.out]
  go_wp2_with fail
  refine (CAB.out w3).mono ?_
  rintro e w4 ⟨rfl, x4⟩
  have Y4 := Lib.hid (Y3.out.trans x4)
  clear x4 Y3
  go_wp2_with fail
  refine (of_any AB w4 (by omega)).mono ?_
  rintro e w5 ⟨rfl, x5⟩
  have Y5 := Lib.hid (Y4.out.trans x5)
  clear x5 Y4
  rw [HO.out]
  go_wp2_with fail
  refine (CQb.out w5).mono ?_
  rintro e w6 ⟨rfl, x6⟩
  have Y6 := Lib.hid (Y5.out.trans x6)
  clear x6 Y5
  go_wp2_with fail
  refine (CAB.out w6).mono ?_
  rintro e w7 ⟨rfl, x7⟩
  have Y7 := Lib.hid (Y6.out.trans x7)
  clear x7 Y6
  go_wp2_with fail
  refine (CBA.out w7).mono ?_
  rintro e w8 ⟨rfl, x8⟩
  have Y8 := Lib.hid (Y7.out.trans x8)
  clear x8 Y7
  go_wp2_with fail
  go_loop [13] (fun i => ∃ k : Nat, k ≤ Q.size ∧ i = .int .i64 k) (fun i => Q.size - (intOf i).toNat)
  case atStart => exact ⟨0, Nat.zero_le _, rfl⟩
  case round =>
    obtain ⟨k, hk, rfl⟩ := hrel
    by_cases hks : k < Q.size
    · obtain ⟨l1, l2⟩ := HAS.out k hks
      have e1 : decide ((Q[k].toNat : Int) < 32) = false := by rw [decide_eq_false_iff_not]; omega
      have e2 : decide ((126 : Int) < (Q[k].toNat : Int)) = false := by rw [decide_eq_false_iff_not]; omega
      clear l1 l2
      go_wp2_with fail
      go_round
      case rel => exact ⟨k + 1, by omega, by go_num⟩
      case measure => simp [intOf]; omega
    · go_wp2_with fail
      refine (unquote_any s w8 (by omega)).mono ?_
      rintro e w9 ⟨rfl, x9⟩
      have Y9 := Lib.hid (Y8.out.trans x9)
      clear x9
      rcases unq_or s.data.toList with ⟨T, hT, hTq, hTs⟩ | hT
      · rw [hT]
        rw [len_data] at hTs
        obtain ⟨QT, hQT, hQTs, hcQT⟩ := quote_nm T (by omega)
        have t1 : (QT.toList == s.toList) = true := by rw [ByteArray.toList_eq, ByteArray.toList_eq, hQT, hTq]; simp
        have CQT := Lib.hid hcQT
        clear hT hTq hcQT hQT
        go_wp2_with fail
        refine (of_any s w9 (by omega)).mono ?_
        rintro e w10 ⟨rfl, x10⟩
        have Y10 := Lib.hid (Y9.out.trans x10)
        clear x10
        rcases of_or s.data.toList with ⟨X, Y, hX, hXY⟩ | hX
        · rw [hX]
          have hge := body_ge X.data.toList Y.data.toList
          rw [hXY, len_data, len_data, len_data] at hge
          obtain ⟨BT, hBT, hBTs, hcBT⟩ := body_nm X Y (by omega) (by omega)
          have t2 : (BT.toList == s.toList) = true := by rw [ByteArray.toList_eq, ByteArray.toList_eq, hBT, hXY]; simp
          have CBT := Lib.hid hcBT
          clear hX hXY hcBT hBT
          go_wp2_with fail
          refine (CQT.out w10).mono ?_
          rintro e w11 ⟨rfl, x11⟩
          have Y11 := Lib.hid (Y10.out.trans x11)
          clear x11
          go_wp2_with fail
          refine (CBT.out w11).mono ?_
          rintro e w12 ⟨rfl, x12⟩
          have Y12 := Lib.hid (Y11.out.trans x12)
          clear x12
          go_wp2_with fail
          go_ret
          exact ⟨rfl, Y12.out⟩
        · rw [hX]
          clear hX
          go_wp2_with fail
          refine (CQT.out w10).mono ?_
          rintro e w11 ⟨rfl, x11⟩
          have Y11 := Lib.hid (Y10.out.trans x11)
          clear x11
          go_wp2_with fail
          go_ret
          exact ⟨ret_bool e00, Y11.out⟩
      · rw [hT]
        clear hT
        go_wp2_with fail
        refine (of_any s w9 (by omega)).mono ?_
        rintro e w10 ⟨rfl, x10⟩
        have Y10 := Lib.hid (Y9.out.trans x10)
        clear x10
        rcases of_or s.data.toList with ⟨X, Y, hX, hXY⟩ | hX
        · rw [hX]
          have hge := body_ge X.data.toList Y.data.toList
          rw [hXY, len_data, len_data, len_data] at hge
          obtain ⟨BT, hBT, hBTs, hcBT⟩ := body_nm X Y (by omega) (by omega)
          have t2 : (BT.toList == s.toList) = true := by rw [ByteArray.toList_eq, ByteArray.toList_eq, hBT, hXY]; simp
          have CBT := Lib.hid hcBT
          clear hX hXY hcBT hBT
          go_wp2_with fail
          refine (CBT.out w10).mono ?_
          rintro e w12 ⟨rfl, x12⟩
          have Y12 := Lib.hid (Y10.out.trans x12)
          clear x12
          go_wp2_with fail
          go_ret
          exact ⟨rfl, Y12.out⟩
        · rw [hX]
          clear hX
          go_wp2_with fail
          go_ret
          exact ⟨ret_bool e00, Y10.out⟩
end Exc
end Go.Proofs.YtdnaijaamnfgmaaDoor

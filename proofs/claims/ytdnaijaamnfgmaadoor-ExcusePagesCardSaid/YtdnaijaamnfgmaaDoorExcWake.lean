/- The document's Of; Same; awake. -/
import Derived.Test.YtdnaijaamnfgmaaDoorExcPage
set_option linter.unusedSimpArgs false
set_option linter.unusedVariables false
set_option linter.unusedSectionVars false
namespace Go.Proofs.YtdnaijaamnfgmaaDoor
open Go.RowKit
namespace Exc
open ExcP HexP
theorem readR_quote (a r : List UInt8) : readR (quote a ++ r) = (a, (quote a).length) := by
  unfold readR
  rw [readP_quote]
  simp
theorem readR_body1 (a b : List UInt8) : readR ((bodyL a b).drop 19) = (a, (quote a).length) := by
  have : (bodyL a b).drop 19 = quote a ++ (middleL ++ (quote b ++ lastL)) := rfl
  rw [this, readR_quote]
theorem readR_body2 (a b : List UInt8) : readR ((bodyL a b).drop (19 + (quote a).length + 11)) = (b, (quote b).length) := by
  have : (bodyL a b).drop (19 + (quote a).length + 11) = quote b ++ lastL := by
    rw [Nat.add_assoc, ← List.drop_drop, show (bodyL a b).drop 19 = quote a ++ (middleL ++ (quote b ++ lastL)) from rfl, ← List.drop_drop, List.drop_left]
    rfl
  rw [this, readR_quote]
theorem body_len (a b : List UInt8) : (bodyL a b).length = 19 + (quote a).length + 11 + (quote b).length + 4 := by
  unfold bodyL
  simp only [List.length_append]
  have h1 : firstL.length = 19 := rfl
  have h2 : middleL.length = 11 := rfl
  have h3 : lastL.length = 4 := rfl
  omega
theorem ofP_none {s : List UInt8} (h : ∀ a b, s ≠ bodyL a b) : ofP s = none := by
  cases ho : ofP s with
  | none => rfl
  | some p => exact absurd (of_spec ho) (h p.1 p.2)
theorem readR_le (l : List UInt8) : (readR l).2 ≤ l.length := by
  unfold readR
  cases readP l with
  | none => exact Nat.zero_le _
  | some p => simp
theorem readR_le1 (l : List UInt8) : (readR l).1.length ≤ l.length := by
  have := (readT_le l).2
  unfold readT at this
  unfold readR
  cases h : readP l with
  | none => exact Nat.zero_le _
  | some p => rw [h] at this; exact this
theorem quote_pos (a : List UInt8) : 2 ≤ (quote a).length := by unfold quote; simp
set_option maxRecDepth 100000 in
set_option maxHeartbeats 4000000 in
theorem ofR_any (s : ByteArray) (w : World) (hs : s.size ≤ 1073741824) :
    Calls Tryd.prog 10 #[.string s] w fun e w' => e = .returned (ofV s.data.toList) ∧ Reg.Ext w w' := by
  have HNO : Hid (ofP s.data.toList = none → ofV s.data.toList = .tuple #[.string ⟨#[]⟩, .string ⟨#[]⟩, .int .i64 3]) := fun h => by unfold ofV; rw [h]
  have HSP : Hid (∀ a b, s.data.toList = bodyL a b → s.size = 19 + (quote a).length + 11 + (quote b).length + 4 ∧ readR (s.data.toList.drop 19) = (a, (quote a).length) ∧ readR (s.data.toList.drop (19 + (quote a).length + 11)) = (b, (quote b).length)) := fun a b h => by
    rw [h, ← len_data, h]
    exact ⟨body_len a b, readR_body1 a b, readR_body2 a b⟩
  go_enter Tryd.func10, Tryd.ntmps10
  by_cases h19 : s.size < 19
  · have hno : ofP s.data.toList = none := ofP_none fun a b h => by have := (HSP.out a b h).1; omega
    have HV := Lib.hid (HNO.out hno)
    have d1 : decide ((s.size : Int) < 19) = true := by rw [decide_eq_true_iff]; omega
    clear hno
    go_wp2_with fail
    go_ret3
    exact ⟨by rw [HV.out]; rfl, Reg.Ext.refl _⟩
  have d1 : decide ((s.size : Int) < 19) = false := by rw [decide_eq_false_iff_not]; omega
  have hx1 : (s.extract 19 s.size).data.toList = s.data.toList.drop 19 := ext_from s 19
  have hxs : (s.extract 19 s.size).size ≤ 1073741824 := ext_le _ _ _ hs
  have hxz : (s.extract 19 s.size).size = s.size - 19 := by rw [ByteArray.size_extract]; omega
  go_wp2_with fail
  refine (readR_any (s.extract 19 s.size) w (by omega)).mono ?_
  rintro e w1 ⟨rfl, x1⟩
  have HX1 := Lib.hid x1
  clear x1
  have hle := readR_le (s.extract 19 s.size).data.toList
  have hle1 := readR_le1 (s.extract 19 s.size).data.toList
  rw [len_data, hxz] at hle hle1
  unfold readRV
  rw [hx1] at hle hle1 ⊢
  clear hx1 hxs hxz
  obtain ⟨C, hC⟩ : ∃ C : ByteArray, C = ⟨(readR (s.data.toList.drop 19)).1.toArray⟩ := ⟨_, rfl⟩
  have hCl : C.data.toList = (readR (s.data.toList.drop 19)).1 := by rw [hC]
  have hCs : C.size ≤ 1073741824 := by rw [← len_data, hCl]; omega
  rw [← hC]
  have HC := Lib.hid hCl
  clear hC hCl hle1
  generalize hn : (readR (s.data.toList.drop 19)).2 = n at *
  have HN := Lib.hid hn
  clear hn
  by_cases hn0 : n = 0
  · have hno : ofP s.data.toList = none := ofP_none fun a b h => by
      have h1 := (HSP.out a b h).2.1
      have h2 := HN.out
      rw [h1] at h2
      have := quote_pos a
      simp only at h2
      omega
    have HV := Lib.hid (HNO.out hno)
    subst hn0
    clear hno
    go_wp2_with fail
    go_ret3
    exact ⟨by rw [HV.out]; rfl, HX1.out⟩
  have d2 : ((n : Int) == 0) = false := by rw [beq_eq_false_iff_ne]; omega
  by_cases hk : s.size < 19 + n + 11
  · have hno : ofP s.data.toList = none := ofP_none fun a b h => by
      obtain ⟨h0, h1, _⟩ := HSP.out a b h
      have h2 := HN.out
      rw [h1] at h2
      simp only at h2
      omega
    have HV := Lib.hid (HNO.out hno)
    have d3 : decide ((s.size : Int) - (19 + (n : Int)) < 11) = true := by rw [decide_eq_true_iff]; omega
    clear hno
    go_wp2_with fail
    go_ret3
    exact ⟨by rw [HV.out]; rfl, HX1.out⟩
  have d3 : decide ((s.size : Int) - (19 + (n : Int)) < 11) = false := by rw [decide_eq_false_iff_not]; omega
  have hx2 : (s.extract (19 + n + 11) s.size).data.toList = s.data.toList.drop (19 + n + 11) := ext_from s _
  have hxs : (s.extract (19 + n + 11) s.size).size ≤ 1073741824 := ext_le _ _ _ hs
  go_wp2_with fail
  refine (readR_any (s.extract (19 + n + 11) s.size) w1 (by omega)).mono ?_
  rintro e w2 ⟨rfl, x2⟩
  have HX2 := Lib.hid (HX1.out.trans x2)
  clear x2
  have hle1 := readR_le1 (s.extract (19 + n + 11) s.size).data.toList
  rw [len_data] at hle1
  unfold readRV
  rw [hx2] at hle1 ⊢
  obtain ⟨M, hM⟩ : ∃ M : ByteArray, M = ⟨(readR (s.data.toList.drop (19 + n + 11))).1.toArray⟩ := ⟨_, rfl⟩
  have hMl : M.data.toList = (readR (s.data.toList.drop (19 + n + 11))).1 := by rw [hM]
  have hMs : M.size ≤ 1073741824 := by rw [← len_data, hMl]; omega
  rw [← hM]
  have HM := Lib.hid hMl
  clear hM hMl hle1 hx2 hxs
  generalize (readR (s.data.toList.drop (19 + n + 11))).2 = n2 at *
  go_wp2_with fail
  refine (bodyR_any C M w2 (by omega) (by omega)).mono ?_
  rintro e w3 ⟨rfl, x3⟩
  have HX3 := Lib.hid (HX2.out.trans x3)
  clear x3
  obtain ⟨B, hB⟩ : ∃ B : ByteArray, B = ⟨(bodyL C.data.toList M.data.toList).toArray⟩ := ⟨_, rfl⟩
  have hBl : B.data.toList = bodyL C.data.toList M.data.toList := by rw [hB]
  rw [← hB]
  have te : (B.toList == s.toList) = decide (bodyL C.data.toList M.data.toList = s.data.toList) := by
    rw [ByteArray.toList_eq, ByteArray.toList_eq, hBl, Bool.eq_iff_iff, beq_iff_eq, decide_eq_true_iff]
  have HBl := Lib.hid hBl
  clear hB hBl
  by_cases he : bodyL C.data.toList M.data.toList = s.data.toList
  · rw [decide_eq_true he] at te
    have HT1 : Hid ((⟨C.data.toList.toArray⟩ : ByteArray) = C) := ba_data C
    have HT2 : Hid ((⟨M.data.toList.toArray⟩ : ByteArray) = M) := ba_data M
    have HV := Lib.hid (show ofV s.data.toList = .tuple #[.string C, .string M, .int .i64 0] by
      unfold ofV
      rw [← he, of_body])
    clear he
    go_wp2_with fail
    go_ret3
    exact ⟨by rw [HV.out]; rfl, HX3.out⟩
  · rw [decide_eq_false he] at te
    have hno : ofP s.data.toList = none := ofP_none fun a b h => by
      obtain ⟨h0, h1, h2⟩ := HSP.out a b h
      have e1 := HN.out
      rw [h1] at e1
      simp only at e1
      have e2 := HC.out
      rw [h1] at e2
      have e3 := HM.out
      rw [← e1, h2] at e3
      apply he
      rw [e2, e3]
      exact h.symm
    have HV := Lib.hid (HNO.out hno)
    clear he
    clear hno
    go_wp2_with fail
    go_ret3
    exact ⟨by rw [HV.out]; rfl, HX3.out⟩
/-! ### Same, of equal lists -/
set_option maxHeartbeats 4000000 in
theorem same_eq (F : List Fld) (g1 c1 g2 c2 : Nat) (w : World) (hF : F.length ≤ 1000) (h1 : RdF w (some ⟨g1, 0, none⟩) F) (h2 : RdF w (some ⟨g2, 0, none⟩) F) :
    Calls Tryd.prog 19 #[.slice (some ⟨g1, 0, none⟩) F.length c1, .slice (some ⟨g2, 0, none⟩) F.length c2] w fun e w' => e = .returned (.bool true) ∧ Reg.Ext w w' := by
  have H1 := Lib.hid h1
  have H2 := Lib.hid h2
  clear h1 h2
  go_enter Tryd.func19, Tryd.ntmps19
  go_wp2_with fail
  go_loopw [5] (fun i wr => ∃ k : Nat, k ≤ F.length ∧ i = .int .i64 k ∧ Hid (Reg.Ext w wr)) (fun i _ => F.length - (intOf i).toNat)
  case atStart => exact ⟨0, Nat.zero_le _, rfl, Reg.Ext.refl _⟩
  case round =>
    obtain ⟨k, hk, rfl, HX⟩ := hrel
    by_cases hkn : k < F.length
    · obtain ⟨a1, ea1, _, p1, q1⟩ := (H1.out.ext HX.out).at_ k hkn
      obtain ⟨a2, ea2, _, p2, q2⟩ := (H2.out.ext HX.out).at_ k hkn
      injection ea1 with ea1
      injection ea2 with ea2
      subst ea1 ea2
      rw [add_plain, Nat.zero_add] at p1 q1 p2 q2
      go_wp2_with fail
      go_quiet (fail)
      have HX2 := Lib.hid (HX.out.trans (Reg.Ext.drewN wr nq))
      go_wp2_with fail
      go_roundw
      case rel => exact ⟨k + 1, by omega, by go_num, HX2⟩
      case measure => simp [intOf]; omega
    · go_wp2_with fail
      go_ret
      exact ⟨rfl, HX.out⟩
end Exc
end Go.Proofs.YtdnaijaamnfgmaaDoor

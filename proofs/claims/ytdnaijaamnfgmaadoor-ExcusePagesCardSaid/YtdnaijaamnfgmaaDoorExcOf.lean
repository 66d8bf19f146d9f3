/- Package excuse: Unquote, Body, Of, unknown, Code. -/
import Derived.Test.YtdnaijaamnfgmaaDoorExcBody
import Derived.Test.YtdnaijaamnfgmaaDoorExcQuote
set_option linter.unusedSimpArgs false
set_option linter.unusedVariables false
set_option linter.unusedSectionVars false
namespace Go.Proofs.YtdnaijaamnfgmaaDoor
open Go.RowKit
namespace Exc
open ExcP HexP
theorem lst (l : List UInt8) : (⟨l.toArray⟩ : ByteArray).data.toList = l := by simp
theorem siz (l : List UInt8) : (⟨l.toArray⟩ : ByteArray).size = l.length := by rw [← len_data, lst]
theorem test_lit (s : ByteArray) (l : List UInt8) : (s.toList == l) = decide (s.data.toList = l) := by
  rw [ByteArray.toList_eq, Bool.eq_iff_iff, beq_iff_eq, decide_eq_true_iff]
def unqV (l : List UInt8) : Value := match unquoteP l with
  | some t => .tuple #[.string ⟨t.toArray⟩, .int .i64 0]
  | none => .tuple #[.string ⟨#[]⟩, .int .i64 3]
set_option maxHeartbeats 2000000 in
theorem unquote_any (s : ByteArray) (w : World) (hs : s.size ≤ 274877906944) :
    Calls Tryd.prog 7 #[.string s] w fun e w' => e = .returned (unqV s.data.toList) ∧ Reg.Ext w w' := by
  go_enter Tryd.func7, Tryd.ntmps7
  go_wp2_with fail
  refine (read_any s w hs).mono ?_
  rintro e w1 ⟨rfl, x1⟩
  have HX := Lib.hid x1
  clear x1
  cases hr : readP s.data.toList with
  | none =>
    have HV := Lib.hid (show unqV s.data.toList = .tuple #[.string ⟨#[]⟩, .int .i64 3] by unfold unqV unquoteP; rw [hr])
    rw [readV_none hr]
    clear hr
    go_wp2_with fail
    go_ret2
    exact ⟨by rw [HV.out]; rfl, HX.out⟩
  | some p =>
    obtain ⟨t, q⟩ := p
    rw [readV_some hr]
    cases q with
    | nil =>
      have HV := Lib.hid (show unqV s.data.toList = .tuple #[.string ⟨t.toArray⟩, .int .i64 0] by unfold unqV unquoteP; rw [hr])
      clear hr
      go_wp2_with fail
      go_ret2
      exact ⟨by rw [HV.out]; rfl, HX.out⟩
    | cons c q =>
      have HV := Lib.hid (show unqV s.data.toList = .tuple #[.string ⟨#[]⟩, .int .i64 3] by unfold unqV unquoteP; rw [hr])
      obtain ⟨R, hR⟩ : ∃ R : ByteArray, R = ⟨(c :: q).toArray⟩ := ⟨_, rfl⟩
      obtain ⟨t0, t1⟩ := full_of R (by rw [hR, siz]; simp)
      rw [← hR]
      clear hr hR
      go_wp2_with fail
      go_ret2
      exact ⟨by rw [HV.out]; rfl, HX.out⟩
set_option maxHeartbeats 2000000 in
theorem body_any (s t : ByteArray) (w : World) (hs : s.size ≤ 17179869184) (ht : t.size ≤ 17179869184) :
    Calls Tryd.prog 15 #[.string s, .string t] w fun e w' => e = .returned (.string ⟨(bodyL s.data.toList t.data.toList).toArray⟩) ∧ Reg.Ext w w' := by
  have q1 := quote_len s.data.toList
  have q2 := quote_len t.data.toList
  rw [len_data] at q1 q2
  obtain ⟨A, hA⟩ : ∃ A : ByteArray, A = ⟨(quote s.data.toList).toArray⟩ := ⟨_, rfl⟩
  obtain ⟨B, hB⟩ : ∃ B : ByteArray, B = ⟨(quote t.data.toList).toArray⟩ := ⟨_, rfl⟩
  have hAs : A.size ≤ 103079215106 := by rw [hA, siz]; omega
  have hBs : B.size ≤ 103079215106 := by rw [hB, siz]; omega
  have HQ1 := Lib.hid (fun w1 => quote_any s w1 (by omega))
  have HQ2 := Lib.hid (fun w1 => quote_any t w1 (by omega))
  rw [← hA] at HQ1
  rw [← hB] at HQ2
  have HV := Lib.hid (show (⟨(bodyL s.data.toList t.data.toList).toArray⟩ : ByteArray) = ⟨firstL.toArray⟩ ++ A ++ ⟨middleL.toArray⟩ ++ B ++ ⟨lastL.toArray⟩ by
    rw [hA, hB]; exact ba_ext (by simp [bodyL]))
  clear hA hB q1 q2
  go_enter Tryd.func15, Tryd.ntmps15
  go_wp2_with fail
  refine (HQ1.out w).mono ?_
  rintro e w1 ⟨rfl, x1⟩
  have HX := Lib.hid x1
  clear x1 HQ1
  go_wp2_with fail
  refine (HQ2.out w1).mono ?_
  rintro e w2 ⟨rfl, x2⟩
  have HX2 := Lib.hid (HX.out.trans x2)
  clear x2 HQ2
  go_wp2_with fail
  go_ret
  exact ⟨by rw [HV.out]; rfl, HX2.out⟩
/-- strings.CutPrefix, read as lists -/
theorem cut_two (p s : ByteArray) : ∃ C : ByteArray, Pre.cutV p s = .tuple #[.string C, .bool (cutP p.data.toList s.data.toList).2] ∧ C.data.toList = (cutP p.data.toList s.data.toList).1 ∧ C.size ≤ s.size := by
  unfold Pre.cutV cutP Pre.has
  by_cases h : p.data.toList.isPrefixOf s.data.toList = true
  · refine ⟨s.extract p.size s.size, ?_, ?_, by rw [ByteArray.size_extract]; omega⟩
    · rw [if_pos h, if_pos h, h]
    · rw [if_pos h, ext_from, len_data]
  · refine ⟨s, ?_, ?_, Nat.le_refl _⟩
    · rw [if_neg h, if_neg h, Bool.eq_false_iff.2 h]
    · rw [if_neg h]
theorem readT_le (l : List UInt8) : (readT l).2.1.length ≤ l.length ∧ (readT l).1.length ≤ l.length := by
  unfold readT
  cases h : readP l with
  | none => simp
  | some p =>
    obtain ⟨t, q⟩ := p
    have := congrArg List.length (readP_spec h)
    have hq : t.length + 2 ≤ (quote t).length := by
      unfold quote
      have : ∀ t : List UInt8, t.length ≤ (enc t).length := by
        intro t
        induction t with
        | nil => simp
        | cons c t ih =>
          rw [enc_cons, List.length_append, List.length_cons]
          have : 1 ≤ (enc1 c).length := by
            unfold enc1
            split
            · simp
            · split <;> simp
          omega
      have := this t
      simp; omega
    rw [List.length_append] at this
    simp only
    omega
def ofV (l : List UInt8) : Value := match ofP l with
  | some (a, b) => .tuple #[.string ⟨a.toArray⟩, .string ⟨b.toArray⟩, .int .i64 0]
  | none => .tuple #[.string ⟨#[]⟩, .string ⟨#[]⟩, .int .i64 3]
set_option maxRecDepth 100000 in
set_option maxHeartbeats 4000000 in
theorem of_any (s : ByteArray) (w : World) (hs : s.size ≤ 17179869184) :
    Calls Tryd.prog 9 #[.string s] w fun e w' => e = .returned (ofV s.data.toList) ∧ Reg.Ext w w' := by
  go_enter Tryd.func9, Tryd.ntmps9
  go_wp2_with fail
  refine (Pre.cut_any s ⟨firstL.toArray⟩ w (by omega) (by decide)).mono ?_
  rintro e w' ⟨rfl, rfl⟩
  obtain ⟨C1, e1, hC1, hC1s⟩ := cut_two ⟨firstL.toArray⟩ s
  rw [e1]
  rw [lst] at *
  clear e1
  generalize hb1 : (cutP firstL s.data.toList).2 = b1 at *
  go_wp2_with fail
  refine (read_any C1 w (by omega)).mono ?_
  rintro e w1 ⟨rfl, x1⟩
  have HX1 := Lib.hid x1
  clear x1
  unfold readV
  obtain ⟨T1, hT1⟩ : ∃ T1 : ByteArray, T1 = ⟨(readT C1.data.toList).1.toArray⟩ := ⟨_, rfl⟩
  obtain ⟨R1, hR1⟩ : ∃ R1 : ByteArray, R1 = ⟨(readT C1.data.toList).2.1.toArray⟩ := ⟨_, rfl⟩
  have hR1s : R1.size ≤ 17179869184 := by have := (readT_le C1.data.toList).1; rw [len_data] at this; rw [hR1, siz]; omega
  have hR1l : R1.data.toList = (readT C1.data.toList).2.1 := by rw [hR1, lst]
  have hT1l : T1.data.toList = (readT C1.data.toList).1 := by rw [hT1, lst]
  rw [← hT1, ← hR1]
  clear hT1 hR1
  generalize hb2 : (readT C1.data.toList).2.2 = b2 at *
  go_wp2_with fail
  refine (Pre.cut_any R1 ⟨middleL.toArray⟩ w1 (by omega) (by decide)).mono ?_
  rintro e w' ⟨rfl, rfl⟩
  obtain ⟨C2, e2, hC2, hC2s⟩ := cut_two ⟨middleL.toArray⟩ R1
  rw [e2]
  rw [lst] at *
  clear e2
  generalize hb3 : (cutP middleL R1.data.toList).2 = b3 at *
  go_wp2_with fail
  refine (read_any C2 w1 (by omega)).mono ?_
  rintro e w2 ⟨rfl, x2⟩
  have HX2 := Lib.hid (HX1.out.trans x2)
  clear x2
  unfold readV
  obtain ⟨T2, hT2⟩ : ∃ T2 : ByteArray, T2 = ⟨(readT C2.data.toList).1.toArray⟩ := ⟨_, rfl⟩
  obtain ⟨R2, hR2⟩ : ∃ R2 : ByteArray, R2 = ⟨(readT C2.data.toList).2.1.toArray⟩ := ⟨_, rfl⟩
  have hR2s : R2.size ≤ 17179869184 := by have := (readT_le C2.data.toList).1; rw [len_data] at this; rw [hR2, siz]; omega
  have hR2l : R2.data.toList = (readT C2.data.toList).2.1 := by rw [hR2, lst]
  have hT2l : T2.data.toList = (readT C2.data.toList).1 := by rw [hT2, lst]
  rw [← hT2, ← hR2]
  clear hT2 hR2
  generalize hb4 : (readT C2.data.toList).2.2 = b4 at *
  have hO : ofP s.data.toList = if b1 = true ∧ b2 = true ∧ b3 = true ∧ b4 = true ∧ R2.data.toList = lastL then some (T1.data.toList, T2.data.toList) else none := by
    unfold ofP
    rw [hb1, ← hC1, hb2, ← hR1l, hb3, ← hC2, hb4, ← hR2l, ← hT1l, ← hT2l]
  have HT1 : Hid ((⟨T1.data.toList.toArray⟩ : ByteArray) = T1) := ba_data T1
  have HT2 : Hid ((⟨T2.data.toList.toArray⟩ : ByteArray) = T2) := ba_data T2
  have HO := Lib.hid hO
  clear hO hb1 hb2 hb3 hb4 hC1 hC2 hR1l hR2l hT1l hT2l
  cases b1 with
  | false =>
    have HV := Lib.hid (show ofV s.data.toList = .tuple #[.string ⟨#[]⟩, .string ⟨#[]⟩, .int .i64 3] by unfold ofV; rw [HO.out, if_neg (by simp)])
    go_wp2_with fail
    go_ret3
    exact ⟨by rw [HV.out]; rfl, HX2.out⟩
  | true =>
    cases b2 with
    | false =>
      have HV := Lib.hid (show ofV s.data.toList = .tuple #[.string ⟨#[]⟩, .string ⟨#[]⟩, .int .i64 3] by unfold ofV; rw [HO.out, if_neg (by simp)])
      go_wp2_with fail
      go_ret3
      exact ⟨by rw [HV.out]; rfl, HX2.out⟩
    | true =>
      cases b3 with
      | false =>
        have HV := Lib.hid (show ofV s.data.toList = .tuple #[.string ⟨#[]⟩, .string ⟨#[]⟩, .int .i64 3] by unfold ofV; rw [HO.out, if_neg (by simp)])
        go_wp2_with fail
        go_ret3
        exact ⟨by rw [HV.out]; rfl, HX2.out⟩
      | true =>
        cases b4 with
        | false =>
          have HV := Lib.hid (show ofV s.data.toList = .tuple #[.string ⟨#[]⟩, .string ⟨#[]⟩, .int .i64 3] by unfold ofV; rw [HO.out, if_neg (by simp)])
          go_wp2_with fail
          go_ret3
          exact ⟨by rw [HV.out]; rfl, HX2.out⟩
        | true =>
          have tl := test_lit R2 lastL
          by_cases hl : R2.data.toList = lastL
          · rw [decide_eq_true hl] at tl
            have HV := Lib.hid (show ofV s.data.toList = .tuple #[.string T1, .string T2, .int .i64 0] by unfold ofV; rw [HO.out, if_pos ⟨rfl, rfl, rfl, rfl, hl⟩])
            clear hl
            unfold lastL at tl
            go_wp2_with fail
            go_ret3
            exact ⟨by rw [HV.out]; rfl, HX2.out⟩
          · rw [decide_eq_false hl] at tl
            have HV := Lib.hid (show ofV s.data.toList = .tuple #[.string ⟨#[]⟩, .string ⟨#[]⟩, .int .i64 3] by unfold ofV; rw [HO.out, if_neg (fun h => hl h.2.2.2.2)])
            clear hl
            unfold lastL at tl
            go_wp2_with fail
            go_ret3
            exact ⟨by rw [HV.out]; rfl, HX2.out⟩
end Exc
end Go.Proofs.YtdnaijaamnfgmaaDoor

/- Package taste: split, IsType, near. -/
import Derived.Test.YtglnefmaphajaaaDoorFieldV
set_option linter.unusedSimpArgs false
set_option linter.unusedVariables false
set_option linter.unusedSectionVars false
namespace Go.Proofs.YtglnefmaphajaaaDoor
open Go.RowKit
namespace Tst
open Fld
def splitV (l : List UInt8) : Value := match splitT l with
  | none => .tuple #[.string ⟨#[]⟩, .string ⟨#[]⟩, .bool false]
  | some p => .tuple #[.string (bl p.1), .string (bl p.2), .bool true]
set_option maxHeartbeats 4000000 in
theorem split_any (s : ByteArray) (w : World) (hs : s.size ≤ 9223372036854775807) :
    Calls Tryd.prog 26 #[.string s] w fun e w' => e = .returned (splitV s.data.toList) ∧ Reg.Ext w w' := by
  have CL := Lib.hid (lowT_any s w hs)
  obtain ⟨X, hX⟩ : ∃ X : ByteArray, lowB s = X := ⟨_, rfl⟩
  have hXl : X.data.toList = lowL s.data.toList := by rw [← hX]; exact lowB_l s
  have hXs : X.size = s.size := by rw [← hX]; exact lowB_size s
  have CC := fun w => Lib.hid (Str.cut_any X 47 w (by omega))
  obtain ⟨A, hA⟩ : ∃ A : ByteArray, bl (Str.cut1 47 X.data.toList).1 = A := ⟨_, rfl⟩
  obtain ⟨V, hV⟩ : ∃ V : ByteArray, bl (Str.cut1 47 X.data.toList).2.1 = V := ⟨_, rfl⟩
  have hAl : (Str.cut1 47 X.data.toList).1 = A.data.toList := by rw [← hA, bl_l]
  have hVl : (Str.cut1 47 X.data.toList).2.1 = V.data.toList := by rw [← hV, bl_l]
  obtain ⟨q1, q2⟩ := cut1_le 47 X.data.toList
  rw [hAl, len_data, len_data] at q1
  rw [hVl, len_data, len_data] at q2
  have hst : splitT s.data.toList = if ((Str.cut1 47 X.data.toList).2.2 = true ∧ tokenP A.data.toList = true) ∧ tokenP V.data.toList = true ∧ s.size ≤ 100 then some (A.data.toList, V.data.toList) else none := by
    unfold splitT
    rw [← hXl, hAl, hVl, len_data]
  rw [hX] at CL
  rw [show Str.cutV 47 X.data.toList = .tuple #[.string A, .string V, .bool (Str.cut1 47 X.data.toList).2.2] by rw [← hA, ← hV]; rfl] at CC
  clear hX hXl hA hV hAl hVl
  generalize (Str.cut1 47 X.data.toList).2.2 = b at *
  have CA := fun w => Lib.hid (token_any A w (by omega))
  have CV := fun w => Lib.hid (token_any V w (by omega))
  generalize tokenP A.data.toList = ta at *
  generalize tokenP V.data.toList = tv at *
  have HS := fun (x : Value) => Lib.hid hst
  have HS := Lib.hid hst
  clear hst hXs q1 q2
  go_enter Tryd.func26, Tryd.ntmps26
  go_wp2_with fail
  refine CL.out.mono ?_
  rintro e w1 ⟨rfl, x1⟩
  have X1 := Lib.hid x1
  clear x1 CL
  go_wp2_with fail
  refine (CC w1).out.mono ?_
  rintro e w2 ⟨rfl, x2⟩
  have X2 := Lib.hid (X1.out.trans x2)
  clear x2 CC X1
  cases b with
  | false =>
    have HV := Lib.hid (show splitV s.data.toList = .tuple #[.string ⟨#[]⟩, .string ⟨#[]⟩, .bool false] by unfold splitV; rw [HS.out, if_neg (fun h => by cases h.1.1)])
    go_wp2_with fail
    go_ret3
    exact ⟨by rw [HV.out]; rfl, X2.out⟩
  | true =>
  go_wp2_with fail
  refine (CA w2).out.mono ?_
  rintro e w3 ⟨rfl, x3⟩
  have X3 := Lib.hid (X2.out.trans x3)
  clear x3 CA X2
  cases ta with
  | false =>
    have HV := Lib.hid (show splitV s.data.toList = .tuple #[.string ⟨#[]⟩, .string ⟨#[]⟩, .bool false] by unfold splitV; rw [HS.out, if_neg (fun h => by cases h.1.2)])
    go_wp2_with fail
    go_ret3
    exact ⟨by rw [HV.out]; rfl, X3.out⟩
  | true =>
  go_wp2_with fail
  refine (CV w3).out.mono ?_
  rintro e w4 ⟨rfl, x4⟩
  have X4 := Lib.hid (X3.out.trans x4)
  clear x4 CV X3
  cases tv with
  | false =>
    have HV := Lib.hid (show splitV s.data.toList = .tuple #[.string ⟨#[]⟩, .string ⟨#[]⟩, .bool false] by unfold splitV; rw [HS.out, if_neg (fun h => by cases h.2.1)])
    go_wp2_with fail
    go_ret3
    exact ⟨by rw [HV.out]; rfl, X4.out⟩
  | true =>
  by_cases hl : s.size ≤ 100
  · have d1 : decide ((100 : Int) < (s.size : Int)) = false := by rw [decide_eq_false_iff_not]; omega
    have HV := Lib.hid (show splitV s.data.toList = .tuple #[.string A, .string V, .bool true] by unfold splitV; rw [HS.out, if_pos (by simpa using hl)]; simp only [bl_of])
    go_wp2_with fail
    go_ret3
    exact ⟨by rw [HV.out]; rfl, X4.out⟩
  · have d1 : decide ((100 : Int) < (s.size : Int)) = true := by rw [decide_eq_true_iff]; omega
    have HV := Lib.hid (show splitV s.data.toList = .tuple #[.string ⟨#[]⟩, .string ⟨#[]⟩, .bool false] by unfold splitV; rw [HS.out, if_neg (fun h => hl h.2.2)])
    go_wp2_with fail
    go_ret3
    exact ⟨by rw [HV.out]; rfl, X4.out⟩
theorem splitV_or (l : List UInt8) : (splitT l = none ∧ splitV l = .tuple #[.string ⟨#[]⟩, .string ⟨#[]⟩, .bool false]) ∨ ∃ A B : ByteArray, splitT l = some (A.data.toList, B.data.toList) ∧ splitV l = .tuple #[.string A, .string B, .bool true] := by
  unfold splitV
  cases h : splitT l with
  | none => exact .inl ⟨rfl, rfl⟩
  | some p => exact .inr ⟨bl p.1, bl p.2, by rw [bl_l, bl_l], rfl⟩
set_option maxHeartbeats 4000000 in
theorem isType_any (s : ByteArray) (w : World) (hs : s.size ≤ 9223372036854775807) :
    Calls Tryd.prog 15 #[.string s] w fun e w' => e = .returned (.bool (splitT s.data.toList).isSome) ∧ Reg.Ext w w' := by
  have CS := Lib.hid (split_any s w hs)
  rcases splitV_or s.data.toList with ⟨h1, h2⟩ | ⟨A, B, h1, h2⟩
  · rw [h2] at CS
    have HV := Lib.hid (show (splitT s.data.toList).isSome = false by rw [h1]; rfl)
    clear h1 h2
    go_enter Tryd.func15, Tryd.ntmps15
    go_wp2_with fail
    refine CS.out.mono ?_
    rintro e w1 ⟨rfl, x1⟩
    have X1 := Lib.hid x1
    clear x1
    go_wp2_with fail
    go_ret
    exact ⟨by rw [HV.out]; rfl, X1.out⟩
  · rw [h2] at CS
    have HV := Lib.hid (show (splitT s.data.toList).isSome = true by rw [h1]; rfl)
    clear h1 h2
    go_enter Tryd.func15, Tryd.ntmps15
    go_wp2_with fail
    refine CS.out.mono ?_
    rintro e w1 ⟨rfl, x1⟩
    have X1 := Lib.hid x1
    clear x1
    go_wp2_with fail
    go_ret
    exact ⟨by rw [HV.out]; rfl, X1.out⟩
theorem test_eq (s t : ByteArray) : (s.toList == t.toList) = decide (s.data.toList = t.data.toList) := by
  rw [ByteArray.toList_eq, ByteArray.toList_eq, Bool.eq_iff_iff, beq_iff_eq, decide_eq_true_iff]
theorem test_ne (s t : ByteArray) : (s.toList != t.toList) = !decide (s.data.toList = t.data.toList) := by rw [bne, test_eq]
theorem test_litn (s : ByteArray) (l : List UInt8) : (s.toList != l) = !decide (s.data.toList = l) := by rw [bne, test_lit]
set_option maxHeartbeats 8000000 in
theorem near_any (s k : ByteArray) (w : World) (hs : s.size ≤ 9223372036854775807) (hk : k.size ≤ 9223372036854775807) :
    Calls Tryd.prog 20 #[.string s, .string k] w fun e w' => e = .returned (.int .i64 (nearP s.data.toList k.data.toList : Int)) ∧ Reg.Ext w w' := by
  have CS := Lib.hid (split_any s w hs)
  have CK := fun w => Lib.hid (split_any k w hk)
  obtain ⟨A, B, b, hkv, hk2⟩ : ∃ (A B : ByteArray) (b : Bool), splitV k.data.toList = .tuple #[.string A, .string B, .bool b] ∧ (splitT k.data.toList).getD ([], []) = (A.data.toList, B.data.toList) := by
    rcases splitV_or k.data.toList with ⟨h1, h2⟩ | ⟨A, B, h1, h2⟩
    · exact ⟨_, _, _, h2, by rw [h1]; rfl⟩
    · exact ⟨A, B, _, h2, by rw [h1]; rfl⟩
  rw [hkv] at CK
  have hnp : nearP s.data.toList k.data.toList = match splitT s.data.toList with
      | none => 0
      | some p => nearT p (A.data.toList, B.data.toList) := by unfold nearP; rw [hk2]; cases splitT s.data.toList <;> rfl
  clear hkv hk2
  rcases splitV_or s.data.toList with ⟨h1, h2⟩ | ⟨F, L, h1, h2⟩
  · rw [h2] at CS
    rw [h1] at hnp
    have HV : Hid (nearP s.data.toList k.data.toList = 0) := hnp
    clear h1 h2 hnp
    go_enter Tryd.func20, Tryd.ntmps20
    go_wp2_with fail
    refine CS.out.mono ?_
    rintro e w1 ⟨rfl, x1⟩
    have X1 := Lib.hid x1
    clear x1 CS
    go_wp2_with fail
    refine (CK w1).out.mono ?_
    rintro e w2 ⟨rfl, x2⟩
    have X2 := Lib.hid (X1.out.trans x2)
    clear x2 CK X1
    go_wp2_with fail
    go_ret
    exact ⟨by rw [HV.out]; rfl, X2.out⟩
  · rw [h2] at CS
    rw [h1] at hnp
    have HN : Hid (nearP s.data.toList k.data.toList = if F.data.toList = [42] then (if L.data.toList = [42] then 1 else 0) else if L.data.toList = [42] then (if F.data.toList = A.data.toList then 2 else 0) else if F.data.toList = A.data.toList ∧ L.data.toList = B.data.toList then 3 else 0) := hnp
    clear h1 h2 hnp
    go_enter Tryd.func20, Tryd.ntmps20
    go_wp2_with fail
    refine CS.out.mono ?_
    rintro e w1 ⟨rfl, x1⟩
    have X1 := Lib.hid x1
    clear x1 CS
    go_wp2_with fail
    refine (CK w1).out.mono ?_
    rintro e w2 ⟨rfl, x2⟩
    have X2 := Lib.hid (X1.out.trans x2)
    clear x2 CK X1
    have f1 := test_lit F [42]
    have f2 := test_litn F [42]
    have l1 := test_lit L [42]
    have l2 := test_litn L [42]
    have a1 := test_eq F A
    have b1 := test_eq L B
    by_cases hf : F.data.toList = [42]
    · rw [decide_eq_true hf] at f1 f2
      by_cases hl : L.data.toList = [42]
      · rw [decide_eq_true hl] at l1 l2
        have HV := Lib.hid (show nearP s.data.toList k.data.toList = 1 by rw [HN.out, if_pos hf, if_pos hl])
        clear hf hl HN
        go_wp2_with fail
        go_ret
        exact ⟨by rw [HV.out]; rfl, X2.out⟩
      · rw [decide_eq_false hl] at l1 l2
        have HV := Lib.hid (show nearP s.data.toList k.data.toList = 0 by rw [HN.out, if_pos hf, if_neg hl])
        clear hf hl HN
        go_wp2_with fail
        go_ret
        exact ⟨by rw [HV.out]; rfl, X2.out⟩
    · rw [decide_eq_false hf] at f1 f2
      by_cases hl : L.data.toList = [42]
      · rw [decide_eq_true hl] at l1 l2
        by_cases ha : F.data.toList = A.data.toList
        · rw [decide_eq_true ha] at a1
          have HV := Lib.hid (show nearP s.data.toList k.data.toList = 2 by rw [HN.out, if_neg hf, if_pos hl, if_pos ha])
          clear ha
          clear hf hl HN
          go_wp2_with fail
          go_ret
          exact ⟨by rw [HV.out]; rfl, X2.out⟩
        · rw [decide_eq_false ha] at a1
          have HV := Lib.hid (show nearP s.data.toList k.data.toList = 0 by rw [HN.out, if_neg hf, if_pos hl, if_neg ha])
          clear ha
          clear hf hl HN
          go_wp2_with fail
          go_ret
          exact ⟨by rw [HV.out]; rfl, X2.out⟩
      · rw [decide_eq_false hl] at l1 l2
        by_cases ha : F.data.toList = A.data.toList
        · rw [decide_eq_true ha] at a1
          by_cases hb : L.data.toList = B.data.toList
          · rw [decide_eq_true hb] at b1
            have HV := Lib.hid (show nearP s.data.toList k.data.toList = 3 by rw [HN.out, if_neg hf, if_neg hl, if_pos ⟨ha, hb⟩])
            clear ha hb
            clear hf hl HN
            go_wp2_with fail
            go_ret
            exact ⟨by rw [HV.out]; rfl, X2.out⟩
          · rw [decide_eq_false hb] at b1
            have HV := Lib.hid (show nearP s.data.toList k.data.toList = 0 by rw [HN.out, if_neg hf, if_neg hl, if_neg (fun h => hb h.2)])
            clear ha hb
            clear hf hl HN
            go_wp2_with fail
            go_ret
            exact ⟨by rw [HV.out]; rfl, X2.out⟩
        · rw [decide_eq_false ha] at a1
          have HV := Lib.hid (show nearP s.data.toList k.data.toList = 0 by rw [HN.out, if_neg hf, if_neg hl, if_neg (fun h => ha h.1)])
          clear ha
          clear hf hl HN
          go_wp2_with fail
          go_ret
          exact ⟨by rw [HV.out]; rfl, X2.out⟩
end Tst
end Go.Proofs.YtglnefmaphajaaaDoor

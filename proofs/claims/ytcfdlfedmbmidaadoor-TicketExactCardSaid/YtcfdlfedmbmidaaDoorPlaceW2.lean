/- Package place: isSeparator, isPart, IsTag. -/
import Derived.Test.YtcfdlfedmbmidaaDoorStrW2
import Derived.Test.YtcfdlfedmbmidaaDoorPlaceP
import Derived.Test.YtcfdlfedmbmidaaDoorBuf
import Derived.WalkKit
import Derived.WalkSpells
import Derived.WalkLawsBesides
import Derived.BigQuiet
import Derived.Great.Walk
set_option linter.unusedSimpArgs false
set_option linter.unusedVariables false
set_option linter.unusedSectionVars false
namespace Go.Proofs.YtcfdlfedmbmidaaDoor
open Go.RowKit
namespace Pl
theorem lst (l : List UInt8) : (⟨l.toArray⟩ : ByteArray).data.toList = l := by simp
theorem siz (l : List UInt8) : (⟨l.toArray⟩ : ByteArray).size = l.length := by rw [← len_data, lst]
theorem test_lit (s : ByteArray) (l : List UInt8) : (s.toList == l) = decide (s.data.toList = l) := by
  rw [ByteArray.toList_eq, Bool.eq_iff_iff, beq_iff_eq, decide_eq_true_iff]
set_option maxHeartbeats 2000000 in
theorem sep_any (s : ByteArray) (w : World) (hs : s.size ≤ 274877906944) :
    Calls Tryd.prog 52 #[.string s] w fun e w' => e = .returned (.bool (isSep s.data.toList)) ∧ Reg.Ext w w' := by
  have t1 := test_lit s [46]
  have t2 := test_lit s [95]
  have t3 := test_lit s [95, 95]
  go_enter Tryd.func52, Tryd.ntmps52
  by_cases h1 : s.data.toList = [46]
  · have HV := Lib.hid (show isSep s.data.toList = true by rw [h1]; rfl)
    rw [decide_eq_true h1] at t1
    clear t2 t3 h1
    go_wp2_with fail
    go_ret
    exact ⟨by rw [HV.out]; rfl, Reg.Ext.refl _⟩
  rw [decide_eq_false h1] at t1
  by_cases h2 : s.data.toList = [95]
  · have HV := Lib.hid (show isSep s.data.toList = true by rw [h2]; rfl)
    rw [decide_eq_true h2] at t2
    clear t3 h1 h2
    go_wp2_with fail
    go_ret
    exact ⟨by rw [HV.out]; rfl, Reg.Ext.refl _⟩
  rw [decide_eq_false h2] at t2
  by_cases h3 : s.data.toList = [95, 95]
  · have HV := Lib.hid (show isSep s.data.toList = true by rw [h3]; rfl)
    rw [decide_eq_true h3] at t3
    clear h1 h2 h3
    go_wp2_with fail
    go_ret
    exact ⟨by rw [HV.out]; rfl, Reg.Ext.refl _⟩
  rw [decide_eq_false h3] at t3
  have hv : isSep s.data.toList = (!s.data.toList.isEmpty && s.data.toList.all (· == 45)) := by
    unfold isSep
    rw [show (s.data.toList == [46]) = false from beq_eq_false_iff_ne.2 h1, show (s.data.toList == [95]) = false from beq_eq_false_iff_ne.2 h2, show (s.data.toList == [95, 95]) = false from beq_eq_false_iff_ne.2 h3]
    simp
  by_cases h0 : s.size = 0
  · obtain ⟨e1, e2, e3⟩ := empty_of s h0
    have HV := Lib.hid (show isSep s.data.toList = false by rw [hv, e1]; rfl)
    clear hv h1 h2 h3 e1 h0
    go_wp2_with fail
    go_ret
    exact ⟨by rw [HV.out]; rfl, Reg.Ext.refl _⟩
  · obtain ⟨e2, e3⟩ := full_of s (by omega)
    have hne : s.data.toList.isEmpty = false := by rw [← ByteArray.toList_eq]; exact e2
    rw [hne] at hv
    have HT := Lib.hid (Str.trim_any s [45] w (by omega) (by decide) (by decide))
    obtain ⟨T, hT⟩ : ∃ T : ByteArray, T = ⟨(Lib.trimS s.data.toList [45]).toArray⟩ := ⟨_, rfl⟩
    have tT := test_lit T []
    rw [hT, lst] at tT
    have hd : decide (Lib.trimS s.data.toList [45] = []) = isSep s.data.toList := by
      rw [hv]
      by_cases ha : s.data.toList.all (· == 45) = true
      · rw [ha, decide_eq_true ((trim_dash _).2 ha)]; rfl
      · rw [Bool.eq_false_iff.2 ha, decide_eq_false (fun h => ha ((trim_dash _).1 h))]; rfl
    rw [hd, ← hT] at tT
    rw [← hT] at HT
    clear hv h1 h2 h3 hne hd hT h0
    generalize isSep s.data.toList = b at *
    have tE : T.toList.isEmpty = b := by
      rw [← tT]
      cases T.toList <;> rfl
    go_wp2_with fail
    refine HT.out.mono ?_
    rintro e w1 ⟨rfl, x1⟩
    have HX := Lib.hid x1
    clear x1
    go_wp2_with fail
    go_ret
    exact ⟨rfl, HX.out⟩
def strLn : Value → Nat
  | .string s => s.size
  | _ => 0
set_option maxHeartbeats 4000000 in
theorem part_any (s : ByteArray) (w : World) (hs : s.size ≤ 274877906944) :
    Calls Tryd.prog 39 #[.string s] w fun e w' => e = .returned (.bool (partP s.data.toList)) ∧ Reg.Ext w w' := by
  go_enter Tryd.func39, Tryd.ntmps39
  go_wp2_with fail
  go_step3
  go_wp2_with fail
  go_step3
  go_wp2_with fail
  go_loopw [0, 3, 4] (fun r _ _ wr => ∃ R : ByteArray, r = .string R ∧ Hid (partP s.data.toList = partP R.data.toList) ∧ R.size ≤ s.size ∧ Hid (Reg.Ext w wr)) (fun r _ _ _ => strLn r)
  case atStart => exact ⟨s, rfl, rfl, Nat.le_refl _, Reg.Ext.refl _⟩
  case round =>
    obtain ⟨R, rfl, HP, hle, HX⟩ := hrel
    have HT := Lib.hid (Str.trimLeft_any R lettersL wr (by decide) (by decide))
    rw [trim_low] at HT
    obtain ⟨T, hT⟩ : ∃ T : ByteArray, T = ⟨(R.data.toList.dropWhile low).toArray⟩ := ⟨_, rfl⟩
    have hTl : T.data.toList = R.data.toList.dropWhile low := by rw [hT, lst]
    have hTs : T.size ≤ R.size := by rw [← len_data, ← len_data, hTl]; exact drop_le _ _
    rw [← hT] at HT
    have hstep := partP_step R.data.toList
    rw [← hTl, len_data, len_data] at hstep
    have HS := Lib.hid hstep
    clear hstep hT hTl
    go_wp2_with fail
    refine HT.out.mono ?_
    rintro e w1 ⟨rfl, x1⟩
    have HX1 := Lib.hid (HX.out.trans x1)
    clear x1 HT
    by_cases h1 : T.size = R.size
    · have HV := Lib.hid (show partP s.data.toList = false by rw [HP.out, HS.out, if_pos h1])
      have d1 : ((T.size : Int) == (R.size : Int)) = true := by rw [beq_iff_eq]; omega
      clear h1
      go_wp2_with fail
      rw [Exit.noGoto_ret]
      go_ret
      exact ⟨by rw [HV.out]; rfl, HX1.out⟩
    have d1 : ((T.size : Int) == (R.size : Int)) = false := by rw [beq_eq_false_iff_ne]; omega
    have hs2 := HS.out
    rw [if_neg h1] at hs2
    by_cases h0 : T.size = 0
    · obtain ⟨e1, e2, e3⟩ := empty_of T h0
      have HV := Lib.hid (show partP s.data.toList = true by rw [HP.out, hs2, if_pos e1])
      clear h1 e1 h0 hs2
      go_wp2_with fail
      rw [Exit.noGoto_ret]
      go_ret
      exact ⟨by rw [HV.out]; rfl, HX1.out⟩
    obtain ⟨e2, e3⟩ := full_of T (by omega)
    rw [if_neg (fun h => h0 (by rw [← len_data, h]; rfl))] at hs2
    have HN := Lib.hid (Str.trimLeft_any T sepsL w1 (by decide) (by decide))
    rw [trim_sep] at HN
    obtain ⟨M, hM⟩ : ∃ M : ByteArray, M = ⟨(T.data.toList.dropWhile sepc).toArray⟩ := ⟨_, rfl⟩
    have hMl : M.data.toList = T.data.toList.dropWhile sepc := by rw [hM, lst]
    have hMs : M.size ≤ T.size := by rw [← len_data, ← len_data, hMl]; exact drop_le _ _
    rw [← hM] at HN
    rw [← hMl, len_data, ← ext_to] at hs2
    have HS2 := Lib.hid hs2
    have HSP := Lib.hid (fun w => sep_any (T.extract 0 (T.size - M.size)) w (ext_le _ _ _ (by omega)))
    have hcast : ((T.size - M.size : Nat) : Int) = (T.size : Int) - (M.size : Int) := by omega
    have hlt : T.size < R.size := by omega
    clear h1 hs2 hM hMl HS
    go_wp2_with fail
    refine HN.out.mono ?_
    rintro e w2 ⟨rfl, x2⟩
    have HX2 := Lib.hid (HX1.out.trans x2)
    clear x2 HN
    go_wp2_with fail
    refine (HSP.out w2).mono ?_
    rintro e w3 ⟨rfl, x3⟩
    have HX3 := Lib.hid (HX2.out.trans x3)
    clear x3 HSP
    have HS3 := HS2
    cases hb : isSep (T.extract 0 (T.size - M.size)).data.toList with
    | false =>
      have HV := Lib.hid (show partP s.data.toList = false by rw [HP.out, HS2.out, hb]; rfl)
      clear hb
      go_wp2_with fail
      rw [Exit.noGoto_ret]
      go_ret
      exact ⟨by rw [HV.out]; rfl, HX3.out⟩
    | true =>
      have HV := Lib.hid (show partP s.data.toList = partP M.data.toList by rw [HP.out, HS2.out, hb]; rfl)
      clear hb
      go_wp2_with fail
      go_roundw
      case rel => exact ⟨M, rfl, HV, by omega, HX3⟩
      case measure => simp [strLn]; omega
/-! ### tags -/
theorem idx_neg (l : List UInt8) (c : UInt8) : (Lib.indexByte l c < 0 ↔ l.contains c = false) ∧ -1 ≤ Lib.indexByte l c := by
  induction l with
  | nil => simp [Lib.indexByte]
  | cons b l ih =>
    unfold Lib.indexByte
    rw [List.contains_cons]
    by_cases h : b = c
    · subst h; simp
    · have h1 : (b == c) = false := beq_eq_false_iff_ne.2 h
      have h2 : (c == b) = false := beq_eq_false_iff_ne.2 (Ne.symm h)
      rw [h1, h2]
      simp only [Bool.false_or]
      obtain ⟨i1, i2⟩ := ih
      by_cases hm : Lib.indexByte l c = -1
      · have : l.contains c = false := i1.1 (by omega)
        rw [this]; simp [hm]
      · have hm2 : (Lib.indexByte l c == -1) = false := beq_eq_false_iff_ne.2 hm
        rw [hm2]
        have hn : ¬ Lib.indexByte l c < 0 := by omega
        have hc : ¬ l.contains c = false := fun h => hn (i1.2 h)
        simp only [Bool.false_eq_true, if_false]
        constructor
        · constructor
          · intro h; omega
          · intro h; exact absurd h hc
        · omega
theorem tagP_cons (c : UInt8) (l : List UInt8) : tagP (c :: l) = (decide ((c :: l).length ≤ 128) && (c != 46) && (c != 45) && (c :: l).all tagc) := rfl
theorem b_eq (c : UInt8) (n : Nat) (hn : n < 256) : ((c.toNat : Int) == (n : Int)) = (c == UInt8.ofNat n) := by
  rw [Bool.eq_iff_iff, beq_iff_eq, beq_iff_eq]
  constructor
  · intro h
    refine UInt8.toNat_inj.1 ?_
    rw [UInt8.toNat_ofNat_of_lt' (show n < 256 from hn)]; omega
  · intro h
    rw [h, UInt8.toNat_ofNat_of_lt' (show n < 256 from hn)]
set_option maxHeartbeats 4000000 in
theorem tag_any (s : ByteArray) (w : World) :
    Calls Tryd.prog 25 #[.string s] w fun e w' => e = .returned (.bool (tagP s.data.toList)) ∧ Reg.Ext w w' := by
  go_enter Tryd.func25, Tryd.ntmps25
  by_cases h0 : s.size = 0
  · obtain ⟨e1, e2, e3⟩ := empty_of s h0
    have HV := Lib.hid (show tagP s.data.toList = false by rw [e1]; rfl)
    clear e1 h0
    go_wp2_with fail
    go_ret
    exact ⟨by rw [HV.out]; rfl, Reg.Ext.refl _⟩
  have hsz : 0 < s.size := by omega
  obtain ⟨e2, e3⟩ := full_of s hsz
  obtain ⟨l, hl⟩ := first_of s hsz
  have ht := tagP_cons s[0] l
  rw [← hl, len_data] at ht
  by_cases h1 : 128 < s.size
  · have HV := Lib.hid (show tagP s.data.toList = false by rw [ht, decide_eq_false (by omega)]; rfl)
    have d1 : decide ((128 : Int) < (s.size : Int)) = true := by rw [decide_eq_true_iff]; omega
    clear ht hl
    go_wp2_with fail
    go_ret
    exact ⟨by rw [HV.out]; rfl, Reg.Ext.refl _⟩
  have d1 : decide ((128 : Int) < (s.size : Int)) = false := by rw [decide_eq_false_iff_not]; omega
  rw [decide_eq_true (show s.size ≤ 128 by omega), Bool.true_and] at ht
  have d2 : ((s[0].toNat : Int) == 46) = (s[0] == 46) := b_eq s[0] 46 (by decide)
  have d3 : ((s[0].toNat : Int) == 45) = (s[0] == 45) := b_eq s[0] 45 (by decide)
  cases c1 : s[0] == 46 with
  | true =>
    have HV := Lib.hid (show tagP s.data.toList = false by rw [ht, bne, c1]; rfl)
    rw [c1] at d2
    clear ht hl d3 c1
    go_wp2_with fail
    go_ret
    exact ⟨by rw [HV.out]; rfl, Reg.Ext.refl _⟩
  | false =>
    rw [c1] at d2
    cases c2 : s[0] == 45 with
    | true =>
      have HV := Lib.hid (show tagP s.data.toList = false by rw [ht, bne, bne, c1, c2]; rfl)
      rw [c2] at d3
      clear ht hl c1 c2
      go_wp2_with fail
      go_ret
      exact ⟨by rw [HV.out]; rfl, Reg.Ext.refl _⟩
    | false =>
      rw [c2] at d3
      have hT : tagP s.data.toList = s.data.toList.all tagc := by rw [ht, bne, bne, c1, c2]; rfl
      have HT := Lib.hid hT
      obtain ⟨cap, w2, hcv, hby, hx2⟩ := BytesAt.of s w
      have HBY := Lib.hid hby
      have HX2 := Lib.hid hx2
      clear ht hl c1 c2 hT hby hx2
      go_wp2_with fail
      clear hcv
      go_loopw [4, 25] (fun _ i wr => ∃ k : Nat, k ≤ s.size ∧ i = .int .i64 k ∧ Hid ((s.data.toList.take k).all tagc = true) ∧ w2 = wr) (fun _ i _ => s.size - (intOf i).toNat)
      case atStart => exact ⟨0, Nat.zero_le _, rfl, rfl, rfl⟩
      case round =>
        obtain ⟨k, hk, rfl, HG, rfl⟩ := hrel
        by_cases hks : k < s.size
        · have cb := HBY.out.cell k hks
          have hkl : k < s.data.toList.length := by rw [len_data]; exact hks
          have hmem : (s.data.toList[k]'hkl) ∈ s.data.toList := List.getElem_mem hkl
          have htk : s.data.toList.take (k + 1) = s.data.toList.take k ++ [s.data.toList[k]'hkl] := List.take_succ_eq_append_getElem hkl
          generalize (s.data.toList[k]'hkl) = c at *
          have HM := Lib.hid hmem
          have HTK := Lib.hid htk
          have HI := Lib.hid (Str.indexByte_any ⟨tagsL.toArray⟩ c w2)
          rw [lst] at HI
          obtain ⟨i1, i2⟩ := idx_neg tagsL c
          rw [tag_mem] at i1
          generalize Lib.indexByte tagsL c = j at *
          clear hmem htk
          go_wp2_with fail
          refine HI.out.mono ?_
          rintro e w' ⟨rfl, rfl⟩
          cases hc : tagc c with
          | false =>
            have d4 : decide (j < 0) = true := by rw [decide_eq_true_iff]; exact i1.2 hc
            have HV := Lib.hid (show tagP s.data.toList = false by
              rw [HT.out]
              exact List.all_eq_false.2 ⟨c, HM.out, by rw [hc]; decide⟩)
            clear hc i1
            go_wp2_with fail
            go_ret
            exact ⟨by rw [HV.out]; rfl, HX2.out⟩
          | true =>
            have d4 : decide (j < 0) = false := by
              rw [decide_eq_false_iff_not]
              intro h
              have := i1.1 h
              rw [hc] at this; cases this
            have HG2 : Hid ((s.data.toList.take (k + 1)).all tagc = true) := by
              show _ = _
              rw [HTK.out, List.all_append, HG.out, List.all_cons, hc]; rfl
            clear hc i1
            go_wp2_with fail
            go_roundw
            case rel => exact ⟨k + 1, by omega, by go_num, HG2, trivial⟩
            case measure => simp [intOf]; omega
        · have hg := HG.out
          rw [List.take_of_length_le (by rw [len_data]; omega)] at hg
          have HV := Lib.hid (HT.out.trans hg)
          clear hg
          go_wp2_with fail
          go_ret
          exact ⟨by rw [HV.out]; rfl, HX2.out⟩
end Pl
end Go.Proofs.YtcfdlfedmbmidaaDoor

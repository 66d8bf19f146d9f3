/- The reference's took and counted. -/
import Derived.Test.YtbeghdoffiidoaaDoorSlipNum
import Derived.Test.YtbeghdoffiidoaaDoorSlipRead
import Derived.BigQuiet
set_option linter.unusedSimpArgs false
set_option linter.unusedVariables false
set_option linter.unusedSectionVars false
namespace Go.Proofs.YtbeghdoffiidoaaDoor
open Go.RowKit
namespace Slp
/-- the place in the whole list at which a scan stands; -1: the body is bad -/
def Plc (l : List UInt8) (s : Sc) (a : Int) : Prop := (s = none ∧ a = -1) ∨ ∃ k : Nat, k ≤ l.length ∧ s = some (l.drop k) ∧ a = (k : Int)
theorem index_any (s : ByteArray) (i : Nat) (hi : i < s.size) : ∀ W, (Instr.index 9 (.string s) (.int .i64 (i : Int))).run Tryd.prog W = .ok (.int .u8 ((s.data.toList[i]'(by rw [len_data]; exact hi)).toNat : Int)) W := by
  intro W
  rw [run_index_string (P := Tryd.prog) W _ _ _ _ Tryd.underlying9, dif_pos ⟨by omega, by omega⟩]
  rfl
theorem textS_none : textS none = ([], none) := rfl
theorem textS_end (l : List UInt8) (k : Nat) (h : l.length ≤ k) : textS (some (l.drop k)) = ([], none) := by
  rw [List.drop_of_length_le h]; rfl
theorem textS_at (l : List UInt8) (k : Nat) (h : k < l.length) : textS (some (l.drop k)) = if (l[k]).toNat ≤ l.length - k - 1 then ((l.drop (k + 1)).take (l[k]).toNat, some (l.drop (k + 1 + (l[k]).toNat))) else ([], none) := by
  unfold textS
  rw [List.drop_eq_getElem_cons h, nextB_cons]
  simp only
  unfold take
  dsimp only
  rw [List.length_drop]
  by_cases hc : (l[k]).toNat ≤ l.length - (k + 1)
  · rw [if_pos hc, if_pos (by omega), List.drop_drop]
  · rw [if_neg hc, if_neg (by omega)]
set_option maxHeartbeats 4000000 in
theorem took_any (S0 : ByteArray) (s : Sc) (a : Int) (w : World) (hS : S0.size ≤ 1048576) (h : Plc S0.data.toList s a) :
    Calls Tryd.prog 45 #[.string S0, .int .i64 a] w fun e w' => ∃ a' : Int, e = .returned (.tuple #[.string ⟨(textS s).1.toArray⟩, .int .i64 a']) ∧ Plc S0.data.toList (textS s).2 a' ∧ Reg.Ext w w' := by
  have hlen := len_data S0
  go_enter Tryd.func45, Tryd.ntmps45
  rcases h with ⟨rfl, rfl⟩ | ⟨k, hk, rfl, rfl⟩
  · go_wp2_with fail
    go_ret2
    exact ⟨-1, rfl, .inl ⟨rfl, rfl⟩, Reg.Ext.refl w⟩
  · have d0 : decide ((k : Int) < 0) = false := by rw [decide_eq_false_iff_not]; omega
    by_cases hkl : k < S0.size
    · have d1 : decide ((S0.size : Int) ≤ (k : Int)) = false := by rw [decide_eq_false_iff_not]; omega
      have hix := index_any S0 k hkl
      have HTA := Lib.hid (textS_at S0.data.toList k (by omega))
      have hcl := (S0.data.toList[k]'(by omega)).toNat_lt
      generalize (S0.data.toList[k]'(by omega)).toNat = c at *
      rw [hlen] at HTA
      by_cases hc : c ≤ S0.size - k - 1
      · have d2 : decide ((S0.size : Int) - (k : Int) - 1 < (c : Int)) = false := by rw [decide_eq_false_iff_not]; omega
        have HV := Lib.hid (HTA.out.trans (if_pos hc))
        clear HTA
        have hcs : k + 1 + c ≤ S0.size := by omega
        go_upto_region 3 with (fail)
        go_quiet (fail)
        go_wp2_with fail
        go_ret2
        have hst : S0.extract (k + 1) (k + 1 + c) = ⟨((S0.data.toList.drop (k + 1)).take c).toArray⟩ := ba_ext (by rw [lst, ext_data]; simp)
        exact ⟨(k : Int) + 1 + (c : Int), by rw [HV.out, ← hst]; rfl, by rw [HV.out]; exact .inr ⟨k + 1 + c, by omega, rfl, by omega⟩, Reg.Ext.drewN w _⟩
      · have d2 : decide ((S0.size : Int) - (k : Int) - 1 < (c : Int)) = true := by rw [decide_eq_true_iff]; omega
        have HV := Lib.hid (HTA.out.trans (if_neg hc))
        clear HTA
        go_wp2_with fail
        go_ret2
        exact ⟨-1, by rw [HV.out]; rfl, by rw [HV.out]; exact .inl ⟨rfl, rfl⟩, Reg.Ext.refl w⟩
    · have d1 : decide ((S0.size : Int) ≤ (k : Int)) = true := by rw [decide_eq_true_iff]; omega
      have HV := Lib.hid (textS_end S0.data.toList k (by omega))
      go_wp2_with fail
      go_ret2
      exact ⟨-1, by rw [HV.out]; rfl, by rw [HV.out]; exact .inl ⟨rfl, rfl⟩, Reg.Ext.refl w⟩
theorem numS_none : numS none = (0, none) := rfl
theorem numS_short (l : List UInt8) (k : Nat) (h : l.length < k + 8) : numS (some (l.drop k)) = (0, none) := by
  unfold numS
  rw [take_no (by rw [List.length_drop]; omega)]
  rfl
theorem numS_at (l : List UInt8) (k : Nat) (h : k + 8 ≤ l.length) : numS (some (l.drop k)) = if fromB ((l.drop k).take 8) ≤ 1099511627776 then (fromB ((l.drop k).take 8), some (l.drop (k + 8))) else (0, none) := by
  unfold numS
  rw [take_ok (by rw [List.length_drop]; omega)]
  simp only [List.drop_drop]
set_option maxHeartbeats 4000000 in
theorem counted_any (S0 : ByteArray) (s : Sc) (a : Int) (w : World) (hS : S0.size ≤ 1048576) (h : Plc S0.data.toList s a) :
    Calls Tryd.prog 46 #[.string S0, .int .i64 a] w fun e w' => ∃ a' : Int, e = .returned (.tuple #[.int .i64 ((numS s).1 : Int), .int .i64 a']) ∧ Plc S0.data.toList (numS s).2 a' ∧ Reg.Ext w w' := by
  have hlen := len_data S0
  go_enter Tryd.func46, Tryd.ntmps46
  rcases h with ⟨rfl, rfl⟩ | ⟨k, hk, rfl, rfl⟩
  · go_wp2_with fail
    go_ret2
    exact ⟨-1, rfl, .inl ⟨rfl, rfl⟩, Reg.Ext.refl w⟩
  · have d0 : decide ((k : Int) < 0) = false := by rw [decide_eq_false_iff_not]; omega
    by_cases hk8 : k + 8 ≤ S0.size
    · have d1 : decide ((S0.size : Int) - (k : Int) < 8) = false := by rw [decide_eq_false_iff_not]; omega
      have HN := Lib.hid (numS_at S0.data.toList k (by omega))
      have hml : ((S0.data.toList.drop k).take 8).length = 8 := by rw [List.length_take, List.length_drop]; omega
      have HM : Hid (∀ j (hj : j < 8), ∃ hq : k + j < S0.data.toList.length, ((S0.data.toList.drop k).take 8)[j]? = some (S0.data.toList[k + j]'hq)) := by
        intro j hj
        have hq : k + j < S0.data.toList.length := by omega
        refine ⟨hq, ?_⟩
        rw [List.getElem?_take_of_lt (by omega), List.getElem?_drop, List.getElem?_eq_getElem hq]
      generalize hmm : (S0.data.toList.drop k).take 8 = m at *
      clear hmm
      go_wp2_with fail
      go_loopw [6, 7] (fun n i wr => ∃ j : Nat, j ≤ 8 ∧ i = .int .i64 j ∧ n = .int .u64 (fromB (m.take j) : Nat) ∧ Hid (Reg.Ext w wr)) (fun _ i _ => 8 - (intOf i).toNat)
      case atStart => exact ⟨0, by omega, rfl, rfl, Reg.Ext.refl w⟩
      case round =>
        obtain ⟨j, hj, rfl, rfl, HX⟩ := hrel
        by_cases hjl : j < 8
        · have dj : decide ((j : Int) < 8) = true := by rw [decide_eq_true_iff]; omega
          obtain ⟨hq, hmj⟩ := HM.out j hjl
          have hix := index_any S0 (k + j) (by omega)
          have hjm : j < m.length := by omega
          have hmj2 : m[j] = S0.data.toList[k + j] := by
            rw [List.getElem?_eq_getElem hjm] at hmj
            injection hmj
          rw [← hmj2] at hix
          have hsn : fromB (m.take (j + 1)) = fromB (m.take j) * 256 + (m[j]).toNat := by
            rw [List.take_succ_eq_append_getElem hjm, fromB_snoc]
          have hlt : fromB (m.take j) < 72057594037927936 := by
            have h1 := fromB_lt (m.take j)
            rw [List.length_take, Nat.min_eq_left (by omega)] at h1
            have h2 : 256 ^ j ≤ 256 ^ 7 := Nat.pow_le_pow_right (by omega) (by omega)
            have h3 : (256 : Nat) ^ 7 = 72057594037927936 := rfl
            omega
          have hcl := (m[j]).toNat_lt
          have hor := or_low (fromB (m.take j)) (m[j]).toNat hlt hcl
          rw [show ((k + j : Nat) : Int) = (k : Int) + (j : Int) by omega] at hix
          clear hmj hmj2 hq
          generalize m[j] = c at *
          have HS := Lib.hid hsn
          clear hsn hjm
          generalize fromB (m.take j) = n at *
          go_wp2_with fail
          go_roundw
          case rel => exact ⟨j + 1, by omega, by go_num, by rw [HS.out]; go_num, HX⟩
          case measure => simp [intOf]; omega
        · have hje : j = 8 := by omega
          subst hje
          have dj : decide (((8 : Nat) : Int) < 8) = false := by decide
          rw [show m.take 8 = m from List.take_of_length_le (by omega)]
          have hlt : fromB m < 18446744073709551616 := by
            have h1 := fromB_lt m
            rw [hml] at h1
            have h3 : (256 : Nat) ^ 8 = 18446744073709551616 := rfl
            omega
          generalize fromB m = x at *
          by_cases hx : x ≤ 1099511627776
          · have dx : decide ((1099511627776 : Int) < (x : Int)) = false := by rw [decide_eq_false_iff_not]; omega
            have HV := Lib.hid (HN.out.trans (if_pos hx))
            have hwr : IntKind.i64.wrap (x : Int) = (x : Int) := by rw [IntKind.wrap_i64]; omega
            clear HN HM
            go_wp2_with fail
            go_ret2
            exact ⟨(k : Int) + 8, by rw [HV.out]; rfl, by rw [HV.out]; exact .inr ⟨k + 8, by omega, rfl, by omega⟩, HX.out⟩
          · have dx : decide ((1099511627776 : Int) < (x : Int)) = true := by rw [decide_eq_true_iff]; omega
            have HV := Lib.hid (HN.out.trans (if_neg hx))
            clear HN HM
            go_wp2_with fail
            go_ret2
            exact ⟨-1, by rw [HV.out]; rfl, by rw [HV.out]; exact .inl ⟨rfl, rfl⟩, HX.out⟩
    · have d1 : decide ((S0.size : Int) - (k : Int) < 8) = true := by rw [decide_eq_true_iff]; omega
      have HV := Lib.hid (numS_short S0.data.toList k (by omega))
      go_wp2_with fail
      go_ret2
      exact ⟨-1, by rw [HV.out]; rfl, by rw [HV.out]; exact .inl ⟨rfl, rfl⟩, Reg.Ext.refl w⟩
end Slp
end Go.Proofs.YtbeghdoffiidoaaDoor

/- The walks of package real: Quality. -/
import Derived.Test.YtglnefmaphajaaaDoorRealWalks
set_option linter.unusedSimpArgs false
set_option linter.unusedVariables false
set_option linter.unusedSectionVars false
namespace Go.Proofs.YtglnefmaphajaaaDoor
open Go.RowKit
namespace Flt
open FloatP
theorem isW_spec {s : ByteArray} (h : isW s.data.toList = true) : ∃ h0 : 0 < s.size, (s[0] = 48 ∨ s[0] = 49) ∧ tailOk 57 (s.data.toList.drop 2) = true ∧ wn s.data.toList = num ((s[0]).toNat - 48) (s.data.toList.drop 2) ∧ wk s.data.toList = (s.data.toList.drop 2).length := by
  have hl := len_data s
  have h0 : 0 < s.size := by
    rcases Nat.eq_zero_or_pos s.size with h0 | h0
    · rw [List.eq_nil_of_length_eq_zero (l := s.data.toList) (by omega)] at h; cases h
    · exact h0
  obtain ⟨l, he⟩ := first_byte s h0
  refine ⟨h0, ?_⟩
  rw [he] at h ⊢
  generalize s[0] = c at *
  cases l with
  | nil =>
    simp only [isW, Bool.or_eq_true, beq_iff_eq] at h
    exact ⟨h, rfl, rfl, rfl⟩
  | cons p l =>
    simp only [isW, Bool.and_eq_true, Bool.or_eq_true, beq_iff_eq, decide_eq_true_eq] at h
    obtain ⟨⟨⟨h1, h2⟩, -⟩, h4⟩ := h
    exact ⟨h2, tailOk_top h4, rfl, rfl⟩
def qualV (l : List UInt8) : Value := if isW l then .tuple #[.float .f64 (qv (wn l) (wk l)), .int .i64 0] else .tuple #[.float .f64 0, .int .i64 3]
set_option maxHeartbeats 600000 in
theorem quality_any (s : ByteArray) (w : World) (hs : s.size ≤ 274877906944) : Calls Tryd.prog 30 #[.string s] w fun e w' => e = .returned (qualV s.data.toList) ∧ Reg.Ext w w' := by
  go_enter Tryd.func30, Tryd.ntmps30
  go_wp2_with fail
  refine (isw_any s w hs).mono ?_
  rintro e w' ⟨rfl, rfl⟩
  cases hw : isW s.data.toList with
  | false =>
    have HV := Lib.hid (show qualV s.data.toList = .tuple #[.float .f64 0, .int .i64 3] by unfold qualV; rw [hw]; rfl)
    clear hw
    go_wp2_with fail
    go_ret2
    exact ⟨by rw [HV.out]; rfl, Reg.Ext.refl w⟩
  | true =>
    obtain ⟨h0, hc, ht, hn, hk⟩ := isW_spec hw
    obtain ⟨hle, hk3⟩ := wn_le hw
    obtain ⟨r, hq, hr, hqv, -⟩ := good_spec (good_all _ _ hk3 hle)
    have HV := Lib.hid (show qualV s.data.toList = .tuple #[.float .f64 (clean r), .int .i64 0] by unfold qualV; rw [hw, ← hqv]; rfl)
    have hc1 : ∃ x : Nat, (s[0]).toNat = 48 + x ∧ x ≤ 1 := by
      rcases hc with h | h
      · exact ⟨0, by rw [h]; rfl, by omega⟩
      · exact ⟨1, by rw [h]; rfl, by omega⟩
    obtain ⟨x, hx, hx1⟩ := hc1
    rw [hx, show 48 + x - 48 = x by omega] at hn
    have hxi : ((s[0]).toNat : Int) = 48 + (x : Int) := by omega
    have hmn : (min (s.size : Int) 2).toNat ≤ s.size := by omega
    have htd : (s.extract (min (s.size : Int) 2).toNat s.size).data.toList = s.data.toList.drop 2 := by
      rw [ext_from]
      rcases Nat.lt_or_ge s.size 2 with h | h
      · rw [List.drop_of_length_le (by rw [len_data]; omega), List.drop_of_length_le (by rw [len_data]; omega)]
      · rw [show (min (s.size : Int) 2).toNat = 2 by omega]
    obtain ⟨cap, w1, hcv, hby, hx1w⟩ := BytesAt.of (s.extract (min (s.size : Int) 2).toNat s.size) w
    have hsz : (s.extract (min (s.size : Int) 2).toNat s.size).size = (s.data.toList.drop 2).length := by rw [← len_data, htd]
    have HBY := Lib.hid hby
    have HX1 := Lib.hid hx1w
    have HN := Lib.hid hn
    have HK := Lib.hid hk
    have HT := Lib.hid ht
    have HQ := Lib.hid hq
    have HTD := Lib.hid htd
    have HSZ := Lib.hid hsz
    clear hn hk ht hq hby hx1w hw hc hx hqv hle htd hsz
    have hNt : s.size - (min (s.size : Int) 2).toNat = (s.extract (min (s.size : Int) 2).toNat s.size).size := by rw [ByteArray.size_extract]; omega
    have HNT := Lib.hid hNt
    clear hNt
    go_wp2_with fail
    clear hcv hmn
    generalize hL : s.data.toList.drop 2 = L at *
    clear hL
    generalize s.extract (min (s.size : Int) 2).toNat s.size = t at *
    generalize s.size - (min (s.size : Int) 2).toNat = N at *
    obtain rfl : N = t.size := HNT.out
    have hlen : t.size ≤ 3 := by rw [HSZ.out, ← HK.out]; exact hk3
    have HLEN := Lib.hid hlen
    clear hlen hk3
    go_loopw [4, 5, 7, 22] (fun n p _ i wr => ∃ k : Nat, k ≤ t.size ∧ i = .int .i64 k ∧ n = .int .i64 (num x (L.take k) : Nat) ∧ p = .int .i64 (10 ^ k : Nat) ∧ Hid (Reg.Ext w1 wr)) (fun _ _ _ i _ => t.size - (intOf i).toNat)
    case atStart => exact ⟨0, Nat.zero_le _, rfl, by rw [show (48 : Int) + (x : Int) - 48 = x by omega]; rfl, rfl, Reg.Ext.refl w1⟩
    case round =>
      obtain ⟨k, hk, rfl, rfl, rfl, HXR⟩ := hrel
      have hb1 : num x (L.take k) ≤ 2000 ∧ 10 ^ k ≤ 1000 := by
        have h1 := num_lt x (L.take k) (by
          have := HT.out
          simp only [tailOk, List.all_eq_true] at this ⊢
          exact fun d hd => this d (List.mem_of_mem_take hd))
        have h2 : (L.take k).length = k := by rw [List.length_take]; have := HSZ.out; omega
        have h3 : k ≤ 3 := Nat.le_trans hk HLEN.out
        rw [h2] at h1
        have h4 : 10 ^ k ≤ 10 ^ 3 := Nat.pow_le_pow_right (by omega) h3
        have h5 : (x + 1) * 10 ^ k ≤ 2 * 10 ^ 3 := Nat.mul_le_mul (by omega) h4
        have h6 : (10 : Nat) ^ 3 = 1000 := rfl
        rw [h6] at h4 h5
        exact ⟨by omega, h4⟩
      obtain ⟨hb1, hb2⟩ := hb1
      have hk33 : k ≤ 3 := Nat.le_trans hk HLEN.out
      by_cases hks : k < t.size
      · have hkl : k < L.length := by rw [← HSZ.out]; exact hks
        have cb := HXR.out.at_ (HBY.out.cell k hks)
        have hbyte : (t.data.toList[k]'(by rw [len_data]; exact hks)) = L[k] := by
          have := HTD.out
          simp only [this]
        rw [hbyte] at cb
        have hsn : num x (L.take (k + 1)) = num x (L.take k) * 10 + ((L[k]).toNat - 48) := by
          rw [List.take_succ_eq_append_getElem hkl, num_snoc]
        have hdig : 48 ≤ (L[k]).toNat ∧ (L[k]).toNat ≤ 57 := by
          have := HT.out
          simp only [tailOk, List.all_eq_true, decide_eq_true_eq] at this
          exact this _ (List.getElem_mem hkl)
        obtain ⟨hd1, hd2⟩ := hdig
        generalize L[k] = d at *
        have HS := Lib.hid hsn
        clear hsn hbyte
        have HP := Lib.hid (show (10 : Nat) ^ (k + 1) = 10 ^ k * 10 from Nat.pow_succ 10 k)
        generalize num x (L.take k) = n at *
        generalize 10 ^ k = p at *
        go_wp2_with fail
        go_roundw
        case rel => exact ⟨k + 1, by omega, by go_num, by rw [HS.out, show ((n * 10 + (d.toNat - 48) : Nat) : Int) = (n : Int) * 10 + ((d.toNat : Int) - 48) by omega], by rw [HP.out]; go_num, HXR⟩
        case measure => simp [intOf]; omega
      · have hke : k = t.size := by omega
        have hall : L.take k = L := List.take_of_length_le (by rw [hke, HSZ.out]; exact Nat.le_refl _)
        have hpk : 10 ^ k = 10 ^ wk s.data.toList := by rw [hke, HSZ.out, ← HK.out]
        rw [hall] at hb1 ⊢
        have hqq : quo ((num x L : Nat) : Int) ((10 ^ k : Nat) : Int) = some r := by rw [hpk, ← HN.out]; exact HQ.out
        have hp0 : ((10 ^ k : Nat) : Int) ≠ 0 := by
          have : 0 < 10 ^ k := Nat.pow_pos (by omega)
          omega
        have hX2 := Lib.hid (HX1.out.trans HXR.out)
        have hcr : ∀ W, Calls Tryd.prog 41 #[.int .i64 ((num x L : Nat) : Int), .int .i64 ((10 ^ k : Nat) : Int)] W fun e w' => e = .returned (.float .f64 (clean r)) ∧ W = w' := fun W => ratio_any _ _ r W hp0 hqq hr
        have HCR := Lib.hid hcr
        clear hqq hcr hp0 hpk hall
        have hd9 : decide ((k : Int) < (t.size : Int)) = false := by rw [decide_eq_false_iff_not]; omega
        clear hke
        generalize 10 ^ k = p at *
        generalize num x L = n at *
        go_wp2_with fail
        refine (HCR.out _).mono ?_
        rintro e w' ⟨rfl, rfl⟩
        go_wp2_with fail
        go_ret2
        exact ⟨by rw [HV.out]; rfl, hX2.out⟩
end Flt
end Go.Proofs.YtglnefmaphajaaaDoor

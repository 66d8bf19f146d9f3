/- The walk of the law ShaExact. -/
import Derived.Test.YthgbhpeidngjmaaDoorShaNone
import Derived.Test.YthgbhpeidngjmaaDoorShaRefOf
set_option linter.unusedSimpArgs false
set_option linter.unusedVariables false
set_option linter.unusedSectionVars false
namespace Go.Proofs.YthgbhpeidngjmaaDoor
open Go.RowKit
namespace Sha
open ShaP
theorem sum_ex (l : List UInt8) : ∃ L, sum l = L ∧ L.length = 32 := ⟨_, rfl, sum_length l⟩
theorem equal_dig {l m : List UInt8} (hl : l.length = 32) (hm : m.length = 32) (w : World) : (Op.equalIn 10000 28 (.agg (l.map byteV).toArray) (.agg (m.map byteV).toArray)).run Tryd.prog w = .ok (l == m) w := by
  obtain ⟨i, hi⟩ := info_byte'
  exact run_equal_bytes w 9998 Tryd.underlying28 hi Tryd.underlying5 cellsE _ _ hl hm
theorem equal_self {l : List UInt8} (hl : l.length = 32) (w : World) : (Op.equalIn 10000 28 (.agg (l.map byteV).toArray) (.agg (l.map byteV).toArray)).run Tryd.prog w = .ok true w := by
  rw [equal_dig hl hl]; simp
theorem app_list (a b : ByteArray) : (a ++ b).data.toList = a.data.toList ++ b.data.toList := by simp
set_option maxRecDepth 100000 in
set_option maxHeartbeats 4000000 in
theorem exact_law (A : Option Addr) (n c : Nat) (ss : List ByteArray) (w : World) (hn : ss.length = n) (hm : n ≤ maxLen) (hr : Rd w A (ss.map strV)) (hz : ∀ s ∈ ss, s.size ≤ maxLen) (hk : Keys w) (hst : StartIs w) :
    Calls Tryd.prog 3 #[.slice A n c] w fun e w' => e = .returned (.bool true) ∧ Reg.Ext w w' := by
  have HK := Lib.hid hk
  have HST := Lib.hid hst
  have HN := Lib.hid hn
  have HR := Lib.hid hr
  have HZ := Lib.hid hz
  have hk1 := hk.lt
  have hm' : n ≤ 9223372036854775807 := by unfold maxLen at hm; omega
  clear hk hst hn hr hz
  go_enter Tryd.func3, Tryd.ntmps3
  go_wp2_with fail
  refine (awake_any w HK.out HST.out).mono ?_
  rintro e w1 ⟨rfl, x1⟩
  have X1 := Lib.hid x1
  clear x1
  go_wp2_with fail
  refine (new_any w1 (HST.out.ext X1.out)).mono ?_
  rintro e w2 ⟨h, rfl, hh, ah, x2⟩
  have X2 := Lib.hid (X1.out.trans x2)
  have hwh : w.heap.size ≤ h := Nat.le_trans X1.out.size hh
  have AH : Hid (Abs w2 h 41 (⟨#[]⟩ : ByteArray).data.toList (⟨#[]⟩ : ByteArray).size) := ah
  have hhk : h ≠ 1 := by omega
  clear x2 ah hh X1
  go_wp2_with fail
  go_loopw [4, 5] (fun al i wr => ∃ k : Nat, k ≤ n ∧ i = .int .i64 k ∧ ∃ S : ByteArray, al = .string S ∧ Hid (S.data.toList = cat (ss.take k)) ∧ S.size ≤ 8192 ∧ Hid (Abs wr h 41 S.data.toList S.size) ∧ Hid (Reg.Ext w wr)) (fun _ i _ => n - (intOf i).toNat)
  case atStart => exact ⟨0, Nat.zero_le _, rfl, ⟨#[]⟩, rfl, rfl, by decide, AH, X2⟩
  case round =>
    obtain ⟨k, hk, rfl, S, rfl, HS, hS, HA, HX⟩ := hrel
    clear AH X2
    by_cases hkn : k < n
    · have d0 : decide ((k : Int) < (n : Int)) = true := by rw [decide_eq_true_iff]; omega
      have hkl : k < ss.length := by rw [HN.out]; exact hkn
      obtain ⟨ad, rfl, hb, hc⟩ := HR.out k (by simpa using hkl)
      have hc0 : w.cell? (ad.add k) = some (.string ss[k]) := by simpa [strV] using hc
      have hct := cat_take ss k hkl
      rw [← HS.out] at hct
      have HCT := Lib.hid hct
      have HSM := Lib.hid (HZ.out _ (List.getElem_mem hkl))
      clear hct hc hb
      generalize ss[k] = s at *
      have hcr := HX.out.at_ hc0
      by_cases h20 : 20 ≤ k
      · have d1 : decide ((20 : Int) ≤ (k : Int)) = true := by rw [decide_eq_true_iff]; omega
        clear hc0
        go_wp2_with fail
        go_ret
        exact ⟨rfl, HX.out⟩
      · have d1 : decide ((20 : Int) ≤ (k : Int)) = false := by rw [decide_eq_false_iff_not]; omega
        by_cases hs : s.size ≤ 4096
        · have d2 : decide ((4096 : Int) < (s.size : Int)) = false := by rw [decide_eq_false_iff_not]; omega
          by_cases hSS : S.size ≤ 4096
          · have d3 : decide ((4096 : Int) < (S.size : Int)) = false := by rw [decide_eq_false_iff_not]; omega
            have HC0 := Lib.hid hc0
            clear hc0
            go_wp2_with fail
            refine (write_any h _ _ S.size s wr HA.out (HK.out.ext HX.out) hhk HSM.out (by omega)).mono ?_
            rintro e w3 ⟨rfl, a3, b3⟩
            have hX3 := HX.out.trans_but b3 hwh
            have hc3 := hX3.at_ HC0.out
            have hsz : (S ++ s).size = S.size + s.size := by simp
            obtain ⟨T, hT⟩ : ∃ T, T = S ++ s := ⟨_, rfl⟩
            have hTl : T.data.toList = S.data.toList ++ s.data.toList := by rw [hT, app_list]
            have hTs : T.size = S.size + s.size := by rw [hT, hsz]
            have hT8 : T.size ≤ 8192 := by omega
            rw [← hTl, ← hTs] at a3
            obtain ⟨D, hD, hDl⟩ := sum_ex T.data.toList
            have HE := Lib.hid (equal_self hDl)
            have A3 := Lib.hid a3
            have X3 := Lib.hid hX3
            have CS : Hid (∀ w', Reg.Ext w3 w' → Calls Tryd.prog 9 #[.pointer (some ⟨h, 0, none⟩)] w' fun e w'' => e = .returned (.agg (D.map byteV).toArray) ∧ Reg.Ext w' w'') := fun w' hx => by
              have := sum_any h 41 T.data.toList w' (by rw [len_data]; exact A3.out.ext hx) (HK.out.ext (X3.out.trans hx)) (HK.out.ext (X3.out.trans hx)).lt (by rw [len_data]; omega)
              rw [hD] at this
              exact this
            have CR : Hid (∀ w', Calls Tryd.prog 10 #[.string T] w' fun e w'' => e = .returned (.agg (D.map byteV).toArray) ∧ Reg.Ext w' w'') := fun w' => by
              have := ShaR.refOf_any T w' (by omega)
              rw [hD] at this
              exact this
            have HT := Lib.hid hT
            have HTL := Lib.hid hTl
            clear a3 b3 hX3 hTl hD HA HX hcr
            go_wp2_with fail
            rw [← HT.out]
            refine (CS.out w3 (Reg.Ext.refl _)).mono ?_
            rintro e w4 ⟨rfl, x4⟩
            have A4 := Lib.hid (A3.out.ext x4)
            have X4 := Lib.hid (X3.out.trans x4)
            clear x4
            go_wp2_with fail
            rw [← HT.out]
            refine (CR.out w4).mono ?_
            rintro e w5 ⟨rfl, x5⟩
            have A5 := Lib.hid (A4.out.ext x5)
            have X5 := Lib.hid (X4.out.trans x5)
            have q := HE.out
            clear x5 A4 X4 A3 X3 CS CR hT hsz hTs
            go_wp2_with fail
            refine (len_any h _ _ T.size w5 A5.out).mono ?_
            rintro e w' ⟨rfl, rfl⟩
            clear q
            go_wp2_with fail
            exact ⟨⟨k + 1, by omega, by go_num, T, rfl, by show _ = _; rw [HTL.out, HCT.out], hT8, A5, X5⟩, by simp [intOf]; omega⟩
          · have d3 : decide ((4096 : Int) < (S.size : Int)) = true := by rw [decide_eq_true_iff]; omega
            clear hc0
            go_wp2_with fail
            go_ret
            exact ⟨rfl, HX.out⟩
        · have d2 : decide ((4096 : Int) < (s.size : Int)) = true := by rw [decide_eq_true_iff]; omega
          clear hc0
          go_wp2_with fail
          go_ret
          exact ⟨rfl, HX.out⟩
    · have d0 : decide ((k : Int) < (n : Int)) = false := by rw [decide_eq_false_iff_not]; omega
      have hke : ss.take k = ss := List.take_of_length_le (by rw [HN.out]; omega)
      rw [hke] at HS
      obtain ⟨D, hD, hDl⟩ := sum_ex S.data.toList
      have HE := Lib.hid (equal_self hDl)
      have CO := of_any A n c ss wr HN.out hm (HR.out.below HX.out) (by rw [← HS.out, len_data]; omega) (HK.out.ext HX.out) (HST.out.ext HX.out)
      rw [← HS.out, hD] at CO
      have CO := Lib.hid CO
      have CR : Hid (∀ w', Calls Tryd.prog 10 #[.string S] w' fun e w'' => e = .returned (.agg (D.map byteV).toArray) ∧ Reg.Ext w' w'') := fun w' => by
        have := ShaR.refOf_any S w' (by omega)
        rw [hD] at this
        exact this
      clear hD hke
      go_wp2_with fail
      refine (CO.out).mono ?_
      rintro e w4 ⟨rfl, x4⟩
      have X4 := Lib.hid (HX.out.trans x4)
      clear x4
      go_wp2_with fail
      refine (CR.out w4).mono ?_
      rintro e w5 ⟨rfl, x5⟩
      have X5 := Lib.hid (X4.out.trans x5)
      have q := HE.out
      clear x5
      go_wp2_with fail
      go_ret
      exact ⟨rfl, X5.out⟩
end Sha
end Go.Proofs.YthgbhpeidngjmaaDoor

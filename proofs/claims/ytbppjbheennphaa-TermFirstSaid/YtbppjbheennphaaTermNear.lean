/- Package term: Nearest; the document's; the law TermNearest. -/
import Derived.Test.YtbppjbheennphaaTermAwake
set_option linter.unusedSimpArgs false
set_option linter.unusedVariables false
set_option linter.unusedSectionVars false
namespace Go.Proofs.Ytbppjbheennphaa
open Go.RowKit
namespace FloatP
theorem clean_lt {b : Nat} (hb : b < 18446744073709551616) : clean b < 18446744073709551616 := by
  unfold clean; split
  · decide
  · split
    · decide
    · exact hb
theorem near1_no {o x : Nat} (h : good x = false) : near1 o x = o := by unfold near1; rw [h]; rfl
theorem near1_yes {o x : Nat} (h : good x = true) (h2 : less (clean x) o = true) : near1 o x = clean x := by unfold near1; rw [h, h2]; rfl
theorem near1_stay {o x : Nat} (h : good x = true) (h2 : less (clean x) o = false) : near1 o x = o := by unfold near1; rw [h, h2]; rfl
end FloatP
namespace Trm
open FloatP Flt
attribute [local go_sem] call_bits call_from unary_neg_float
set_option maxHeartbeats 2000000 in
theorem nearest_any (A : Option Addr) (n c : Nat) (l : List Nat) (w : World) (hn : l.length = n) (hm : n ≤ 60) (hr : Rd w A (l.map fV)) (hl : ∀ b ∈ l, b < 18446744073709551616) :
    Calls Try.prog 16 #[.slice A n c] w fun e w' => e = .returned (.float .f64 (nearest l)) ∧ w = w' := by
  have HN := Lib.hid hn
  have HR := Lib.hid hr
  have HL := Lib.hid hl
  clear hn hr hl
  go_enter Try.func16, Try.ntmps16
  go_wp2_with fail
  refine (ratio_top w).mono ?_
  rintro e w' ⟨rfl, rfl⟩
  go_wp2_with fail
  go_loopw [3, 5, 9] (fun out _ i wr => ∃ k o : Nat, k ≤ n ∧ out = .float .f64 o ∧ i = .int .i64 k ∧ Hid (o = nearest (l.take k) ∧ o ≤ INF) ∧ w = wr) (fun _ _ i _ => n - (intOf i).toNat)
  case atStart => exact ⟨0, 9218868437227405312, Nat.zero_le _, rfl, rfl, ⟨rfl, Nat.le_refl _⟩, rfl⟩
  case round =>
    obtain ⟨k, o, hk, rfl, rfl, HO, rfl⟩ := hrel
    by_cases hkn : k < n
    · have hkl : k < l.length := by rw [HN.out]; exact hkn
      obtain ⟨ad, rfl, hb, hc⟩ := HR.out k (by simpa using hkl)
      have hc' : w.cell? (ad.add k) = some (.float .f64 l[k]) := by simpa [fV] using hc
      have hlk := HL.out l[k] (List.getElem_mem hkl)
      have hd9 : decide ((k : Int) < (n : Int)) = true := by rw [decide_eq_true_iff]; omega
      have hnx : nearest (l.take (k + 1)) = near1 o l[k] := by
        rw [List.take_succ_eq_append_getElem hkl, nearest_snoc, ← HO.out.1]
      have hni : nearest (l.take (k + 1)) ≤ INF := nearest_le _ fun x hx => HL.out x (List.mem_of_mem_take hx)
      have hol := Lib.hid (show o < 18446744073709551616 by have := HO.out.2; unfold INF at this; omega)
      clear hc hb
      generalize l[k] = b at *
      have HCL := Lib.hid (clean_lt hlk)
      cases hg : good b with
      | false =>
        have HO2 : Hid (o = nearest (l.take (k + 1)) ∧ o ≤ INF) := ⟨by rw [hnx, near1_no hg], HO.out.2⟩
        clear hnx hni
        go_wp2_with fail
        refine (good_any b w hlk).mono ?_
        rintro e w' ⟨rfl, rfl⟩
        rw [hg]
        clear hg
        go_wp2_with fail
        go_roundw
        case rel => exact ⟨k + 1, _, by omega, rfl, by go_num, HO2, trivial⟩
        case measure => simp [intOf]; omega
      | true =>
        cases hls : less (clean b) o with
        | false =>
          have HO2 : Hid (o = nearest (l.take (k + 1)) ∧ o ≤ INF) := ⟨by rw [hnx, near1_stay hg hls], HO.out.2⟩
          clear hnx hni
          go_wp2_with fail
          refine (good_any b w hlk).mono ?_
          rintro e w' ⟨rfl, rfl⟩
          rw [hg]
          clear hg
          go_wp2_with fail
          refine (clean_any b w hlk).mono ?_
          rintro e w' ⟨rfl, rfl⟩
          go_wp2_with fail
          refine (less_any _ _ w HCL.out hol.out).mono ?_
          rintro e w' ⟨rfl, rfl⟩
          rw [hls]
          clear hls
          go_wp2_with fail
          go_roundw
          case rel => exact ⟨k + 1, _, by omega, rfl, by go_num, HO2, trivial⟩
          case measure => simp [intOf]; omega
        | true =>
          have HO2 : Hid (clean b = nearest (l.take (k + 1)) ∧ clean b ≤ INF) := ⟨by rw [hnx, near1_yes hg hls], by rw [hnx, near1_yes hg hls] at hni; exact hni⟩
          clear hnx hni
          go_wp2_with fail
          refine (good_any b w hlk).mono ?_
          rintro e w' ⟨rfl, rfl⟩
          rw [hg]
          clear hg
          go_wp2_with fail
          refine (clean_any b w hlk).mono ?_
          rintro e w' ⟨rfl, rfl⟩
          go_wp2_with fail
          refine (less_any _ _ w HCL.out hol.out).mono ?_
          rintro e w' ⟨rfl, rfl⟩
          rw [hls]
          clear hls
          go_wp2_with fail
          refine (clean_any b w hlk).mono ?_
          rintro e w' ⟨rfl, rfl⟩
          go_wp2_with fail
          go_roundw
          case rel => exact ⟨k + 1, _, by omega, rfl, by go_num, HO2, trivial⟩
          case measure => simp [intOf]; omega
    · have hd9 : decide ((k : Int) < (n : Int)) = false := by rw [decide_eq_false_iff_not]; omega
      have hA := HO.out.1
      rw [List.take_of_length_le (by rw [HN.out]; omega)] at hA
      have HV := Lib.hid hA
      clear hA
      go_wp2_with fail
      go_ret
      exact ⟨by rw [← HV.out]; rfl, rfl⟩
theorem top_any (w : World) : Calls Try.prog 35 #[.int .i64 1, .int .i64 0] w fun e w' => e = .returned (.float .f64 9218868437227405312) ∧ w = w' := by
  go_enter Try.func35, Try.ntmps35
  go_wp2_with fail
  go_ret
  exact ⟨rfl, rfl⟩
set_option maxHeartbeats 2000000 in
theorem nearestR_any (A : Option Addr) (n c : Nat) (l : List Nat) (w : World) (hn : l.length = n) (hm : n ≤ 60) (hr : Rd w A (l.map fV)) (hl : ∀ b ∈ l, b < 18446744073709551616) :
    Calls Try.prog 17 #[.slice A n c] w fun e w' => e = .returned (.float .f64 (nearest l)) ∧ w = w' := by
  have HN := Lib.hid hn
  have HR := Lib.hid hr
  have HL := Lib.hid hl
  clear hn hr hl
  go_enter Try.func17, Try.ntmps17
  go_wp2_with fail
  refine (top_any w).mono ?_
  rintro e w' ⟨rfl, rfl⟩
  go_wp2_with fail
  go_loopw [3, 4] (fun out i wr => ∃ k o : Nat, k ≤ n ∧ out = .float .f64 o ∧ i = .int .i64 k ∧ Hid (o = nearest (l.take k) ∧ o ≤ INF) ∧ w = wr) (fun _ i _ => n - (intOf i).toNat)
  case atStart => exact ⟨0, 9218868437227405312, Nat.zero_le _, rfl, rfl, ⟨rfl, Nat.le_refl _⟩, rfl⟩
  case round =>
    obtain ⟨k, o, hk, rfl, rfl, HO, rfl⟩ := hrel
    by_cases hkn : k < n
    · have hkl : k < l.length := by rw [HN.out]; exact hkn
      obtain ⟨ad, rfl, hb, hc⟩ := HR.out k (by simpa using hkl)
      have hc' : w.cell? (ad.add k) = some (.float .f64 l[k]) := by simpa [fV] using hc
      have hlk := HL.out l[k] (List.getElem_mem hkl)
      have hd9 : decide ((k : Int) < (n : Int)) = true := by rw [decide_eq_true_iff]; omega
      have hnx : nearest (l.take (k + 1)) = near1 o l[k] := by
        rw [List.take_succ_eq_append_getElem hkl, nearest_snoc, ← HO.out.1]
      have hni : nearest (l.take (k + 1)) ≤ INF := nearest_le _ fun x hx => HL.out x (List.mem_of_mem_take hx)
      have hol := Lib.hid (show o < 18446744073709551616 by have := HO.out.2; unfold INF at this; omega)
      clear hc hb
      generalize l[k] = b at *
      have HCL := Lib.hid (clean_lt hlk)
      cases hg : good b with
      | false =>
        have HO2 : Hid (o = nearest (l.take (k + 1)) ∧ o ≤ INF) := ⟨by rw [hnx, near1_no hg], HO.out.2⟩
        clear hnx hni
        go_wp2_with fail
        refine (goodR_any b w hlk).mono ?_
        rintro e w' ⟨rfl, rfl⟩
        rw [hg]
        clear hg
        go_wp2_with fail
        go_roundw
        case rel => exact ⟨k + 1, _, by omega, rfl, by go_num, HO2, trivial⟩
        case measure => simp [intOf]; omega
      | true =>
        cases hls : less (clean b) o with
        | false =>
          have HO2 : Hid (o = nearest (l.take (k + 1)) ∧ o ≤ INF) := ⟨by rw [hnx, near1_stay hg hls], HO.out.2⟩
          clear hnx hni
          go_wp2_with fail
          refine (goodR_any b w hlk).mono ?_
          rintro e w' ⟨rfl, rfl⟩
          rw [hg]
          clear hg
          go_wp2_with fail
          refine (cleanR_any b w hlk).mono ?_
          rintro e w' ⟨rfl, rfl⟩
          go_wp2_with fail
          refine (lessR_any _ _ w HCL.out hol.out).mono ?_
          rintro e w' ⟨rfl, rfl⟩
          rw [hls]
          clear hls
          go_wp2_with fail
          go_roundw
          case rel => exact ⟨k + 1, _, by omega, rfl, by go_num, HO2, trivial⟩
          case measure => simp [intOf]; omega
        | true =>
          have HO2 : Hid (clean b = nearest (l.take (k + 1)) ∧ clean b ≤ INF) := ⟨by rw [hnx, near1_yes hg hls], by rw [hnx, near1_yes hg hls] at hni; exact hni⟩
          clear hnx hni
          go_wp2_with fail
          refine (goodR_any b w hlk).mono ?_
          rintro e w' ⟨rfl, rfl⟩
          rw [hg]
          clear hg
          go_wp2_with fail
          refine (cleanR_any b w hlk).mono ?_
          rintro e w' ⟨rfl, rfl⟩
          go_wp2_with fail
          refine (lessR_any _ _ w HCL.out hol.out).mono ?_
          rintro e w' ⟨rfl, rfl⟩
          rw [hls]
          clear hls
          go_wp2_with fail
          refine (cleanR_any b w hlk).mono ?_
          rintro e w' ⟨rfl, rfl⟩
          go_wp2_with fail
          go_roundw
          case rel => exact ⟨k + 1, _, by omega, rfl, by go_num, HO2, trivial⟩
          case measure => simp [intOf]; omega
    · have hd9 : decide ((k : Int) < (n : Int)) = false := by rw [decide_eq_false_iff_not]; omega
      have hA := HO.out.1
      rw [List.take_of_length_le (by rw [HN.out]; omega)] at hA
      have HV := Lib.hid hA
      clear hA
      go_wp2_with fail
      go_ret
      exact ⟨by rw [← HV.out]; rfl, rfl⟩
set_option maxHeartbeats 2000000 in
theorem nearest_law (A : Option Addr) (n c : Nat) (l : List Nat) (w : World) (hn : l.length = n) (hr : Rd w A (l.map fV)) (hl : ∀ b ∈ l, b < 18446744073709551616) :
    Calls Try.prog 5 #[.slice A n c] w fun e w' => e = .returned (.bool true) ∧ Reg.Ext w w' := by
  have HN := Lib.hid hn
  have HR := Lib.hid hr
  have HL := Lib.hid hl
  clear hn hr hl
  go_enter Try.func5, Try.ntmps5
  go_wp2_with fail
  refine (awake_any w).mono ?_
  rintro e w1 ⟨rfl, x1⟩
  have HR1 := Lib.hid (Rd.below HR.out x1)
  have X1 := Lib.hid x1
  clear x1
  by_cases hm : n ≤ 60
  · have d1 : decide ((60 : Int) < (n : Int)) = false := by rw [decide_eq_false_iff_not]; omega
    go_wp2_with fail
    refine (nearest_any A n c l w1 HN.out hm HR1.out HL.out).mono ?_
    rintro e w2 ⟨rfl, rfl⟩
    go_wp2_with fail
    refine (nearestR_any A n c l w1 HN.out hm HR1.out HL.out).mono ?_
    rintro e w2 ⟨rfl, rfl⟩
    go_wp2_with fail
    refine (alikeR_same _ w1).mono ?_
    rintro e w2 ⟨rfl, rfl⟩
    go_wp2_with fail
    go_ret
    exact ⟨rfl, X1.out⟩
  · have d1 : decide ((60 : Int) < (n : Int)) = true := by rw [decide_eq_true_iff]; omega
    go_wp2_with fail
    go_ret
    exact ⟨rfl, X1.out⟩
end Trm
end Go.Proofs.Ytbppjbheennphaa

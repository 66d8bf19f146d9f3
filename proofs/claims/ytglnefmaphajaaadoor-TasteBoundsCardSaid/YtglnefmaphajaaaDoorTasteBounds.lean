/- Chapter 17: great, TasteBounds, the walk. -/
import Derived.Test.YtglnefmaphajaaaDoorTasteK
set_option linter.unusedSimpArgs false
set_option linter.unusedVariables false
set_option linter.unusedSectionVars false
namespace Go.Proofs.YtglnefmaphajaaaDoor
open Go.RowKit
namespace Tst
open Fld
set_option maxRecDepth 100000 in
set_option maxHeartbeats 8000000 in
theorem great_any (A : Option Addr) (cap : Nat) (fs : List Fld) (w : World) (HF : Hid (Fl w A fs)) :
    Calls Tryd.prog 7 #[.slice A fs.length cap] w fun e w' => ∃ b, e = .returned (.bool b) ∧ w = w' ∧ (b = false → fs.length ≤ 40 ∧ ∀ f ∈ fs, f.1.size ≤ 1024 ∧ f.2.size ≤ 1024) := by
  go_enter Tryd.func7, Tryd.ntmps7
  by_cases hl : 40 < fs.length
  · have d0 : decide ((40 : Int) < (fs.length : Int)) = true := by rw [decide_eq_true_iff]; omega
    go_wp2_with fail
    go_ret
    exact ⟨true, rfl, rfl, fun h => by cases h⟩
  have d0 : decide ((40 : Int) < (fs.length : Int)) = false := by rw [decide_eq_false_iff_not]; omega
  go_wp2_with fail
  go_loopw [3] (fun i wr => ∃ k : Nat, i = .int .i64 (k : Int) ∧ k ≤ fs.length ∧ Hid (∀ f ∈ fs.take k, f.1.size ≤ 1024 ∧ f.2.size ≤ 1024) ∧ w = wr) (fun i _ => fs.length - (intOf i).toNat)
  case atStart => exact ⟨0, rfl, Nat.zero_le _, Lib.hid (fun f hf => by cases hf), rfl⟩
  case round =>
    obtain ⟨k, rfl, hk, HG, rfl⟩ := hrel
    by_cases hks : k < fs.length
    · obtain ⟨g, o, rfl, -, q1, q2⟩ := HF.out k hks
      have HT : Hid (fs[k].1.size ≤ 1024 → fs[k].2.size ≤ 1024 → ∀ f ∈ fs.take (k + 1), f.1.size ≤ 1024 ∧ f.2.size ≤ 1024) := fun h1 h2 f hf => by
        rw [List.take_succ_eq_append_getElem hks] at hf
        rcases List.mem_append.1 hf with hf | hf
        · exact HG.out f hf
        · rw [List.mem_singleton.1 hf]; exact ⟨h1, h2⟩
      generalize fs[k] = f at *
      by_cases h1 : 1024 < f.1.size
      · have d1 : decide ((1024 : Int) < (f.1.size : Int)) = true := by rw [decide_eq_true_iff]; omega
        go_wp2_with fail
        go_ret
        exact ⟨true, rfl, rfl, fun h => by cases h⟩
      have d1 : decide ((1024 : Int) < (f.1.size : Int)) = false := by rw [decide_eq_false_iff_not]; omega
      by_cases h2 : 1024 < f.2.size
      · have d2 : decide ((1024 : Int) < (f.2.size : Int)) = true := by rw [decide_eq_true_iff]; omega
        go_wp2_with fail
        go_ret
        exact ⟨true, rfl, rfl, fun h => by cases h⟩
      have d2 : decide ((1024 : Int) < (f.2.size : Int)) = false := by rw [decide_eq_false_iff_not]; omega
      have HG2 := Lib.hid (HT.out (by omega) (by omega))
      clear HT
      go_wp2_with fail
      go_roundw
      case rel => exact ⟨k + 1, by go_num, by omega, HG2, trivial⟩
      case measure => simp [intOf]; omega
    · have hke : k = fs.length := by omega
      subst hke
      have HG2 : Hid (∀ f ∈ fs, f.1.size ≤ 1024 ∧ f.2.size ≤ 1024) := by
        have := HG.out
        rwa [List.take_length] at this
      clear HG
      go_wp2_with fail
      go_ret
      exact ⟨false, rfl, rfl, fun _ => ⟨by omega, HG2.out⟩⟩
set_option maxRecDepth 100000 in
set_option maxHeartbeats 16000000 in
theorem bounds_law (A : Option Addr) (cap : Nat) (fs : List Fld) (B : Option Addr) (cp n : Nat) (ks : List ByteArray) (w : World) (hf : Fl w A fs) (hn : ks.length = n) (hrd : Rd w B (ks.map strV)) (hz : ∀ x ∈ ks, x.size ≤ maxLen) :
    Calls Tryd.prog 3 #[.slice A fs.length cap, .slice B n cp] w fun e w' => e = .returned (.bool true) ∧ Reg.Ext w w' := by
  subst hn
  have HF := Lib.hid hf
  have HK : Hid (Rd w B (scells ks)) := hrd
  have HZ : Hid (∀ x ∈ ks, x.size ≤ 9223372036854775807) := hz
  clear hf hrd hz
  go_enter Tryd.func3, Tryd.ntmps3
  go_wp2_with fail
  refine (awake_any w).mono ?_
  rintro e w1 ⟨rfl, x1⟩
  have X1 := Lib.hid x1
  clear x1
  go_wp2_with fail
  refine (great_any A cap fs w1 (Lib.hid (HF.out.ext X1.out))).mono ?_
  rintro e w2 ⟨b, rfl, rfl, hg⟩
  cases b with
  | true =>
    go_wp2_with fail
    go_ret
    exact ⟨rfl, X1.out⟩
  | false =>
  obtain ⟨hl40, hsz⟩ := hg rfl
  have HS : Hid (Sz fs) := ⟨by omega, fun f hf => by have := hsz f hf; omega⟩
  clear hg hl40 hsz
  by_cases hk20 : 20 < ks.length
  · have d1 : decide ((20 : Int) < (ks.length : Int)) = true := by rw [decide_eq_true_iff]; omega
    go_wp2_with fail
    go_ret
    exact ⟨rfl, X1.out⟩
  have d1 : decide ((20 : Int) < (ks.length : Int)) = false := by rw [decide_eq_false_iff_not]; omega
  have CB := fun w' (h : Reg.Ext w w') => Lib.hid (best_any A cap fs B cp ks w' (Lib.hid (HF.out.ext h)) HS (Lib.hid (HK.out.below h)) (by omega) HZ)
  have hba := best_at fs ks ks.length (Nat.le_refl _)
  have hlo := hba.lo
  have hhi := hba.hi
  have hok := hba.ok
  have hnone := hba.none
  have hsome := hba.some
  have htop := hba.top
  have hfirst := hba.first
  unfold bestP at CB
  clear hba
  generalize (stB fs ks ks.length).1 = bb at *
  generalize (stB fs ks ks.length).2 = m at *
  have HOK := Lib.hid hok
  have HTOP := Lib.hid htop
  have HFIRST := Lib.hid hfirst
  have HSOME := Lib.hid hsome
  clear hok htop hfirst hsome
  by_cases hb : bb = -1
  · obtain rfl := hnone hb
    subst hb
    clear hnone HSOME hhi hlo
    go_wp2_with fail
    refine (CB w1 X1.out).out.mono ?_
    rintro e w3 ⟨rfl, x3⟩
    have X3 := Lib.hid (X1.out.trans x3)
    clear x3 CB
    go_wp2_with fail
    go_loopw [7, 8] (fun i _ wr => ∃ k : Nat, i = .int .i64 (k : Int) ∧ k ≤ ks.length ∧ Hid (Reg.Ext w wr)) (fun i _ _ => ks.length - (intOf i).toNat)
    case atStart => exact ⟨0, rfl, Nat.zero_le _, X3⟩
    case round =>
      obtain ⟨k, rfl, hk, HX⟩ := hrel
      by_cases hks : k < ks.length
      · obtain ⟨ad1, ead, hcell⟩ := Rd.text (HK.out.below HX.out) hks
        first | subst ead | (injection ead with ead; subst ead)
        have hxk : ks[k]? = some ks[k] := List.getElem?_eq_getElem hks
        have hz := HZ.out _ (List.getElem_mem hks)
        have hqk := qk_at fs hxk
        clear hxk
        generalize ks[k] = x at *
        by_cases hx : 1024 < x.size
        · have d5 : decide ((1024 : Int) < (x.size : Int)) = true := by rw [decide_eq_true_iff]; omega
          go_wp2_with fail
          go_ret
          exact ⟨rfl, HX.out⟩
        have d5 : decide ((1024 : Int) < (x.size : Int)) = false := by rw [decide_eq_false_iff_not]; omega
        have CQ := fun w' (h : Reg.Ext w w') => Lib.hid (quality_any A cap fs x w' (Lib.hid (HF.out.ext h)) HS hz)
        rw [← hqk] at CQ
        have okq := okQ_qk fs ks k
        have g1 := gt_key okq okQ_one
        have g2 := gt_key okq HOK.out
        have g3 := eq_key okq HOK.out
        have htop := HTOP.out k hks
        have hfirst := HFIRST.out k
        have hone := okq.k
        rw [decide_eq_false (by omega)] at g1 g2
        have hcl := okq.c
        have hqb := okq.b
        generalize qk fs ks k = q at *
        clear okq hone hqk hz htop
        have g1' : (FloatKind.f64.format.order q 4607182418800017408 == some .gt) = false := g1
        have g2' : (FloatKind.f64.format.order q 0 == some .gt) = false := g2
        have CC := fun w => Lib.hid (Flt.class_any q w hqb)
        rcases hcl with c5 | c6
        · rw [c5] at CC
          clear c5 hqb
          go_wp2_with fail
          refine (CQ wr HX.out).out.mono ?_
          rintro e w5 ⟨rfl, x5⟩
          have HX5 := Lib.hid (HX.out.trans x5)
          clear x5 HX CQ hcell g1 g2
          go_wp2_with fail
          refine (CC w5).out.mono ?_
          rintro e w6 ⟨rfl, rfl⟩
          have HX6 := Lib.hid HX5.out
          by_cases hkb : (k : Int) < (-1)
          · have d7 : decide ((k : Int) < (-1)) = true := by rw [decide_eq_true_iff]; exact hkb
            have hne := hfirst hkb
            rw [decide_eq_false (by omega)] at g3
            have g3' : (FloatKind.f64.format.order q 0 == some .eq) = false := g3
            have hkb2 := hkb
            try rw [Int.ofNat_lt] at hkb2
            clear hfirst hne g3
            go_wp2_with fail
            go_roundw
            case rel => exact ⟨k + 1, by go_num, by omega, HX6⟩
            case measure => simp [intOf]; omega
          · have d7 : decide ((k : Int) < (-1)) = false := by rw [decide_eq_false_iff_not]; exact hkb
            have hkb2 := hkb
            try rw [Int.ofNat_lt] at hkb2
            clear hfirst g3
            go_wp2_with fail
            go_roundw
            case rel => exact ⟨k + 1, by go_num, by omega, HX6⟩
            case measure => simp [intOf]; omega
        · rw [c6] at CC
          clear c6 hqb
          go_wp2_with fail
          refine (CQ wr HX.out).out.mono ?_
          rintro e w5 ⟨rfl, x5⟩
          have HX5 := Lib.hid (HX.out.trans x5)
          clear x5 HX CQ hcell g1 g2
          go_wp2_with fail
          refine (CC w5).out.mono ?_
          rintro e w6 ⟨rfl, rfl⟩
          go_wp2_with fail
          refine (CC _).out.mono ?_
          rintro e w6 ⟨rfl, rfl⟩
          have HX6 := Lib.hid HX5.out
          by_cases hkb : (k : Int) < (-1)
          · have d7 : decide ((k : Int) < (-1)) = true := by rw [decide_eq_true_iff]; exact hkb
            have hne := hfirst hkb
            rw [decide_eq_false (by omega)] at g3
            have g3' : (FloatKind.f64.format.order q 0 == some .eq) = false := g3
            have hkb2 := hkb
            try rw [Int.ofNat_lt] at hkb2
            clear hfirst hne g3
            go_wp2_with fail
            go_roundw
            case rel => exact ⟨k + 1, by go_num, by omega, HX6⟩
            case measure => simp [intOf]; omega
          · have d7 : decide ((k : Int) < (-1)) = false := by rw [decide_eq_false_iff_not]; exact hkb
            have hkb2 := hkb
            try rw [Int.ofNat_lt] at hkb2
            clear hfirst g3
            go_wp2_with fail
            go_roundw
            case rel => exact ⟨k + 1, by go_num, by omega, HX6⟩
            case measure => simp [intOf]; omega
      · have hke : k = ks.length := by omega
        subst hke
        go_wp2_with fail
        go_ret
        exact ⟨rfl, HX.out⟩
  · obtain ⟨j, rfl⟩ : ∃ j : Nat, bb = (j : Int) := ⟨bb.toNat, by omega⟩
    obtain ⟨hmq, hmk⟩ := HSOME.out j rfl
    have hjn : j < ks.length := by omega
    obtain ⟨ad, rfl, hcell0⟩ := Rd.text HK.out hjn
    have hxj : ks[j]? = some ks[j] := List.getElem?_eq_getElem hjn
    have hzj := HZ.out _ (List.getElem_mem hjn)
    have hqj := qk_at fs hxj
    have CJ := fun w' (h : Reg.Ext w w') => Lib.hid (quality_any A cap fs ks[j] w' (Lib.hid (HF.out.ext h)) HS hzj)
    rw [← hqj, ← hmq] at CJ
    clear hxj hqj
    generalize ks[j] = xj at *
    have e0 := eq_key HOK.out okQ_zero
    rw [FloatP.key_zero, decide_eq_false (by omega)] at e0
    have e0' : (FloatKind.f64.format.order m 0 == some .eq) = false := e0
    have HC0 := Lib.hid hcell0
    clear hmq hmk hzj HSOME hnone hb hlo hhi hcell0 e0
    have d8 : decide ((j : Int) < -1) = false := by rw [decide_eq_false_iff_not]; omega
    go_wp2_with fail
    refine (CB w1 X1.out).out.mono ?_
    rintro e w3 ⟨rfl, x3⟩
    have X3 := Lib.hid (X1.out.trans x3)
    have hcell1 := X3.out.at_ HC0.out
    clear x3 CB
    go_wp2_with fail
    refine (CJ w3 X3.out).out.mono ?_
    rintro e w4 ⟨rfl, x4⟩
    have X4 := Lib.hid (X3.out.trans x4)
    clear x4 CJ hcell1 HC0
    go_wp2_with fail
    go_loopw [7, 8] (fun i _ wr => ∃ k : Nat, i = .int .i64 (k : Int) ∧ k ≤ ks.length ∧ Hid (Reg.Ext w wr)) (fun i _ _ => ks.length - (intOf i).toNat)
    case atStart => exact ⟨0, rfl, Nat.zero_le _, X4⟩
    case round =>
      obtain ⟨k, rfl, hk, HX⟩ := hrel
      by_cases hks : k < ks.length
      · obtain ⟨ad1, ead, hcell⟩ := Rd.text (HK.out.below HX.out) hks
        first | subst ead | (injection ead with ead; subst ead)
        have hxk : ks[k]? = some ks[k] := List.getElem?_eq_getElem hks
        have hz := HZ.out _ (List.getElem_mem hks)
        have hqk := qk_at fs hxk
        clear hxk
        generalize ks[k] = x at *
        by_cases hx : 1024 < x.size
        · have d5 : decide ((1024 : Int) < (x.size : Int)) = true := by rw [decide_eq_true_iff]; omega
          go_wp2_with fail
          go_ret
          exact ⟨rfl, HX.out⟩
        have d5 : decide ((1024 : Int) < (x.size : Int)) = false := by rw [decide_eq_false_iff_not]; omega
        have CQ := fun w' (h : Reg.Ext w w') => Lib.hid (quality_any A cap fs x w' (Lib.hid (HF.out.ext h)) HS hz)
        rw [← hqk] at CQ
        have okq := okQ_qk fs ks k
        have g1 := gt_key okq okQ_one
        have g2 := gt_key okq HOK.out
        have g3 := eq_key okq HOK.out
        have htop := HTOP.out k hks
        have hfirst := HFIRST.out k
        have hone := okq.k
        rw [decide_eq_false (by omega)] at g1 g2
        have hcl := okq.c
        have hqb := okq.b
        generalize qk fs ks k = q at *
        clear okq hone hqk hz htop
        have g1' : (FloatKind.f64.format.order q 4607182418800017408 == some .gt) = false := g1
        have g2' : (FloatKind.f64.format.order q m == some .gt) = false := g2
        have CC := fun w => Lib.hid (Flt.class_any q w hqb)
        rcases hcl with c5 | c6
        · rw [c5] at CC
          clear c5 hqb
          go_wp2_with fail
          refine (CQ wr HX.out).out.mono ?_
          rintro e w5 ⟨rfl, x5⟩
          have HX5 := Lib.hid (HX.out.trans x5)
          clear x5 HX CQ hcell g1 g2
          go_wp2_with fail
          refine (CC w5).out.mono ?_
          rintro e w6 ⟨rfl, rfl⟩
          have HX6 := Lib.hid HX5.out
          by_cases hkb : (k : Int) < (j : Int)
          · have d7 : decide ((k : Int) < (j : Int)) = true := by rw [decide_eq_true_iff]; exact hkb
            have hne := hfirst hkb
            rw [decide_eq_false (by omega)] at g3
            have g3' : (FloatKind.f64.format.order q m == some .eq) = false := g3
            have hkb2 := hkb
            try rw [Int.ofNat_lt] at hkb2
            clear hfirst hne g3
            go_wp2_with fail
            go_roundw
            case rel => exact ⟨k + 1, by go_num, by omega, HX6⟩
            case measure => simp [intOf]; omega
          · have d7 : decide ((k : Int) < (j : Int)) = false := by rw [decide_eq_false_iff_not]; exact hkb
            have hkb2 := hkb
            try rw [Int.ofNat_lt] at hkb2
            clear hfirst g3
            go_wp2_with fail
            go_roundw
            case rel => exact ⟨k + 1, by go_num, by omega, HX6⟩
            case measure => simp [intOf]; omega
        · rw [c6] at CC
          clear c6 hqb
          go_wp2_with fail
          refine (CQ wr HX.out).out.mono ?_
          rintro e w5 ⟨rfl, x5⟩
          have HX5 := Lib.hid (HX.out.trans x5)
          clear x5 HX CQ hcell g1 g2
          go_wp2_with fail
          refine (CC w5).out.mono ?_
          rintro e w6 ⟨rfl, rfl⟩
          go_wp2_with fail
          refine (CC _).out.mono ?_
          rintro e w6 ⟨rfl, rfl⟩
          have HX6 := Lib.hid HX5.out
          by_cases hkb : (k : Int) < (j : Int)
          · have d7 : decide ((k : Int) < (j : Int)) = true := by rw [decide_eq_true_iff]; exact hkb
            have hne := hfirst hkb
            rw [decide_eq_false (by omega)] at g3
            have g3' : (FloatKind.f64.format.order q m == some .eq) = false := g3
            have hkb2 := hkb
            try rw [Int.ofNat_lt] at hkb2
            clear hfirst hne g3
            go_wp2_with fail
            go_roundw
            case rel => exact ⟨k + 1, by go_num, by omega, HX6⟩
            case measure => simp [intOf]; omega
          · have d7 : decide ((k : Int) < (j : Int)) = false := by rw [decide_eq_false_iff_not]; exact hkb
            have hkb2 := hkb
            try rw [Int.ofNat_lt] at hkb2
            clear hfirst g3
            go_wp2_with fail
            go_roundw
            case rel => exact ⟨k + 1, by go_num, by omega, HX6⟩
            case measure => simp [intOf]; omega
      · have hke : k = ks.length := by omega
        subst hke
        go_wp2_with fail
        go_ret
        exact ⟨rfl, HX.out⟩
end Tst
end Go.Proofs.YtglnefmaphajaaaDoor

/- Chapter 15: PlaceNames. -/
import Derived.Test.YtdoplndijlfabaaDoorPlaceAwake
import Derived.Test.YtdoplndijlfabaaDoorPlaceLaws
set_option linter.unusedSimpArgs false
set_option linter.unusedVariables false
set_option linter.unusedSectionVars false
namespace Go.Proofs.YtdoplndijlfabaaDoor
open Go.RowKit
namespace Pl
open Rte
theorem repo_cc (s : ByteArray) (b : Bool) (h : repoP s.data.toList = b) (hs : s.size ≤ 274877906944) (w : World) :
    Calls Tryd.prog 11 #[.string s] w fun e w' => e = .returned (.bool b) ∧ Reg.Ext w w' := by
  have := repo_any s w
  rw [h] at this
  exact this
theorem tag_cc (s : ByteArray) (b : Bool) (h : tagP s.data.toList = b) (hs : s.size ≤ 274877906944) (w : World) :
    Calls Tryd.prog 13 #[.string s] w fun e w' => e = .returned (.bool b) ∧ Reg.Ext w w' := by
  have := tag_any s w
  rw [h] at this
  exact this
set_option maxRecDepth 100000 in
set_option maxHeartbeats 80000000 in
theorem names_law (a b : ByteArray) (w : World) (ha : a.size ≤ maxLen) (hb : b.size ≤ maxLen) :
    Calls Tryd.prog 6 #[.string a, .string b] w fun e w' => e = .returned (.bool true) ∧ Reg.Ext w w' := by
  unfold maxLen at ha hb
  go_enter Tryd.func6, Tryd.ntmps6
  go_wp2_with fail
  refine (awake_any w).mono ?_
  rintro e w1 ⟨rfl, x1⟩
  have Y1 := Lib.hid x1
  clear x1
  by_cases hal : 1024 < a.size
  · have da : decide ((1024 : Int) < (a.size : Int)) = true := by rw [decide_eq_true_iff]; omega
    go_wp2_with fail
    go_ret
    exact ⟨rfl, Y1.out⟩
  have d1 : decide ((1024 : Int) < (a.size : Int)) = false := by rw [decide_eq_false_iff_not]; omega
  by_cases hbl : 1024 < b.size
  · have db : decide ((1024 : Int) < (b.size : Int)) = true := by rw [decide_eq_true_iff]; omega
    go_wp2_with fail
    go_ret
    exact ⟨rfl, Y1.out⟩
  have d2 : decide ((1024 : Int) < (b.size : Int)) = false := by rw [decide_eq_false_iff_not]; omega
  have R1 : ∀ w, Calls Tryd.prog 11 #[.string (a ++ ⟨#[47, 47]⟩ ++ b)] w fun e w' => e = .returned (.bool false) ∧ Reg.Ext w w' := repo_cc _ _ (by
    rw [ByteArray.data_append, ByteArray.data_append, Array.toList_append, Array.toList_append]; exact repo_two _ _) (by rw [ByteArray.size_append, ByteArray.size_append]; show a.size + 2 + b.size ≤ _; omega)
  have R2 : ∀ w, Calls Tryd.prog 11 #[.string (a ++ ⟨#[47]⟩)] w fun e w' => e = .returned (.bool false) ∧ Reg.Ext w w' := repo_cc _ _ (by
    rw [ByteArray.data_append, Array.toList_append]; exact repo_end _) (by rw [ByteArray.size_append]; show a.size + 1 ≤ _; omega)
  have R3 : ∀ w, Calls Tryd.prog 11 #[.string (⟨#[47]⟩ ++ b)] w fun e w' => e = .returned (.bool false) ∧ Reg.Ext w w' := repo_cc _ _ (by
    rw [ByteArray.data_append, Array.toList_append]; exact repo_start _) (by rw [ByteArray.size_append]; show 1 + b.size ≤ _; omega)
  have R4 : ∀ w, Calls Tryd.prog 13 #[.string (a ++ ⟨#[47]⟩ ++ b)] w fun e w' => e = .returned (.bool false) ∧ Reg.Ext w w' := tag_cc _ _ (by
    rw [ByteArray.data_append, ByteArray.data_append, Array.toList_append, Array.toList_append]; exact tag_no _ _) (by rw [ByteArray.size_append, ByteArray.size_append]; show a.size + 1 + b.size ≤ _; omega)
  by_cases hl : a.size + b.size < 128
  · have d4 : decide (((a.size : Int) + (b.size : Int)) < 128) = true := by rw [decide_eq_true_iff]; omega
    have hcat : repoP (a ++ ⟨#[47]⟩ ++ b).data.toList = (repoP a.data.toList && repoP b.data.toList) := by
      rw [ByteArray.data_append, ByteArray.data_append, Array.toList_append, Array.toList_append, show a.data.toList ++ (⟨#[47]⟩ : ByteArray).data.toList ++ b.data.toList = a.data.toList ++ 47 :: b.data.toList by simp, repo_cat _ _ (by rw [len_data, len_data]; omega)]
    have hsz : (a ++ ⟨#[47]⟩ ++ b).size ≤ 274877906944 := by rw [ByteArray.size_append, ByteArray.size_append]; show a.size + 1 + b.size ≤ _; omega
    have CR := fun v (h : (repoP a.data.toList && repoP b.data.toList) = v) => repo_cc _ v (hcat.trans h) hsz
    cases ra : repoP a.data.toList with
    | false =>
      have CA : ∀ w, Calls Tryd.prog 11 #[.string a] w fun e w' => e = .returned (.bool false) ∧ Reg.Ext w w' := repo_cc a _ ra (by omega)
      have RS := CR false (by rw [ra, Bool.false_and])
      clear hcat CR ra hsz
      go_wp2_with fail
      refine (CA w1).mono ?_
      rintro e w2 ⟨rfl, x2⟩
      have Y2 := Lib.hid (Y1.out.trans x2)
      clear x2 Y1
      go_wp2_with fail
      refine (RS w2).mono ?_
      rintro e w71 ⟨rfl, x71⟩
      have Y71 := Lib.hid (Y2.out.trans x71)
      clear x71 Y2
      go_wp2_with fail
      refine (R1 w71).mono ?_
      rintro e w81 ⟨rfl, x81⟩
      have Y81 := Lib.hid (Y71.out.trans x81)
      clear x81 Y71
      go_wp2_with fail
      refine (R2 w81).mono ?_
      rintro e w82 ⟨rfl, x82⟩
      have Y82 := Lib.hid (Y81.out.trans x82)
      clear x82 Y81
      go_wp2_with fail
      refine (R3 w82).mono ?_
      rintro e w83 ⟨rfl, x83⟩
      have Y83 := Lib.hid (Y82.out.trans x83)
      clear x83 Y82
      go_wp2_with fail
      refine (R4 w83).mono ?_
      rintro e w84 ⟨rfl, x84⟩
      have Y84 := Lib.hid (Y83.out.trans x84)
      clear x84 Y83
      go_wp2_with fail
      cases tb : tagP a.data.toList with
      | false =>
        have C1 : ∀ w, Calls Tryd.prog 13 #[.string a] w fun e w' => e = .returned (.bool false) ∧ Reg.Ext w w' := tag_cc a _ tb (by omega)
        clear tb
        refine (C1 w84).mono ?_
        rintro e w91 ⟨rfl, x91⟩
        have Y91 := Lib.hid (Y84.out.trans x91)
        clear x91 Y84
        go_wp2_with fail
        go_ret
        exact ⟨rfl, Y91.out⟩
      | true =>
        have C1 : ∀ w, Calls Tryd.prog 13 #[.string a] w fun e w' => e = .returned (.bool true) ∧ Reg.Ext w w' := tag_cc a _ tb (by omega)
        refine (C1 w84).mono ?_
        rintro e w91 ⟨rfl, x91⟩
        have Y91 := Lib.hid (Y84.out.trans x91)
        clear x91 Y84
        go_wp2_with fail
        cases tc : tagP b.data.toList with
        | false =>
          have C2 : ∀ w, Calls Tryd.prog 13 #[.string b] w fun e w' => e = .returned (.bool false) ∧ Reg.Ext w w' := tag_cc b _ tc (by omega)
          clear tb tc
          refine (C2 w91).mono ?_
          rintro e w92 ⟨rfl, x92⟩
          have Y92 := Lib.hid (Y91.out.trans x92)
          clear x92 Y91
          go_wp2_with fail
          go_ret
          exact ⟨rfl, Y92.out⟩
        | true =>
          have C2 : ∀ w, Calls Tryd.prog 13 #[.string b] w fun e w' => e = .returned (.bool true) ∧ Reg.Ext w w' := tag_cc b _ tc (by omega)
          by_cases hl : 128 < a.size + b.size
          · have d5 : decide ((128 : Int) < ((a.size : Int) + (b.size : Int))) = true := by rw [decide_eq_true_iff]; omega
            clear tb tc
            refine (C2 w91).mono ?_
            rintro e w92 ⟨rfl, x92⟩
            have Y92 := Lib.hid (Y91.out.trans x92)
            clear x92 Y91
            go_wp2_with fail
            go_ret
            exact ⟨rfl, Y92.out⟩
          · have d5 : decide ((128 : Int) < ((a.size : Int) + (b.size : Int))) = false := by rw [decide_eq_false_iff_not]; omega
            have C3 : ∀ w, Calls Tryd.prog 13 #[.string (a ++ b)] w fun e w' => e = .returned (.bool true) ∧ Reg.Ext w w' := tag_cc (a ++ b) _ (by rw [ByteArray.data_append, Array.toList_append]; exact tag_cat tb tc (by rw [len_data, len_data]; omega)) (by rw [ByteArray.size_append]; omega)
            clear tb tc
            refine (C2 w91).mono ?_
            rintro e w92 ⟨rfl, x92⟩
            have Y92 := Lib.hid (Y91.out.trans x92)
            clear x92 Y91
            go_wp2_with fail
            refine (C3 w92).mono ?_
            rintro e w93 ⟨rfl, x93⟩
            have Y93 := Lib.hid (Y92.out.trans x93)
            clear x93 Y92
            go_wp2_with fail
            go_ret
            exact ⟨rfl, Y93.out⟩
    | true =>
      have CA : ∀ w, Calls Tryd.prog 11 #[.string a] w fun e w' => e = .returned (.bool true) ∧ Reg.Ext w w' := repo_cc a _ ra (by omega)
      cases rb : repoP b.data.toList with
      | false =>
        have CB : ∀ w, Calls Tryd.prog 11 #[.string b] w fun e w' => e = .returned (.bool false) ∧ Reg.Ext w w' := repo_cc b _ rb (by omega)
        have RS := CR false (by rw [ra, rb, Bool.and_false])
        clear hcat CR ra rb hsz
        go_wp2_with fail
        refine (CA w1).mono ?_
        rintro e w2 ⟨rfl, x2⟩
        have Y2 := Lib.hid (Y1.out.trans x2)
        clear x2 Y1
        go_wp2_with fail
        refine (CB w2).mono ?_
        rintro e w3 ⟨rfl, x3⟩
        have Y3 := Lib.hid (Y2.out.trans x3)
        clear x3 Y2
        go_wp2_with fail
        refine (RS w3).mono ?_
        rintro e w71 ⟨rfl, x71⟩
        have Y71 := Lib.hid (Y3.out.trans x71)
        clear x71 Y3
        go_wp2_with fail
        refine (R1 w71).mono ?_
        rintro e w81 ⟨rfl, x81⟩
        have Y81 := Lib.hid (Y71.out.trans x81)
        clear x81 Y71
        go_wp2_with fail
        refine (R2 w81).mono ?_
        rintro e w82 ⟨rfl, x82⟩
        have Y82 := Lib.hid (Y81.out.trans x82)
        clear x82 Y81
        go_wp2_with fail
        refine (R3 w82).mono ?_
        rintro e w83 ⟨rfl, x83⟩
        have Y83 := Lib.hid (Y82.out.trans x83)
        clear x83 Y82
        go_wp2_with fail
        refine (R4 w83).mono ?_
        rintro e w84 ⟨rfl, x84⟩
        have Y84 := Lib.hid (Y83.out.trans x84)
        clear x84 Y83
        go_wp2_with fail
        cases tb : tagP a.data.toList with
        | false =>
          have C1 : ∀ w, Calls Tryd.prog 13 #[.string a] w fun e w' => e = .returned (.bool false) ∧ Reg.Ext w w' := tag_cc a _ tb (by omega)
          clear tb
          refine (C1 w84).mono ?_
          rintro e w91 ⟨rfl, x91⟩
          have Y91 := Lib.hid (Y84.out.trans x91)
          clear x91 Y84
          go_wp2_with fail
          go_ret
          exact ⟨rfl, Y91.out⟩
        | true =>
          have C1 : ∀ w, Calls Tryd.prog 13 #[.string a] w fun e w' => e = .returned (.bool true) ∧ Reg.Ext w w' := tag_cc a _ tb (by omega)
          refine (C1 w84).mono ?_
          rintro e w91 ⟨rfl, x91⟩
          have Y91 := Lib.hid (Y84.out.trans x91)
          clear x91 Y84
          go_wp2_with fail
          cases tc : tagP b.data.toList with
          | false =>
            have C2 : ∀ w, Calls Tryd.prog 13 #[.string b] w fun e w' => e = .returned (.bool false) ∧ Reg.Ext w w' := tag_cc b _ tc (by omega)
            clear tb tc
            refine (C2 w91).mono ?_
            rintro e w92 ⟨rfl, x92⟩
            have Y92 := Lib.hid (Y91.out.trans x92)
            clear x92 Y91
            go_wp2_with fail
            go_ret
            exact ⟨rfl, Y92.out⟩
          | true =>
            have C2 : ∀ w, Calls Tryd.prog 13 #[.string b] w fun e w' => e = .returned (.bool true) ∧ Reg.Ext w w' := tag_cc b _ tc (by omega)
            by_cases hl : 128 < a.size + b.size
            · have d5 : decide ((128 : Int) < ((a.size : Int) + (b.size : Int))) = true := by rw [decide_eq_true_iff]; omega
              clear tb tc
              refine (C2 w91).mono ?_
              rintro e w92 ⟨rfl, x92⟩
              have Y92 := Lib.hid (Y91.out.trans x92)
              clear x92 Y91
              go_wp2_with fail
              go_ret
              exact ⟨rfl, Y92.out⟩
            · have d5 : decide ((128 : Int) < ((a.size : Int) + (b.size : Int))) = false := by rw [decide_eq_false_iff_not]; omega
              have C3 : ∀ w, Calls Tryd.prog 13 #[.string (a ++ b)] w fun e w' => e = .returned (.bool true) ∧ Reg.Ext w w' := tag_cc (a ++ b) _ (by rw [ByteArray.data_append, Array.toList_append]; exact tag_cat tb tc (by rw [len_data, len_data]; omega)) (by rw [ByteArray.size_append]; omega)
              clear tb tc
              refine (C2 w91).mono ?_
              rintro e w92 ⟨rfl, x92⟩
              have Y92 := Lib.hid (Y91.out.trans x92)
              clear x92 Y91
              go_wp2_with fail
              refine (C3 w92).mono ?_
              rintro e w93 ⟨rfl, x93⟩
              have Y93 := Lib.hid (Y92.out.trans x93)
              clear x93 Y92
              go_wp2_with fail
              go_ret
              exact ⟨rfl, Y93.out⟩
      | true =>
        have CB : ∀ w, Calls Tryd.prog 11 #[.string b] w fun e w' => e = .returned (.bool true) ∧ Reg.Ext w w' := repo_cc b _ rb (by omega)
        have RS := CR true (by rw [ra, rb, Bool.and_true])
        clear hcat CR ra rb hsz
        go_wp2_with fail
        refine (CA w1).mono ?_
        rintro e w2 ⟨rfl, x2⟩
        have Y2 := Lib.hid (Y1.out.trans x2)
        clear x2 Y1
        go_wp2_with fail
        refine (CB w2).mono ?_
        rintro e w3 ⟨rfl, x3⟩
        have Y3 := Lib.hid (Y2.out.trans x3)
        clear x3 Y2
        go_wp2_with fail
        refine (RS w3).mono ?_
        rintro e w71 ⟨rfl, x71⟩
        have Y71 := Lib.hid (Y3.out.trans x71)
        clear x71 Y3
        go_wp2_with fail
        refine (R1 w71).mono ?_
        rintro e w81 ⟨rfl, x81⟩
        have Y81 := Lib.hid (Y71.out.trans x81)
        clear x81 Y71
        go_wp2_with fail
        refine (R2 w81).mono ?_
        rintro e w82 ⟨rfl, x82⟩
        have Y82 := Lib.hid (Y81.out.trans x82)
        clear x82 Y81
        go_wp2_with fail
        refine (R3 w82).mono ?_
        rintro e w83 ⟨rfl, x83⟩
        have Y83 := Lib.hid (Y82.out.trans x83)
        clear x83 Y82
        go_wp2_with fail
        refine (R4 w83).mono ?_
        rintro e w84 ⟨rfl, x84⟩
        have Y84 := Lib.hid (Y83.out.trans x84)
        clear x84 Y83
        go_wp2_with fail
        cases tb : tagP a.data.toList with
        | false =>
          have C1 : ∀ w, Calls Tryd.prog 13 #[.string a] w fun e w' => e = .returned (.bool false) ∧ Reg.Ext w w' := tag_cc a _ tb (by omega)
          clear tb
          refine (C1 w84).mono ?_
          rintro e w91 ⟨rfl, x91⟩
          have Y91 := Lib.hid (Y84.out.trans x91)
          clear x91 Y84
          go_wp2_with fail
          go_ret
          exact ⟨rfl, Y91.out⟩
        | true =>
          have C1 : ∀ w, Calls Tryd.prog 13 #[.string a] w fun e w' => e = .returned (.bool true) ∧ Reg.Ext w w' := tag_cc a _ tb (by omega)
          refine (C1 w84).mono ?_
          rintro e w91 ⟨rfl, x91⟩
          have Y91 := Lib.hid (Y84.out.trans x91)
          clear x91 Y84
          go_wp2_with fail
          cases tc : tagP b.data.toList with
          | false =>
            have C2 : ∀ w, Calls Tryd.prog 13 #[.string b] w fun e w' => e = .returned (.bool false) ∧ Reg.Ext w w' := tag_cc b _ tc (by omega)
            clear tb tc
            refine (C2 w91).mono ?_
            rintro e w92 ⟨rfl, x92⟩
            have Y92 := Lib.hid (Y91.out.trans x92)
            clear x92 Y91
            go_wp2_with fail
            go_ret
            exact ⟨rfl, Y92.out⟩
          | true =>
            have C2 : ∀ w, Calls Tryd.prog 13 #[.string b] w fun e w' => e = .returned (.bool true) ∧ Reg.Ext w w' := tag_cc b _ tc (by omega)
            by_cases hl : 128 < a.size + b.size
            · have d5 : decide ((128 : Int) < ((a.size : Int) + (b.size : Int))) = true := by rw [decide_eq_true_iff]; omega
              clear tb tc
              refine (C2 w91).mono ?_
              rintro e w92 ⟨rfl, x92⟩
              have Y92 := Lib.hid (Y91.out.trans x92)
              clear x92 Y91
              go_wp2_with fail
              go_ret
              exact ⟨rfl, Y92.out⟩
            · have d5 : decide ((128 : Int) < ((a.size : Int) + (b.size : Int))) = false := by rw [decide_eq_false_iff_not]; omega
              have C3 : ∀ w, Calls Tryd.prog 13 #[.string (a ++ b)] w fun e w' => e = .returned (.bool true) ∧ Reg.Ext w w' := tag_cc (a ++ b) _ (by rw [ByteArray.data_append, Array.toList_append]; exact tag_cat tb tc (by rw [len_data, len_data]; omega)) (by rw [ByteArray.size_append]; omega)
              clear tb tc
              refine (C2 w91).mono ?_
              rintro e w92 ⟨rfl, x92⟩
              have Y92 := Lib.hid (Y91.out.trans x92)
              clear x92 Y91
              go_wp2_with fail
              refine (C3 w92).mono ?_
              rintro e w93 ⟨rfl, x93⟩
              have Y93 := Lib.hid (Y92.out.trans x93)
              clear x93 Y92
              go_wp2_with fail
              go_ret
              exact ⟨rfl, Y93.out⟩
  · have d4 : decide (((a.size : Int) + (b.size : Int)) < 128) = false := by rw [decide_eq_false_iff_not]; omega
    cases ra : repoP a.data.toList with
    | false =>
      have CA : ∀ w, Calls Tryd.prog 11 #[.string a] w fun e w' => e = .returned (.bool false) ∧ Reg.Ext w w' := repo_cc a _ ra (by omega)
      clear ra
      go_wp2_with fail
      refine (CA w1).mono ?_
      rintro e w2 ⟨rfl, x2⟩
      have Y2 := Lib.hid (Y1.out.trans x2)
      clear x2 Y1
      go_wp2_with fail
      refine (R1 w2).mono ?_
      rintro e w81 ⟨rfl, x81⟩
      have Y81 := Lib.hid (Y2.out.trans x81)
      clear x81 Y2
      go_wp2_with fail
      refine (R2 w81).mono ?_
      rintro e w82 ⟨rfl, x82⟩
      have Y82 := Lib.hid (Y81.out.trans x82)
      clear x82 Y81
      go_wp2_with fail
      refine (R3 w82).mono ?_
      rintro e w83 ⟨rfl, x83⟩
      have Y83 := Lib.hid (Y82.out.trans x83)
      clear x83 Y82
      go_wp2_with fail
      refine (R4 w83).mono ?_
      rintro e w84 ⟨rfl, x84⟩
      have Y84 := Lib.hid (Y83.out.trans x84)
      clear x84 Y83
      go_wp2_with fail
      cases tb : tagP a.data.toList with
      | false =>
        have C1 : ∀ w, Calls Tryd.prog 13 #[.string a] w fun e w' => e = .returned (.bool false) ∧ Reg.Ext w w' := tag_cc a _ tb (by omega)
        clear tb
        refine (C1 w84).mono ?_
        rintro e w91 ⟨rfl, x91⟩
        have Y91 := Lib.hid (Y84.out.trans x91)
        clear x91 Y84
        go_wp2_with fail
        go_ret
        exact ⟨rfl, Y91.out⟩
      | true =>
        have C1 : ∀ w, Calls Tryd.prog 13 #[.string a] w fun e w' => e = .returned (.bool true) ∧ Reg.Ext w w' := tag_cc a _ tb (by omega)
        refine (C1 w84).mono ?_
        rintro e w91 ⟨rfl, x91⟩
        have Y91 := Lib.hid (Y84.out.trans x91)
        clear x91 Y84
        go_wp2_with fail
        cases tc : tagP b.data.toList with
        | false =>
          have C2 : ∀ w, Calls Tryd.prog 13 #[.string b] w fun e w' => e = .returned (.bool false) ∧ Reg.Ext w w' := tag_cc b _ tc (by omega)
          clear tb tc
          refine (C2 w91).mono ?_
          rintro e w92 ⟨rfl, x92⟩
          have Y92 := Lib.hid (Y91.out.trans x92)
          clear x92 Y91
          go_wp2_with fail
          go_ret
          exact ⟨rfl, Y92.out⟩
        | true =>
          have C2 : ∀ w, Calls Tryd.prog 13 #[.string b] w fun e w' => e = .returned (.bool true) ∧ Reg.Ext w w' := tag_cc b _ tc (by omega)
          by_cases hl : 128 < a.size + b.size
          · have d5 : decide ((128 : Int) < ((a.size : Int) + (b.size : Int))) = true := by rw [decide_eq_true_iff]; omega
            clear tb tc
            refine (C2 w91).mono ?_
            rintro e w92 ⟨rfl, x92⟩
            have Y92 := Lib.hid (Y91.out.trans x92)
            clear x92 Y91
            go_wp2_with fail
            go_ret
            exact ⟨rfl, Y92.out⟩
          · have d5 : decide ((128 : Int) < ((a.size : Int) + (b.size : Int))) = false := by rw [decide_eq_false_iff_not]; omega
            have C3 : ∀ w, Calls Tryd.prog 13 #[.string (a ++ b)] w fun e w' => e = .returned (.bool true) ∧ Reg.Ext w w' := tag_cc (a ++ b) _ (by rw [ByteArray.data_append, Array.toList_append]; exact tag_cat tb tc (by rw [len_data, len_data]; omega)) (by rw [ByteArray.size_append]; omega)
            clear tb tc
            refine (C2 w91).mono ?_
            rintro e w92 ⟨rfl, x92⟩
            have Y92 := Lib.hid (Y91.out.trans x92)
            clear x92 Y91
            go_wp2_with fail
            refine (C3 w92).mono ?_
            rintro e w93 ⟨rfl, x93⟩
            have Y93 := Lib.hid (Y92.out.trans x93)
            clear x93 Y92
            go_wp2_with fail
            go_ret
            exact ⟨rfl, Y93.out⟩
    | true =>
      have CA : ∀ w, Calls Tryd.prog 11 #[.string a] w fun e w' => e = .returned (.bool true) ∧ Reg.Ext w w' := repo_cc a _ ra (by omega)
      cases rb : repoP b.data.toList with
      | false =>
        have CB : ∀ w, Calls Tryd.prog 11 #[.string b] w fun e w' => e = .returned (.bool false) ∧ Reg.Ext w w' := repo_cc b _ rb (by omega)
        clear ra rb
        go_wp2_with fail
        refine (CA w1).mono ?_
        rintro e w2 ⟨rfl, x2⟩
        have Y2 := Lib.hid (Y1.out.trans x2)
        clear x2 Y1
        go_wp2_with fail
        refine (CB w2).mono ?_
        rintro e w3 ⟨rfl, x3⟩
        have Y3 := Lib.hid (Y2.out.trans x3)
        clear x3 Y2
        go_wp2_with fail
        refine (R1 w3).mono ?_
        rintro e w81 ⟨rfl, x81⟩
        have Y81 := Lib.hid (Y3.out.trans x81)
        clear x81 Y3
        go_wp2_with fail
        refine (R2 w81).mono ?_
        rintro e w82 ⟨rfl, x82⟩
        have Y82 := Lib.hid (Y81.out.trans x82)
        clear x82 Y81
        go_wp2_with fail
        refine (R3 w82).mono ?_
        rintro e w83 ⟨rfl, x83⟩
        have Y83 := Lib.hid (Y82.out.trans x83)
        clear x83 Y82
        go_wp2_with fail
        refine (R4 w83).mono ?_
        rintro e w84 ⟨rfl, x84⟩
        have Y84 := Lib.hid (Y83.out.trans x84)
        clear x84 Y83
        go_wp2_with fail
        cases tb : tagP a.data.toList with
        | false =>
          have C1 : ∀ w, Calls Tryd.prog 13 #[.string a] w fun e w' => e = .returned (.bool false) ∧ Reg.Ext w w' := tag_cc a _ tb (by omega)
          clear tb
          refine (C1 w84).mono ?_
          rintro e w91 ⟨rfl, x91⟩
          have Y91 := Lib.hid (Y84.out.trans x91)
          clear x91 Y84
          go_wp2_with fail
          go_ret
          exact ⟨rfl, Y91.out⟩
        | true =>
          have C1 : ∀ w, Calls Tryd.prog 13 #[.string a] w fun e w' => e = .returned (.bool true) ∧ Reg.Ext w w' := tag_cc a _ tb (by omega)
          refine (C1 w84).mono ?_
          rintro e w91 ⟨rfl, x91⟩
          have Y91 := Lib.hid (Y84.out.trans x91)
          clear x91 Y84
          go_wp2_with fail
          cases tc : tagP b.data.toList with
          | false =>
            have C2 : ∀ w, Calls Tryd.prog 13 #[.string b] w fun e w' => e = .returned (.bool false) ∧ Reg.Ext w w' := tag_cc b _ tc (by omega)
            clear tb tc
            refine (C2 w91).mono ?_
            rintro e w92 ⟨rfl, x92⟩
            have Y92 := Lib.hid (Y91.out.trans x92)
            clear x92 Y91
            go_wp2_with fail
            go_ret
            exact ⟨rfl, Y92.out⟩
          | true =>
            have C2 : ∀ w, Calls Tryd.prog 13 #[.string b] w fun e w' => e = .returned (.bool true) ∧ Reg.Ext w w' := tag_cc b _ tc (by omega)
            by_cases hl : 128 < a.size + b.size
            · have d5 : decide ((128 : Int) < ((a.size : Int) + (b.size : Int))) = true := by rw [decide_eq_true_iff]; omega
              clear tb tc
              refine (C2 w91).mono ?_
              rintro e w92 ⟨rfl, x92⟩
              have Y92 := Lib.hid (Y91.out.trans x92)
              clear x92 Y91
              go_wp2_with fail
              go_ret
              exact ⟨rfl, Y92.out⟩
            · have d5 : decide ((128 : Int) < ((a.size : Int) + (b.size : Int))) = false := by rw [decide_eq_false_iff_not]; omega
              have C3 : ∀ w, Calls Tryd.prog 13 #[.string (a ++ b)] w fun e w' => e = .returned (.bool true) ∧ Reg.Ext w w' := tag_cc (a ++ b) _ (by rw [ByteArray.data_append, Array.toList_append]; exact tag_cat tb tc (by rw [len_data, len_data]; omega)) (by rw [ByteArray.size_append]; omega)
              clear tb tc
              refine (C2 w91).mono ?_
              rintro e w92 ⟨rfl, x92⟩
              have Y92 := Lib.hid (Y91.out.trans x92)
              clear x92 Y91
              go_wp2_with fail
              refine (C3 w92).mono ?_
              rintro e w93 ⟨rfl, x93⟩
              have Y93 := Lib.hid (Y92.out.trans x93)
              clear x93 Y92
              go_wp2_with fail
              go_ret
              exact ⟨rfl, Y93.out⟩
      | true =>
        have CB : ∀ w, Calls Tryd.prog 11 #[.string b] w fun e w' => e = .returned (.bool true) ∧ Reg.Ext w w' := repo_cc b _ rb (by omega)
        clear ra rb
        go_wp2_with fail
        refine (CA w1).mono ?_
        rintro e w2 ⟨rfl, x2⟩
        have Y2 := Lib.hid (Y1.out.trans x2)
        clear x2 Y1
        go_wp2_with fail
        refine (CB w2).mono ?_
        rintro e w3 ⟨rfl, x3⟩
        have Y3 := Lib.hid (Y2.out.trans x3)
        clear x3 Y2
        go_wp2_with fail
        refine (R1 w3).mono ?_
        rintro e w81 ⟨rfl, x81⟩
        have Y81 := Lib.hid (Y3.out.trans x81)
        clear x81 Y3
        go_wp2_with fail
        refine (R2 w81).mono ?_
        rintro e w82 ⟨rfl, x82⟩
        have Y82 := Lib.hid (Y81.out.trans x82)
        clear x82 Y81
        go_wp2_with fail
        refine (R3 w82).mono ?_
        rintro e w83 ⟨rfl, x83⟩
        have Y83 := Lib.hid (Y82.out.trans x83)
        clear x83 Y82
        go_wp2_with fail
        refine (R4 w83).mono ?_
        rintro e w84 ⟨rfl, x84⟩
        have Y84 := Lib.hid (Y83.out.trans x84)
        clear x84 Y83
        go_wp2_with fail
        cases tb : tagP a.data.toList with
        | false =>
          have C1 : ∀ w, Calls Tryd.prog 13 #[.string a] w fun e w' => e = .returned (.bool false) ∧ Reg.Ext w w' := tag_cc a _ tb (by omega)
          clear tb
          refine (C1 w84).mono ?_
          rintro e w91 ⟨rfl, x91⟩
          have Y91 := Lib.hid (Y84.out.trans x91)
          clear x91 Y84
          go_wp2_with fail
          go_ret
          exact ⟨rfl, Y91.out⟩
        | true =>
          have C1 : ∀ w, Calls Tryd.prog 13 #[.string a] w fun e w' => e = .returned (.bool true) ∧ Reg.Ext w w' := tag_cc a _ tb (by omega)
          refine (C1 w84).mono ?_
          rintro e w91 ⟨rfl, x91⟩
          have Y91 := Lib.hid (Y84.out.trans x91)
          clear x91 Y84
          go_wp2_with fail
          cases tc : tagP b.data.toList with
          | false =>
            have C2 : ∀ w, Calls Tryd.prog 13 #[.string b] w fun e w' => e = .returned (.bool false) ∧ Reg.Ext w w' := tag_cc b _ tc (by omega)
            clear tb tc
            refine (C2 w91).mono ?_
            rintro e w92 ⟨rfl, x92⟩
            have Y92 := Lib.hid (Y91.out.trans x92)
            clear x92 Y91
            go_wp2_with fail
            go_ret
            exact ⟨rfl, Y92.out⟩
          | true =>
            have C2 : ∀ w, Calls Tryd.prog 13 #[.string b] w fun e w' => e = .returned (.bool true) ∧ Reg.Ext w w' := tag_cc b _ tc (by omega)
            by_cases hl : 128 < a.size + b.size
            · have d5 : decide ((128 : Int) < ((a.size : Int) + (b.size : Int))) = true := by rw [decide_eq_true_iff]; omega
              clear tb tc
              refine (C2 w91).mono ?_
              rintro e w92 ⟨rfl, x92⟩
              have Y92 := Lib.hid (Y91.out.trans x92)
              clear x92 Y91
              go_wp2_with fail
              go_ret
              exact ⟨rfl, Y92.out⟩
            · have d5 : decide ((128 : Int) < ((a.size : Int) + (b.size : Int))) = false := by rw [decide_eq_false_iff_not]; omega
              have C3 : ∀ w, Calls Tryd.prog 13 #[.string (a ++ b)] w fun e w' => e = .returned (.bool true) ∧ Reg.Ext w w' := tag_cc (a ++ b) _ (by rw [ByteArray.data_append, Array.toList_append]; exact tag_cat tb tc (by rw [len_data, len_data]; omega)) (by rw [ByteArray.size_append]; omega)
              clear tb tc
              refine (C2 w91).mono ?_
              rintro e w92 ⟨rfl, x92⟩
              have Y92 := Lib.hid (Y91.out.trans x92)
              clear x92 Y91
              go_wp2_with fail
              refine (C3 w92).mono ?_
              rintro e w93 ⟨rfl, x93⟩
              have Y93 := Lib.hid (Y92.out.trans x93)
              clear x93 Y92
              go_wp2_with fail
              go_ret
              exact ⟨rfl, Y93.out⟩
end Pl
end Go.Proofs.YtdoplndijlfabaaDoor

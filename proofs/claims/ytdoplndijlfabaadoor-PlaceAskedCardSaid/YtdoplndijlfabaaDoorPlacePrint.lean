/- Package place: Print. -/
import Derived.Test.YtdoplndijlfabaaDoorPlaceGood
set_option linter.unusedSimpArgs false
set_option linter.unusedVariables false
set_option linter.unusedSectionVars false
namespace Go.Proofs.YtdoplndijlfabaaDoor
open Go.RowKit
namespace Pl
open Rte
theorem good_kind {r : S} (h : goodP r = true) : r.k = 1 ∨ r.k = 2 ∨ r.k = 3 ∨ r.k = 4 := by
  unfold goodP at h
  by_cases k1 : r.k = 1
  · exact .inl k1
  rw [if_neg k1] at h
  by_cases k2 : r.k = 2
  · exact .inr (.inl k2)
  rw [if_neg k2] at h
  by_cases k3 : r.k = 3 ∨ r.k = 4
  · exact .inr (.inr k3)
  rw [if_neg k3] at h
  cases h
theorem repo_size {s : ByteArray} (h : repoP s.data.toList = true) : s.size ≤ 128 := by
  unfold repoP at h
  rw [Bool.and_eq_true, decide_eq_true_iff, len_data] at h
  exact h.1
theorem tag_size {s : ByteArray} (h : tagP s.data.toList = true) : s.size ≤ 128 := by
  rw [← len_data]
  generalize s.data.toList = l at *
  cases l with
  | nil => cases h
  | cons c l =>
    unfold tagP at h
    simp only [Bool.and_eq_true, decide_eq_true_iff] at h
    exact h.1.1.1
theorem good_size {r : S} (h : goodP r = true) : r.repo.size ≤ 128 ∧ r.tag.size ≤ 128 := by
  unfold goodP at h
  by_cases k1 : r.k = 1
  · rw [if_pos k1, same_iff] at h
    rw [h]
    exact ⟨by decide, by decide⟩
  rw [if_neg k1] at h
  by_cases k2 : r.k = 2
  · rw [if_pos k2, Bool.and_eq_true, Bool.and_eq_true] at h
    exact ⟨repo_size h.1, tag_size h.2.1⟩
  rw [if_neg k2] at h
  by_cases k3 : r.k = 3 ∨ r.k = 4
  · rw [if_pos k3, Bool.and_eq_true, decide_eq_true_iff] at h
    exact ⟨repo_size h.1, by omega⟩
  rw [if_neg k3] at h
  cases h
def printV (r : S) : Value := .tuple #[.string ⟨(printP r).1.toArray⟩, .int .i64 (printP r).2]
set_option maxRecDepth 100000 in
set_option maxHeartbeats 4000000 in
theorem print_any (r : S) (hr : r.dig.length = 32) (w : World) :
    Calls Tryd.prog 15 #[.agg r.cells.toArray] w fun e w' => e = .returned (printV r) ∧ Reg.Ext w w' := by
  have hb := boxS w r
  have hx := Reg.Ext.alloc w (Obj.cells r.cells.toArray 26)
  go_enter Tryd.func15, Tryd.ntmps15
  go_upto_region 1 with (fail)
  generalize w.alloc (Obj.cells r.cells.toArray 26) = w0 at *
  generalize w.heap.size = g at hb ⊢
  have HB := Lib.hid hb
  have HX := Lib.hid hx
  clear hb hx
  refine wp_region_lit ?_
  refine wpList_rt rfl _ rfl g rfl _ r hr HB ?_
  simp only [Act.put, Act.eval, List.setIfInBounds_toArray, List.set_cons_zero, List.set_cons_succ, Nat.reduceAdd, Array.getD_eq_getD_getElem?, List.getElem?_toArray, List.getElem?_cons_succ, List.getElem?_cons_zero, Option.getD_some]
  go_wp2_with fail
  refine (good_any r hr w0).mono ?_
  rintro e w1 ⟨rfl, x1⟩
  have HX1 := Lib.hid (HX.out.trans x1)
  have HB1 := Lib.hid (HB.out.ext x1)
  clear x1 HX HB
  cases hg : goodP r with
  | false =>
    have HV := Lib.hid (show printV r = .tuple #[.string ⟨#[]⟩, .int .i64 1] by unfold printV printP; rw [hg]; rfl)
    clear hg
    go_wp2_with fail
    go_ret2
    exact ⟨by rw [HV.out]; rfl, HX1.out⟩
  | true =>
    have hv : printV r = .tuple #[.string ⟨(printL r).toArray⟩, .int .i64 0] := by unfold printV printP; rw [hg]; rfl
    have hk := good_kind hg
    obtain ⟨h1, h2⟩ := good_size hg
    have c2 : w1.cell? ⟨g, 2, none⟩ = some (.string r.tag) := HB1.out.cell 2
    have c0 : w1.cell? ⟨g, 0, none⟩ = some (.int .i64 r.k) := HB1.out.cell 0
    clear hg
    go_wp2_with fail
    go_quiet (fail)
    have HXn := Lib.hid (HX1.out.trans (Reg.Ext.drewN w1 nq))
    have HBn : Hid (Blk (w1.drewN nq) g 26 r.cells) := HB1.out.drewN nq
    have d0 : (w1.drewN nq).cell? ⟨g, 0, none⟩ = some (.int .i64 r.k) := HBn.out.cell 0
    clear c2 c0 HX1 HB1
    generalize w1.drewN nq = wn at *
    have hpl : printL r = if r.k = 1 then rootL else if r.k = 2 then rootL ++ r.repo.data.toList ++ [47] ++ manL ++ [47] ++ r.tag.data.toList else rootL ++ r.repo.data.toList ++ [47] ++ (if r.k = 4 then blobL else manL) ++ [47] ++ (Stp.pA ++ HexP.hex r.dig) := rfl
    rcases hk with k | k | k | k
    · rw [if_pos k] at hpl
      have HV := Lib.hid (show printV r = .tuple #[.string ⟨rootL.toArray⟩, .int .i64 0] by rw [hv, hpl])
      have e1 : (r.k == 1) = true := by simpa using k
      clear hv hpl k
      go_wp2_with fail
      go_ret2
      exact ⟨by rw [HV.out]; rfl, HXn.out⟩
    · rw [if_neg (by omega), if_pos k] at hpl
      have HV := Lib.hid (show printV r = .tuple #[.string (⟨rootL.toArray⟩ ++ r.repo ++ ⟨#[47]⟩ ++ ⟨manL.toArray⟩ ++ ⟨#[47]⟩ ++ r.tag), .int .i64 0] by
        rw [hv, hpl]
        exact congrArg (fun b : ByteArray => Value.tuple #[.string b, .int .i64 0]) (ba_ext (by simp)))
      have e1 : (r.k == 1) = false := by rw [beq_eq_false_iff_ne]; omega
      have e3 : (r.k == 3) = false := by rw [beq_eq_false_iff_ne]; omega
      have e4 : (r.k == 4) = false := by rw [beq_eq_false_iff_ne]; omega
      clear hv hpl k
      have c1 : wn.cell? ⟨g, 1, none⟩ = some (.string r.repo) := HBn.out.cell 1
      go_wp2_with fail
      go_ret2
      exact ⟨by rw [HV.out]; rfl, HXn.out⟩
    · rw [if_neg (by omega), if_neg (by omega), if_neg (by omega)] at hpl
      have e1 : (r.k == 1) = false := by rw [beq_eq_false_iff_ne]; omega
      have e3 : (r.k == 3) = true := by rw [beq_iff_eq]; omega
      have e4 : (r.k == 4) = false := by rw [beq_eq_false_iff_ne]; omega
      have HP := Lib.hid (Stp.print_any r.dig hr wn)
      obtain ⟨D, hD⟩ : ∃ D : ByteArray, D = ⟨(Stp.pA ++ HexP.hex r.dig).toArray⟩ := ⟨_, rfl⟩
      have hDs : D.size ≤ 100 := by rw [hD, siz, List.length_append, HexP.hex_length, hr]; decide
      have HV := Lib.hid (show printV r = .tuple #[.string (⟨rootL.toArray⟩ ++ r.repo ++ ⟨#[47]⟩ ++ ⟨(manL).toArray⟩ ++ ⟨#[47]⟩ ++ D), .int .i64 0] by
        rw [hv, hpl, hD]
        exact congrArg (fun b : ByteArray => Value.tuple #[.string b, .int .i64 0]) (ba_ext (by simp)))
      rw [← hD] at HP
      clear hv hpl k hD
      go_upto_region 10 with (fail)
      refine wp_region_lit ?_
      iterate 3 go_step
      refine wpList_rd rfl _ rfl g rfl _ r hr HBn ?_
      simp only [Act.put, Act.eval, List.setIfInBounds_toArray, List.set_cons_zero, List.set_cons_succ, Nat.reduceAdd, Array.getD_eq_getD_getElem?, List.getElem?_toArray, List.getElem?_cons_succ, List.getElem?_cons_zero, Option.getD_some]
      go_wp2_with fail
      refine HP.out.mono ?_
      rintro e w5 ⟨rfl, x5⟩
      have HX5 := Lib.hid (HXn.out.trans x5)
      have HB5 := Lib.hid (HBn.out.ext x5)
      clear x5 HP d0
      have c1 : w5.cell? ⟨g, 1, none⟩ = some (.string r.repo) := HB5.out.cell 1
      go_wp2_with fail
      go_ret2
      exact ⟨by rw [HV.out]; rfl, HX5.out⟩
    · rw [if_neg (by omega), if_neg (by omega), if_pos (by omega)] at hpl
      have e1 : (r.k == 1) = false := by rw [beq_eq_false_iff_ne]; omega
      have e4 : (r.k == 4) = true := by rw [beq_iff_eq]; omega
      have HP := Lib.hid (Stp.print_any r.dig hr wn)
      obtain ⟨D, hD⟩ : ∃ D : ByteArray, D = ⟨(Stp.pA ++ HexP.hex r.dig).toArray⟩ := ⟨_, rfl⟩
      have hDs : D.size ≤ 100 := by rw [hD, siz, List.length_append, HexP.hex_length, hr]; decide
      have HV := Lib.hid (show printV r = .tuple #[.string (⟨rootL.toArray⟩ ++ r.repo ++ ⟨#[47]⟩ ++ ⟨(blobL).toArray⟩ ++ ⟨#[47]⟩ ++ D), .int .i64 0] by
        rw [hv, hpl, hD]
        exact congrArg (fun b : ByteArray => Value.tuple #[.string b, .int .i64 0]) (ba_ext (by simp)))
      rw [← hD] at HP
      clear hv hpl k hD
      go_upto_region 10 with (fail)
      refine wp_region_lit ?_
      iterate 3 go_step
      refine wpList_rd rfl _ rfl g rfl _ r hr HBn ?_
      simp only [Act.put, Act.eval, List.setIfInBounds_toArray, List.set_cons_zero, List.set_cons_succ, Nat.reduceAdd, Array.getD_eq_getD_getElem?, List.getElem?_toArray, List.getElem?_cons_succ, List.getElem?_cons_zero, Option.getD_some]
      go_wp2_with fail
      refine HP.out.mono ?_
      rintro e w5 ⟨rfl, x5⟩
      have HX5 := Lib.hid (HXn.out.trans x5)
      have HB5 := Lib.hid (HBn.out.ext x5)
      clear x5 HP d0
      have c1 : w5.cell? ⟨g, 1, none⟩ = some (.string r.repo) := HB5.out.cell 1
      go_wp2_with fail
      go_ret2
      exact ⟨by rw [HV.out]; rfl, HX5.out⟩
end Pl
end Go.Proofs.YtdoplndijlfabaaDoor

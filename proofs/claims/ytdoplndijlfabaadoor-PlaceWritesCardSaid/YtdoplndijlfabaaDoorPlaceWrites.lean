/- Chapter 15: PlaceWrites. -/
import Derived.Test.YtdoplndijlfabaaDoorPlaceAwake
import Derived.Test.YtdoplndijlfabaaDoorPlaceRefW
set_option linter.unusedSimpArgs false
set_option linter.unusedVariables false
set_option linter.unusedSectionVars false
namespace Go.Proofs.YtdoplndijlfabaaDoor
open Go.RowKit
namespace Pl
open Rte
theorem printP_good (r : S) : goodP r = ((printP r).2 == 0) := by
  unfold printP
  cases goodP r <;> rfl
set_option maxRecDepth 100000 in
set_option maxHeartbeats 4000000 in
theorem writes_law (r : S) (hr : r.dig.length = 32) (w : World) :
    Calls Tryd.prog 4 #[.agg r.cells.toArray] w fun e w' => e = .returned (.bool true) ∧ Reg.Ext w w' := by
  have hb := boxS w r
  have hx := Reg.Ext.alloc w (Obj.cells r.cells.toArray 26)
  go_enter Tryd.func4, Tryd.ntmps4
  go_upto_region 1 with (fail)
  generalize w.alloc (Obj.cells r.cells.toArray 26) = w0 at *
  generalize w.heap.size = g at hb ⊢
  have HB := Lib.hid hb
  have HX := Lib.hid hx
  clear hb hx
  go_wp2_with fail
  refine (awake_any w0).mono ?_
  rintro e w1 ⟨rfl, x1⟩
  have HX1 := Lib.hid (HX.out.trans x1)
  have HB1 := Lib.hid (HB.out.ext x1)
  clear x1 HX HB
  have p1 : w1.cell? ⟨g, 1, none⟩ = some (.string r.repo) := HB1.out.cell 1
  have p2 : w1.cell? ⟨g, 2, none⟩ = some (.string r.tag) := HB1.out.cell 2
  by_cases h1 : 2048 < r.repo.size
  · have d1 : decide ((2048 : Int) < (r.repo.size : Int)) = true := by rw [decide_eq_true_iff]; omega
    go_wp2_with fail
    go_ret
    exact ⟨rfl, HX1.out⟩
  have d1 : decide ((2048 : Int) < (r.repo.size : Int)) = false := by rw [decide_eq_false_iff_not]; omega
  by_cases h2 : 2048 < r.tag.size
  · have d2 : decide ((2048 : Int) < (r.tag.size : Int)) = true := by rw [decide_eq_true_iff]; omega
    go_wp2_with fail
    go_ret
    exact ⟨rfl, HX1.out⟩
  have d2 : decide ((2048 : Int) < (r.tag.size : Int)) = false := by rw [decide_eq_false_iff_not]; omega
  go_upto_region 5 with (fail)
  clear p1 p2 d1 d2
  have CP := fun w => Lib.hid (print_any r hr w)
  have CR := fun w => Lib.hid (printRR_any r hr (by omega) (by omega) w)
  have CG := fun w => Lib.hid (good_any r hr w)
  rw [printP_good] at CG
  have hv : printV r = .tuple #[.string ⟨(printP r).1.toArray⟩, .int .i64 (printP r).2] := rfl
  rw [hv] at CP CR
  clear hv h1 h2
  generalize (printP r).2 = n at *
  generalize (⟨(printP r).1.toArray⟩ : ByteArray) = T at *
  refine wp_region_lit ?_
  refine wpList_rt rfl _ rfl g rfl _ r hr HB1 ?_
  simp only [Act.put, Act.eval, List.setIfInBounds_toArray, List.set_cons_zero, List.set_cons_succ, Nat.reduceAdd, Array.getD_eq_getD_getElem?, List.getElem?_toArray, List.getElem?_cons_succ, List.getElem?_cons_zero, Option.getD_some]
  go_wp2_with fail
  refine (CP w1).out.mono ?_
  rintro e w2 ⟨rfl, x2⟩
  have HX2 := Lib.hid (HX1.out.trans x2)
  have HB2 := Lib.hid (HB1.out.ext x2)
  clear x2 HX1 HB1
  go_upto_region 6 with (fail)
  refine wp_region_lit ?_
  refine wpList_rt rfl _ rfl g rfl _ r hr HB2 ?_
  simp only [Act.put, Act.eval, List.setIfInBounds_toArray, List.set_cons_zero, List.set_cons_succ, Nat.reduceAdd, Array.getD_eq_getD_getElem?, List.getElem?_toArray, List.getElem?_cons_succ, List.getElem?_cons_zero, Option.getD_some]
  go_wp2_with fail
  refine (CR w2).out.mono ?_
  rintro e w3 ⟨rfl, x3⟩
  have HX3 := Lib.hid (HX2.out.trans x3)
  have HB3 := Lib.hid (HB2.out.ext x3)
  clear x3 HX2 HB2
  go_upto_region 7 with (fail)
  refine wp_region_lit ?_
  repeat (first | refine wpList_rt rfl _ rfl g rfl _ r hr HB3 ?_ | go_step)
  refine (CG w3).out.mono ?_
  rintro e w4 ⟨rfl, x4⟩
  have HX4 := Lib.hid (HX3.out.trans x4)
  clear x4 HX3
  go_wp2_with fail
  go_ret
  exact ⟨by simp, HX4.out⟩
end Pl
end Go.Proofs.YtdoplndijlfabaaDoor

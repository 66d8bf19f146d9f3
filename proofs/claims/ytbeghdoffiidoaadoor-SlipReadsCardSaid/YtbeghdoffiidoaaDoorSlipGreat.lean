/- The walk of the law's great. -/
import Derived.Test.YtbeghdoffiidoaaDoorSlipRow
import Derived.Test.YtbeghdoffiidoaaDoorReg
set_option linter.unusedSimpArgs false
set_option linter.unusedVariables false
set_option linter.unusedSectionVars false
namespace Go.Proofs.YtbeghdoffiidoaaDoor
open Go.RowKit
namespace Slp
def great (x : S) : Bool := decide ((500 : Int) < (x.repo.size : Int)) || (decide ((500 : Int) < (x.tag.size : Int)) || decide ((500 : Int) < (x.typ.size : Int)))
set_option maxRecDepth 100000 in
set_option maxHeartbeats 2000000 in
theorem great_any (x : S) (hx : x.dig.length = 32) (w : World) :
    Calls Tryd.prog 8 #[.agg x.cells.toArray] w fun e w' => e = .returned (.bool (great x)) ∧ Reg.Ext w w' := by
  have hb1 := boxS w x
  have hx1 := Reg.Ext.alloc w (Obj.cells x.cells.toArray 25)
  have HV : Hid (great x = (decide ((500 : Int) < (x.repo.size : Int)) || (decide ((500 : Int) < (x.tag.size : Int)) || decide ((500 : Int) < (x.typ.size : Int))))) := rfl
  go_enter Tryd.func8, Tryd.ntmps8
  go_upto_region 1 with (fail)
  generalize w.alloc (Obj.cells x.cells.toArray 25) = w1 at *
  generalize hg1 : w.heap.size = g1 at *
  have q1 : w1.cell? ⟨g1, 1, none⟩ = some (.string x.repo) := hb1.cell 1
  have q2 : w1.cell? ⟨g1, 2, none⟩ = some (.string x.tag) := hb1.cell 2
  have q35 : w1.cell? ⟨g1, 35, none⟩ = some (.string x.typ) := by rw [hb1.cell, at35 x hx]
  have X := Lib.hid hx1
  clear hb1 hx1
  by_cases h1 : 500 < x.repo.size
  · have d1 : decide ((500 : Int) < (x.repo.size : Int)) = true := by rw [decide_eq_true_iff]; omega
    rw [d1] at HV
    clear h1
    go_wp2_with fail
    go_ret
    exact ⟨by rw [HV.out]; rfl, X.out⟩
  have d1 : decide ((500 : Int) < (x.repo.size : Int)) = false := by rw [decide_eq_false_iff_not]; omega
  rw [d1] at HV
  clear h1
  by_cases h2 : 500 < x.tag.size
  · have d2 : decide ((500 : Int) < (x.tag.size : Int)) = true := by rw [decide_eq_true_iff]; omega
    rw [d2] at HV
    clear h2
    go_wp2_with fail
    go_ret
    exact ⟨by rw [HV.out]; rfl, X.out⟩
  have d2 : decide ((500 : Int) < (x.tag.size : Int)) = false := by rw [decide_eq_false_iff_not]; omega
  rw [d2] at HV
  clear h2
  obtain ⟨b, hb⟩ : ∃ b, decide ((500 : Int) < (x.typ.size : Int)) = b := ⟨_, rfl⟩
  rw [hb] at HV
  go_wp2_with fail
  go_ret
  exact ⟨by rw [HV.out]; rfl, X.out⟩
end Slp
end Go.Proofs.YtbeghdoffiidoaaDoor

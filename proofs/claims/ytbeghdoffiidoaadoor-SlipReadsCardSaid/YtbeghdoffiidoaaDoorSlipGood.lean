/- The walks of package slip: of, within, only, Good. -/
import Derived.Test.YtbeghdoffiidoaaDoorSlipEq
import Derived.Test.YtbeghdoffiidoaaDoorReg
import Derived.Test.YtbeghdoffiidoaaDoorBlk
import Derived.Laws.ResultCell
import Derived.WalkKit
import Derived.WalkSpells
import Derived.WalkLawsBesides
import Derived.Great.Walk
import Derived.BigQuiet
import Derived.BigRegion
import Derived.Deep.DeepCutAuto
import Derived.Deep.WholeRow
import Derived.Lib.Hide
set_option linter.unusedSimpArgs false
set_option linter.unusedVariables false
set_option linter.unusedSectionVars false
namespace Go.Proofs.YtbeghdoffiidoaaDoor
open Go.RowKit
namespace Slp
theorem results_row2 {P : Program} {fn : Func} {p u : Tmp} {ty : TypeId} (h : fn.results = #[.cell p ty, .tmp u]) (tmps : Array Value) (w : World) (g : Nat) (t : TypeId) (cs : Array Value) (fr : Nat × Nat) (d : TypeDesc)
    (hp : tmps.getD p undef = .pointer (some ⟨g, 0, none⟩)) (hg : w.heap[g]? = some (.cells cs t fr))
    (hu : P.underlying ty = some d) (hd : (match d with | .struct _ | .array _ _ => true | _ => false) = true) (hi : (P.info? ty).map (·.size) = some cs.size) :
    (results fn tmps).run P w = .ok (.tuple #[.agg cs, tmps.getD u undef]) w := by
  rw [results_cell_tmp h, hp]
  simp [asAddr, run_loadVar_row w g t ty cs fr d hg hu hd hi]
theorem within_any (n lo hi : Int) (w : World) : Calls Tryd.prog 26 #[.int .i64 n, .int .i64 lo, .int .i64 hi] w fun e w' => e = .returned (.bool (decide (lo ≤ n) && decide (n ≤ hi))) ∧ w = w' := by
  by_cases h1 : lo ≤ n
  · have d1 : decide (lo ≤ n) = true := by simp [h1]
    by_cases h2 : n ≤ hi
    · have d2 : decide (n ≤ hi) = true := by simp [h2]
      go_enter Tryd.func26, Tryd.ntmps26
      go_wp2
      go_ret
      exact ⟨by simp [h1, h2], rfl⟩
    · have d2 : decide (n ≤ hi) = false := by simp [h2]
      go_enter Tryd.func26, Tryd.ntmps26
      go_wp2
      go_ret
      exact ⟨by simp [h1, h2], rfl⟩
  · have d1 : decide (lo ≤ n) = false := by simp [h1]
    go_enter Tryd.func26, Tryd.ntmps26
    go_wp2
    go_ret
    exact ⟨by simp [h1], rfl⟩
theorem und47 : Tryd.prog.underlying 47 = some (.struct (Tryd.prog.fieldsOf 47)) := by kernel_rfl
theorem size47 : (Tryd.prog.info? 47).map (·.size) = some 4 := by kernel_rfl
set_option maxHeartbeats 2000000 in
theorem of_any (k : Int) (w : World) : Calls Tryd.prog 18 #[.int .i64 k] w fun e w' => e = .returned (.tuple #[.agg (flds k).cells.toArray, .bool (known k)]) ∧ Reg.Ext w w' := by
  by_cases h1 : k = 1
  · subst h1
    go_enter Tryd.func18, Tryd.ntmps18
    go_wp2
    exact bodyPost_ret (results_row2 rfl _ _ w.heap.size 47 #[.bool true, .bool true, .bool true, .bool true] (0, 0) _ rfl (heap_alloc_new w _) und47 rfl size47) rfl ⟨rfl, Reg.Ext.alloc _ _⟩
  by_cases h2 : k = 2
  · subst h2
    go_enter Tryd.func18, Tryd.ntmps18
    go_wp2
    exact bodyPost_ret (results_row2 rfl _ _ w.heap.size 47 #[.bool true, .bool false, .bool false, .bool true] (0, 0) _ rfl (heap_alloc_new w _) und47 rfl size47) rfl ⟨rfl, Reg.Ext.alloc _ _⟩
  by_cases h3 : k = 3
  · subst h3
    go_enter Tryd.func18, Tryd.ntmps18
    go_wp2
    exact bodyPost_ret (results_row2 rfl _ _ w.heap.size 47 #[.bool true, .bool false, .bool false, .bool false] (0, 0) _ rfl (heap_alloc_new w _) und47 rfl size47) rfl ⟨rfl, Reg.Ext.alloc _ _⟩
  by_cases h4 : k = 4
  · subst h4
    go_enter Tryd.func18, Tryd.ntmps18
    go_wp2
    exact bodyPost_ret (results_row2 rfl _ _ w.heap.size 47 #[.bool false, .bool true, .bool true, .bool false] (0, 0) _ rfl (heap_alloc_new w _) und47 rfl size47) rfl ⟨rfl, Reg.Ext.alloc _ _⟩
  by_cases h5 : k = 5
  · subst h5
    go_enter Tryd.func18, Tryd.ntmps18
    go_wp2
    exact bodyPost_ret (results_row2 rfl _ _ w.heap.size 47 #[.bool false, .bool true, .bool false, .bool false] (0, 0) _ rfl (heap_alloc_new w _) und47 rfl size47) rfl ⟨rfl, Reg.Ext.alloc _ _⟩
  by_cases h6 : k = 6
  · subst h6
    go_enter Tryd.func18, Tryd.ntmps18
    go_wp2
    exact bodyPost_ret (results_row2 rfl _ _ w.heap.size 47 #[.bool false, .bool true, .bool false, .bool false] (0, 0) _ rfl (heap_alloc_new w _) und47 rfl size47) rfl ⟨rfl, Reg.Ext.alloc _ _⟩
  have hf : flds k = ⟨false, false, false, false⟩ := by unfold flds; rw [if_neg h1, if_neg h2, if_neg h3, if_neg h4, if_neg h5, if_neg h6]
  have hk : known k = false := by unfold known; rw [decide_eq_false_iff_not]; omega
  have d1 : (k == 1) = false := by simp [h1]
  have d2 : (k == 2) = false := by simp [h2]
  have d3 : (k == 3) = false := by simp [h3]
  have d4 : (k == 4) = false := by simp [h4]
  have d5 : (k == 5) = false := by simp [h5]
  have d6 : (k == 6) = false := by simp [h6]
  have HV := Lib.hid (show (Value.tuple #[.agg (flds k).cells.toArray, .bool (known k)]) = .tuple #[.agg #[.bool false, .bool false, .bool false, .bool false], .bool false] by rw [hf, hk]; rfl)
  clear hf hk h1 h2 h3 h4 h5 h6
  go_enter Tryd.func18, Tryd.ntmps18
  go_wp2
  exact bodyPost_ret (results_row2 rfl _ _ w.heap.size 47 #[.bool false, .bool false, .bool false, .bool false] (0, 0) _ rfl (heap_alloc_new w _) und47 rfl size47) rfl ⟨by rw [HV.out]; rfl, Reg.Ext.alloc _ _⟩
end Slp
end Go.Proofs.YtbeghdoffiidoaaDoor

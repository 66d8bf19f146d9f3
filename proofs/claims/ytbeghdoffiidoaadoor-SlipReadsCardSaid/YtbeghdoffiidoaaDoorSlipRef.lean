/- The reference's functions of chapter 8: text. -/
import Derived.Test.YtbeghdoffiidoaaDoorSlipFrame
import Derived.Test.YtbeghdoffiidoaaDoorSlipGood2
set_option linter.unusedSimpArgs false
set_option linter.unusedVariables false
set_option linter.unusedSectionVars false
namespace Go.Proofs.YtbeghdoffiidoaaDoor
open Go.RowKit
namespace Slp
open Bld (len1)
set_option maxHeartbeats 2000000 in
theorem textR_any (s : ByteArray) (w : World) (hs : s.size ≤ 1048576) :
    Calls Tryd.prog 30 #[.string s] w fun e w' => e = .returned (.string ⟨(len1 s :: s.data.toList).toArray⟩) ∧ Reg.Ext w w' := by
  obtain ⟨h0, hh0⟩ : ∃ h, h = [len1 s] := ⟨_, rfl⟩
  have hx1 := Reg.Ext.alloc w (Obj.cells #[Value.int .u8 ((s.size : Int) % 256)] 5)
  have hk1 := Blk.new w 5 #[Value.int .u8 ((s.size : Int) % 256)]
  have hcv := conv_bytes (P := Tryd.prog) (w.alloc (Obj.cells #[Value.int .u8 ((s.size : Int) % 256)] 5)) 42 9 5 Tryd.underlying42 Tryd.underlying5 Tryd.underlying9 w.heap.size 0 1 1 h0 (by rw [hh0]; rfl) (by
    intro j hj
    rw [hh0] at hj
    subst hh0
    match j, hj with
    | 0, _ => rw [hk1.cell]; simp [byteV, Bld.len1_nat])
  have HX1 := Lib.hid hx1
  clear hx1 hk1
  obtain ⟨H0, hH0⟩ : ∃ H0 : ByteArray, H0 = ⟨h0.toArray⟩ := ⟨_, rfl⟩
  have hHs : H0.size = 1 := by rw [hH0, siz, hh0]; rfl
  have HW : Hid ((⟨(len1 s :: s.data.toList).toArray⟩ : ByteArray) = H0 ++ s) := by
    show _ = _
    exact ba_ext (by rw [lst, hH0, hh0]; simp)
  rw [← hH0] at hcv
  clear hH0 hh0
  go_enter Tryd.func30, Tryd.ntmps30
  go_wp2_with fail
  go_ret
  exact ⟨by rw [HW.out]; rfl, HX1.out⟩
set_option maxHeartbeats 2000000 in
theorem has_any (k : Int) (hk : known k = true) (w : World) : Calls Tryd.prog 27 #[.int .i64 k] w fun e w' => e = .returned (.agg (flds k).cells.toArray) ∧ Reg.Ext w w' := by
  unfold known at hk
  rw [decide_eq_true_iff] at hk
  rcases (by omega : k = 1 ∨ k = 2 ∨ k = 3 ∨ k = 4 ∨ k = 5 ∨ k = 6) with rfl | rfl | rfl | rfl | rfl | rfl
  · clear hk
    go_enter Tryd.func27, Tryd.ntmps27
    go_wp2
    exact bodyPost_ret (results_cell_row rfl _ _ w.heap.size 66 #[.bool true, .bool true, .bool true, .bool true] (0, 0) _ rfl (heap_alloc_new w _) Tryd.underlying66 rfl (by kernel_rfl)) rfl ⟨rfl, Reg.Ext.alloc _ _⟩
  · clear hk
    go_enter Tryd.func27, Tryd.ntmps27
    go_wp2
    exact bodyPost_ret (results_cell_row rfl _ _ w.heap.size 66 #[.bool true, .bool false, .bool false, .bool true] (0, 0) _ rfl (heap_alloc_new w _) Tryd.underlying66 rfl (by kernel_rfl)) rfl ⟨rfl, Reg.Ext.alloc _ _⟩
  · clear hk
    go_enter Tryd.func27, Tryd.ntmps27
    go_wp2
    exact bodyPost_ret (results_cell_row rfl _ _ w.heap.size 66 #[.bool true, .bool false, .bool false, .bool false] (0, 0) _ rfl (heap_alloc_new w _) Tryd.underlying66 rfl (by kernel_rfl)) rfl ⟨rfl, Reg.Ext.alloc _ _⟩
  · clear hk
    go_enter Tryd.func27, Tryd.ntmps27
    go_wp2
    exact bodyPost_ret (results_cell_row rfl _ _ w.heap.size 66 #[.bool false, .bool true, .bool true, .bool false] (0, 0) _ rfl (heap_alloc_new w _) Tryd.underlying66 rfl (by kernel_rfl)) rfl ⟨rfl, Reg.Ext.alloc _ _⟩
  · clear hk
    go_enter Tryd.func27, Tryd.ntmps27
    go_wp2
    exact bodyPost_ret (results_cell_row rfl _ _ w.heap.size 66 #[.bool false, .bool true, .bool false, .bool false] (0, 0) _ rfl (heap_alloc_new w _) Tryd.underlying66 rfl (by kernel_rfl)) rfl ⟨rfl, Reg.Ext.alloc _ _⟩
  · clear hk
    go_enter Tryd.func27, Tryd.ntmps27
    go_wp2
    exact bodyPost_ret (results_cell_row rfl _ _ w.heap.size 66 #[.bool false, .bool true, .bool false, .bool false] (0, 0) _ rfl (heap_alloc_new w _) Tryd.underlying66 rfl (by kernel_rfl)) rfl ⟨rfl, Reg.Ext.alloc _ _⟩
end Slp
end Go.Proofs.YtbeghdoffiidoaaDoor

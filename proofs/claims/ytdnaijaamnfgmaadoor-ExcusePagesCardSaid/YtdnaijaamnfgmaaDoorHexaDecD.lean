/- The walk of hexa.Dec. -/
import Derived.Test.YtdnaijaamnfgmaaDoorHexWalks
import Derived.Test.YtdnaijaamnfgmaaDoorItoa
set_option linter.unusedSimpArgs false
set_option linter.unusedVariables false
set_option linter.unusedSectionVars false
namespace Go.Proofs.YtdnaijaamnfgmaaDoor
open Go.RowKit
namespace Hex
open HexP
/-! ### Dec -/
theorem ext_grow (w : World) (k : Nat) (os : Array Obj) : Reg.Ext w (Go.Sort.grow (w.drewN k) os) := by
  refine ⟨rfl, rfl, rfl, ?_, fun i hi => ?_⟩
  · show w.heap.size ≤ (w.heap ++ os).size
    rw [Array.size_append]; omega
  · show (w.heap ++ os)[i]? = w.heap[i]?
    rw [Array.getElem?_append_left hi]
def Tab10 (w : World) : Prop := Lib.TabIs Tryd.prog w "internal/strconv.uint64pow10" .u64 Lib.pow10Tab
theorem gPow : Tryd.prog.globalNamed "internal/strconv.uint64pow10" = some 0 := by kernel_rfl
theorem Tab10.ext {w w' : World} (h : Tab10 w) (hx : Reg.Ext w w') : Tab10 w' := by
  have hlt : 0 < w.heap.size := World.block_lt_of_cell? w _ (Lib.TabIs.cell h gPow 0 (by rw [Lib.pow10Tab_length]; omega))
  unfold Tab10 Lib.TabIs at *
  rw [← h]
  simp only [World.var?, gPow, Option.bind_some, hx.block _ hlt]
theorem dec_any (n : Int) (w : World) (h0 : -9223372036854775808 ≤ n) (h1 : n ≤ 9223372036854775807) (ht : Tab10 w) : Calls Tryd.prog 24 #[.int .i64 n] w fun e w' => e = .returned (.string ⟨(Lib.itoa n).toArray⟩) ∧ Reg.Ext w w' := by
  have HT := Lib.hid ht
  clear ht
  go_enter Tryd.func24, Tryd.ntmps24
  go_wp2_with fail
  refine (Go.Proofs.Tryd.strconv_Itoa n h0 h1 w HT.out).mono ?_
  rintro e w1 ⟨rfl, k, os, rfl⟩
  have X1 := Lib.hid (ext_grow w k os)
  generalize Go.Sort.grow (w.drewN k) os = w2 at *
  go_wp2_with fail
  go_ret
  exact ⟨rfl, X1.out⟩
end Hex
end Go.Proofs.YtdnaijaamnfgmaaDoor

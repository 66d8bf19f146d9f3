/- The log's operations at nil; begins. -/
import Derived.Test.YtafeealbdpmdkaaDoorDyE
set_option linter.unusedSimpArgs false
set_option linter.unusedVariables false
set_option linter.unusedSectionVars false
namespace Go.Proofs.YtafeealbdpmdkaaDoor
open Go Go.RowKit
namespace Plk
open Slp (S RdS sameL)
theorem open_nil (w : World) : Calls Tryd.prog 8 #[.pointer none] w fun e w' => e = .returned (.tuple #[.pointer none, .slice none 0 0, .int .i64 2]) ∧ w' = w := by
  go_enter Tryd.func8, Tryd.ntmps8
  go_wp2_with fail
  go_ret3
  exact ⟨rfl, rfl⟩
theorem add_nil (x : S) (w : World) : Calls Tryd.prog 11 #[.pointer none, .agg x.cells.toArray] w fun e w' => e = .returned (.int .i64 2) ∧ Reg.Ext w w' := by
  have hx1 := Reg.Ext.alloc w (Obj.cells x.cells.toArray 37)
  go_enter Tryd.func11, Tryd.ntmps11
  go_wp2_with fail
  go_ret
  exact ⟨rfl, hx1⟩
theorem sync_nil (w : World) : Calls Tryd.prog 12 #[.pointer none] w fun e w' => e = .returned (.int .i64 2) ∧ w' = w := by
  go_enter Tryd.func12, Tryd.ntmps12
  go_wp2_with fail
  go_ret
  exact ⟨rfl, rfl⟩
theorem rew_nil (w : World) : Calls Tryd.prog 18 #[.pointer none, .slice none 0 0] w fun e w' => e = .returned (.int .i64 2) ∧ w' = w := by
  go_enter Tryd.func18, Tryd.ntmps18
  go_wp2_with fail
  go_ret
  exact ⟨rfl, rfl⟩
theorem sick_nil (w : World) : Calls Tryd.prog 17 #[.pointer none] w fun e w' => e = .returned (.bool true) ∧ w' = w := by
  go_enter Tryd.func17, Tryd.ntmps17
  go_wp2_with fail
  go_ret
  exact ⟨rfl, rfl⟩
theorem len_nil (w : World) : Calls Tryd.prog 20 #[.pointer none] w fun e w' => e = .returned (.int .i64 0) ∧ w' = w := by
  go_enter Tryd.func20, Tryd.ntmps20
  go_wp2_with fail
  go_ret
  exact ⟨rfl, rfl⟩
theorem sure_nil (w : World) : Calls Tryd.prog 13 #[.pointer none] w fun e w' => e = .returned (.int .i64 0) ∧ w' = w := by
  go_enter Tryd.func13, Tryd.ntmps13
  go_wp2_with fail
  go_ret
  exact ⟨rfl, rfl⟩
theorem ysize_nil (w : World) : Calls Tryd.prog 23 #[.pointer none] w fun e w' => e = .returned (.int .i64 0) ∧ w' = w := by
  go_enter Tryd.func23, Tryd.ntmps23
  go_wp2_with fail
  go_ret
  exact ⟨rfl, rfl⟩
def beginsB (xs ys : List S) : Bool := decide (ys.length ≤ xs.length) && sameL (xs.take ys.length) ys
theorem RdS.take {p : Option Addr} {c : Nat} {xs : List S} {w : World} (h : RdS (.slice p xs.length c) xs w) (k : Nat) (hk : k ≤ xs.length) (c' : Nat) : RdS (.slice p k c') (xs.take k) w := by
  obtain ⟨h1, p', c1, e, h3, h4⟩ := h
  injection e with e _ _
  subst e
  refine ⟨fun x hx => h1 x (List.mem_of_mem_take hx), p, c', by rw [List.length_take, Nat.min_eq_left hk], by rw [List.length_take]; omega, fun j hj => ?_⟩
  rw [List.length_take] at hj
  obtain ⟨g, o, e1, e2⟩ := h4 j (by omega)
  exact ⟨g, o, e1, by rw [List.getElem_take]; exact e2⟩
end Plk
end Go.Proofs.YtafeealbdpmdkaaDoor

/- The log's operations at nil; begins. -/
import Derived.Test.YtafeealbdpmdkaaGreatDoorDyE
set_option linter.unusedSimpArgs false
set_option linter.unusedVariables false
set_option linter.unusedSectionVars false
-- squeezed
namespace Go.Proofs.YtafeealbdpmdkaaGreatDoor
open Go Go.RowKit
namespace Plk
open Slp (S RdS sameL)
theorem RdS.take {p : Option Addr} {c : Nat} {xs : List S} {w : World} (h : RdS (.slice p xs.length c) xs w) (k : Nat) (hk : k ≤ xs.length) (c' : Nat) : RdS (.slice p k c') (xs.take k) w := by
 obtain ⟨h1, p', c1, e, h3, h4⟩ := h
 injection e with e _ _
 subst e
 refine ⟨fun x hx => h1 x (List.mem_of_mem_take hx), p, c', by rw [List.length_take, Nat.min_eq_left hk], by rw [List.length_take]; omega, fun j hj => ?_⟩
 rw [List.length_take] at hj
 obtain ⟨g, o, e1, e2⟩ := h4 j (by omega)
 exact ⟨g, o, e1, by rw [List.getElem_take]; exact e2⟩
end Plk
end Go.Proofs.YtafeealbdpmdkaaGreatDoor

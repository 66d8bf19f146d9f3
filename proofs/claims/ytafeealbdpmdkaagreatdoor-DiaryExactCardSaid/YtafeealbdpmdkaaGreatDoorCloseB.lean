/- An array of bytes that came in. -/
import Derived.Test.YtafeealbdpmdkaaGreatDoorClose
import Derived.WideKeyArr2
set_option linter.unusedSimpArgs false
set_option linter.unusedVariables false
set_option linter.unusedSectionVars false
-- squeezed
namespace Go.Proofs.YtafeealbdpmdkaaGreatDoor
open Go.ChangeShapes Go.WideShapes Go.ChangeAt Go.RowKit Go.WideMaps Go.WideElems
namespace Close
variable {H : Type} {enc : TypeId × Value → H}
theorem list_of_bytes : ∀ (xs : List Value), (∀ x ∈ xs, ∃ a : Int, x = .int .u8 a ∧ 0 ≤ a ∧ a ≤ 255) → ∃ l : List UInt8, xs = l.map byteV
 | [], _ => ⟨[], rfl⟩
 | x :: xs, h => by
   obtain ⟨l, rfl⟩ := list_of_bytes xs fun y hy => h y (List.mem_cons_of_mem _ hy)
   obtain ⟨a, rfl, h0, h1⟩ := h x List.mem_cons_self
   refine ⟨UInt8.ofNat a.toNat :: l, ?_⟩
   rw [List.map_cons]
   congr 1
   unfold byteV
   rw [UInt8.toNat_ofNat']
   congr 1
   omega
end Close
end Go.Proofs.YtafeealbdpmdkaaGreatDoor

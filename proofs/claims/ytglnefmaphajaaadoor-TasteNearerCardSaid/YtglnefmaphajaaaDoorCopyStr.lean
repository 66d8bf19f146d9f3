/- copy(dst, s), s a string: as many bytes as fit. No program in sight. -/
import Derived.Test.YtglnefmaphajaaaDoorBlk
import Derived.Lib.LazyBuf
import Derived.Lib.BufferWrite
import Derived.Deep.RegionLaw
set_option linter.unusedSimpArgs false
set_option linter.unusedVariables false
set_option linter.unusedSectionVars false
namespace Go.Proofs.YtglnefmaphajaaaDoor
open Go Go.RowKit
theorem run_copy_str {P : Program} (w : World) (dT sT ty elem : TypeId) (b o dLen dCap : Nat) (t : ByteArray)
    (hu : P.underlying dT = some (.slice elem)) (hz : ∀ w, (Go.sizeOf elem).run P w = .ok 1 w)
    (hc : ∀ j, j < min t.size dLen → (w.cell? ⟨b, o + j, none⟩).isSome = true) (hf : ∀ j, j < min t.size dLen → w.frozen? ⟨b, o + j, none⟩ = false) :
    (Builtin.copy_ #[dT, sT] ty #[.slice (some ⟨b, o, none⟩) dLen dCap, .string t]).run P w = .ok (.int .i64 ((min t.size dLen : Nat) : Int)) (w.setCells b o ((t.data.toList.take (min t.size dLen)).map byteV)) := by
  have hl : ((t.data.toList.take (min t.size dLen)).map byteV).length = min t.size dLen := by rw [List.length_map, List.length_take, len_data]; omega
  have hst := run_storeCells_cells (P := P) b o ((t.data.toList.take (min t.size dLen)).map byteV) 0 w (by rw [hl]; simpa using hc) (by rw [hl]; simpa using hf) (by
    intro v hv
    obtain ⟨x, _, rfl⟩ := List.mem_map.1 hv
    rfl)
  have hmin : Nat.min t.size dLen = min t.size dLen := rfl
  have hmap : List.take (min t.size dLen) (List.map (fun b : UInt8 => Value.int IntKind.u8 (b.toNat : Int)) t.data.toList) = (t.data.toList.take (min t.size dLen)).map byteV := by rw [List.map_take]; rfl
  simp [Builtin.copy_, run_underlying hu, Builtin.lenOf, Builtin.firstCells, hz, hmin]
  rw [hmap, hst, ← List.map_take]
  rfl
theorem wpList_copy_str {P : Program} {ops : Array Oper} {rest : List Oper} {o : Oper} {a : Act} {w : World} {Q : Exit → Act → World → Prop}
    (hg : o.guard = none) (d x : Operand) (dT sT : TypeId) (hop : o.op = Op.call { callee := Callee.builtin Builtin.copy, args := #[d, x], argTypes := #[dT, sT] })
    (elem : TypeId) (hu : P.underlying dT = some (.slice elem)) (hz : ∀ w, (Go.sizeOf elem).run P w = .ok 1 w)
    (b off dLen dCap : Nat) (hd : a.eval d = .slice (some ⟨b, off, none⟩) dLen dCap) (t : ByteArray) (hx : a.eval x = .string t)
    (hc : ∀ j, j < min t.size dLen → (w.cell? ⟨b, off + j, none⟩).isSome = true) (hf : ∀ j, j < min t.size dLen → w.frozen? ⟨b, off + j, none⟩ = false)
    (hK : wpList P ops Q rest (a.put o.dst (.int .i64 ((min t.size dLen : Nat) : Int))) (w.setCells b off ((t.data.toList.take (min t.size dLen)).map byteV))) : wpList P ops Q (o :: rest) a w := by
  refine wpList_plain hg fun K hK' => ?_
  have hrun := run_copy_str (P := P) w dT sT o.type elem b off dLen dCap t hu hz hc hf
  unfold Oper.wp
  simp [execOp, hop, resolve, invoke, builtin, hd, hx, hrun, Result.andThen]
  rw [← List.map_take]
  exact hK' _ _ hK
end Go.Proofs.YtglnefmaphajaaaDoor

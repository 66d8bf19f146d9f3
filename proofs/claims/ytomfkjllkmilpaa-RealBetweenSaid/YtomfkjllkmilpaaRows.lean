/-
  No cell of these rows narrows 'for every input' (looked for: loops, veiled, ifaces, maps, wideKeys, modest, calm, conditions, laid).
  DERIVED. THE GIVEN ROWS OF THIS SEAT. 6 by the template 'for every input the law returns true; each argument reads behind the call as it read before'; 0 by the template 'total and deterministic' (their statements: YtomfkjllkmilpaaTotals.lean).
  GIVEN WITH THE SEED: the statements are not yours to turn. If you find one false, say at which input.
  Laid BY PROGRAM, IN A SANDBOX (cutbox-rows.mjs): the forced cells as the released guide's own fill.sh prints them over the translation e30d598da6a04804… (all of the seat's roots in one cut). By AI agents, Wed Nov 11 2026. No macro, syntax, notation, axiom, sorry.
-/
import Derived.Test.YtomfkjllkmilpaaChecked
import GoSem.Claim
import GoSem.ClaimJoined
import GoSem.ClaimMapViews
import Derived.JoinedTies
import Derived.KernelRfl
namespace Go.Proofs.Ytomfkjllkmilpaa
/- THE CELL 'sum', in the pinned program and in every row, IS THE sha256 OF THE DUMP (.gsa) THAT YtomfkjllkmilpaaProg.lean LOADS. Nothing in Lean hashes anything: it is a label: what it is worth is what the hold of that sum in a sandbox is worth. -/
noncomputable def Try.pinned : Pinned := { name := "ytomfkjllkmilpaa", sum := "e30d598da6a04804f0b36e57a2c26e67bd4eea0caa4b53414454428246fd76b1", checked := Try.checked }
namespace Rows
def none {H : Type} : Left H := { results := [], args := [] }

/-- 'manciplelaw05.RealWeights': WHATEVER THE INPUT: true; the input reads as it did. -/
def realWeightsSpec : ChangeSpec := { name := "realWeights", fn := fun _ => fun
  | [d1, d2] => { results := [.lit (.bool true)], args := [d1, d2] }
  | _ => none }
def realWeightsRow : OpenClaim := { program := "ytomfkjllkmilpaa", sum := "e30d598da6a04804f0b36e57a2c26e67bd4eea0caa4b53414454428246fd76b1", func := "manciple/manciplelaw05.RealWeights", spec := "realWeights", inPlace := ["math.Float64bits", "math.Float64frombits"], apart := false }
def RealWeightsSaid : Prop := realWeightsRow.holds Try.pinned (OpenSpec.ofChange realWeightsSpec)

/-- ITS FALSE NEIGHBOUR: 'it returns false'. Refute it at one input. -/
def realWeightsWrong : ChangeSpec := { name := "realWeights", fn := fun _ => fun
  | [d1, d2] => { results := [.lit (.bool false)], args := [d1, d2] }
  | _ => none }
def RealWeightsWrongFalsely : Prop := realWeightsRow.holds Try.pinned (OpenSpec.ofChange realWeightsWrong)

/-- 'manciplelaw05.RealRow': WHATEVER THE INPUT: true; the input reads as it did. -/
def realRowSpec : ChangeSpec := { name := "realRow", fn := fun _ => fun
  | [d1, d2, d3] => { results := [.lit (.bool true)], args := [d1, d2, d3] }
  | _ => none }
def realRowRow : OpenClaim := { program := "ytomfkjllkmilpaa", sum := "e30d598da6a04804f0b36e57a2c26e67bd4eea0caa4b53414454428246fd76b1", func := "manciple/manciplelaw05.RealRow", spec := "realRow", inPlace := ["math.Float64bits", "math.Float64frombits"], apart := false }
def RealRowSaid : Prop := realRowRow.holds Try.pinned (OpenSpec.ofChange realRowSpec)

/-- ITS FALSE NEIGHBOUR: 'it returns false'. Refute it at one input. -/
def realRowWrong : ChangeSpec := { name := "realRow", fn := fun _ => fun
  | [d1, d2, d3] => { results := [.lit (.bool false)], args := [d1, d2, d3] }
  | _ => none }
def RealRowWrongFalsely : Prop := realRowRow.holds Try.pinned (OpenSpec.ofChange realRowWrong)

/-- 'manciplelaw05.RealOrders': WHATEVER THE INPUT: true; the input reads as it did. -/
def realOrdersSpec : ChangeSpec := { name := "realOrders", fn := fun _ => fun
  | [d1, d2, d3] => { results := [.lit (.bool true)], args := [d1, d2, d3] }
  | _ => none }
def realOrdersRow : OpenClaim := { program := "ytomfkjllkmilpaa", sum := "e30d598da6a04804f0b36e57a2c26e67bd4eea0caa4b53414454428246fd76b1", func := "manciple/manciplelaw05.RealOrders", spec := "realOrders", inPlace := ["math.Float64bits", "math.Float64frombits"], apart := false }
def RealOrdersSaid : Prop := realOrdersRow.holds Try.pinned (OpenSpec.ofChange realOrdersSpec)

/-- ITS FALSE NEIGHBOUR: 'it returns false'. Refute it at one input. -/
def realOrdersWrong : ChangeSpec := { name := "realOrders", fn := fun _ => fun
  | [d1, d2, d3] => { results := [.lit (.bool false)], args := [d1, d2, d3] }
  | _ => none }
def RealOrdersWrongFalsely : Prop := realOrdersRow.holds Try.pinned (OpenSpec.ofChange realOrdersWrong)

/-- 'manciplelaw05.RealTexts': WHATEVER THE INPUT: true; the input reads as it did. -/
def realTextsSpec : ChangeSpec := { name := "realTexts", fn := fun _ => fun
  | [d1, d2, d3, d4] => { results := [.lit (.bool true)], args := [d1, d2, d3, d4] }
  | _ => none }
def realTextsRow : OpenClaim := { program := "ytomfkjllkmilpaa", sum := "e30d598da6a04804f0b36e57a2c26e67bd4eea0caa4b53414454428246fd76b1", func := "manciple/manciplelaw05.RealTexts", spec := "realTexts", inPlace := ["math.Float64bits", "math.Float64frombits"], apart := false }
def RealTextsSaid : Prop := realTextsRow.holds Try.pinned (OpenSpec.ofChange realTextsSpec)

/-- ITS FALSE NEIGHBOUR: 'it returns false'. Refute it at one input. -/
def realTextsWrong : ChangeSpec := { name := "realTexts", fn := fun _ => fun
  | [d1, d2, d3, d4] => { results := [.lit (.bool false)], args := [d1, d2, d3, d4] }
  | _ => none }
def RealTextsWrongFalsely : Prop := realTextsRow.holds Try.pinned (OpenSpec.ofChange realTextsWrong)

/-- 'manciplelaw05.RealBack': WHATEVER THE INPUT: true; the input reads as it did. -/
def realBackSpec : ChangeSpec := { name := "realBack", fn := fun _ => fun
  | [d1, d2, d3] => { results := [.lit (.bool true)], args := [d1, d2, d3] }
  | _ => none }
def realBackRow : OpenClaim := { program := "ytomfkjllkmilpaa", sum := "e30d598da6a04804f0b36e57a2c26e67bd4eea0caa4b53414454428246fd76b1", func := "manciple/manciplelaw05.RealBack", spec := "realBack", inPlace := ["math.Float64bits", "math.Float64frombits"], apart := false }
def RealBackSaid : Prop := realBackRow.holds Try.pinned (OpenSpec.ofChange realBackSpec)

/-- ITS FALSE NEIGHBOUR: 'it returns false'. Refute it at one input. -/
def realBackWrong : ChangeSpec := { name := "realBack", fn := fun _ => fun
  | [d1, d2, d3] => { results := [.lit (.bool false)], args := [d1, d2, d3] }
  | _ => none }
def RealBackWrongFalsely : Prop := realBackRow.holds Try.pinned (OpenSpec.ofChange realBackWrong)

/-- 'manciplelaw05.RealBetween': WHATEVER THE INPUT: true; the input reads as it did. -/
def realBetweenSpec : ChangeSpec := { name := "realBetween", fn := fun _ => fun
  | [d1, d2, d3] => { results := [.lit (.bool true)], args := [d1, d2, d3] }
  | _ => none }
def realBetweenRow : OpenClaim := { program := "ytomfkjllkmilpaa", sum := "e30d598da6a04804f0b36e57a2c26e67bd4eea0caa4b53414454428246fd76b1", func := "manciple/manciplelaw05.RealBetween", spec := "realBetween", inPlace := ["math.Float64bits", "math.Float64frombits"], apart := false }
def RealBetweenSaid : Prop := realBetweenRow.holds Try.pinned (OpenSpec.ofChange realBetweenSpec)

/-- ITS FALSE NEIGHBOUR: 'it returns false'. Refute it at one input. -/
def realBetweenWrong : ChangeSpec := { name := "realBetween", fn := fun _ => fun
  | [d1, d2, d3] => { results := [.lit (.bool false)], args := [d1, d2, d3] }
  | _ => none }
def RealBetweenWrongFalsely : Prop := realBetweenRow.holds Try.pinned (OpenSpec.ofChange realBetweenWrong)

/- THE SECOND FORM. 'bulk': how many values and letters a reading holds, each counted each time it is reached (what is shared counts as often as it is met; a slice's spare places count too). A statement '..UptoSaid' is the law's where the arguments, and the package variables that the reading takes, are together of bulk at most 1048576: NARROWER than '..Said'. Prove '..Said' where nothing that the law and all that it calls make is longer than what came in: it says more and counts as full. Else prove '..UptoSaid'. A law counts once. -/
mutual
def uptoBulk {H : Type} : DataW H → Nat
  | .lit (.string bytes) => bytes.length + 1
  | .lit _ => 1
  | .nil => 1
  | .ptr d => uptoBulk d + 1
  | .slice elems spare => uptoBulkAll elems + uptoBulkAll spare + 1
  | .agg parts => uptoBulkAll parts + 1
  | .iface _ d => uptoBulk d + 1
  | .map entries => uptoBulkEntries entries + 1
  | .held _ => 1
def uptoBulkAll {H : Type} : List (DataW H) → Nat
  | [] => 0
  | d :: r => uptoBulk d + uptoBulkAll r
def uptoBulkEntries {H : Type} : List (Lit × DataW H) → Nat
  | [] => 0
  | x :: r => uptoBulkEntry x + uptoBulkEntries r
def uptoBulkEntry {H : Type} : Lit × DataW H → Nat
  | (.string bytes, d) => bytes.length + uptoBulk d + 1
  | (_, d) => uptoBulk d + 1
 end
def uptoSmall : (H : Type) → List (DataW H) → Bool := fun _ ds => decide (uptoBulkAll ds ≤ 1048576)
def OpenSpec.upto (s : _root_.Go.ChangeSpec) : _root_.Go.OpenSpec := { _root_.Go.OpenSpec.ofChange s with cond := some uptoSmall }

/-- 'manciplelaw05.RealWeights', WHERE WHAT IT READS IS OF BULK AT MOST 1048576: true; the input reads as it did. -/
def realWeightsUptoRow : OpenClaim := { program := "ytomfkjllkmilpaa", sum := "e30d598da6a04804f0b36e57a2c26e67bd4eea0caa4b53414454428246fd76b1", func := "manciple/manciplelaw05.RealWeights", spec := "realWeights", inPlace := ["math.Float64bits", "math.Float64frombits"], apart := false, narrowed := true }
def RealWeightsUptoSaid : Prop := realWeightsUptoRow.holds Try.pinned (OpenSpec.upto realWeightsSpec)

/-- 'manciplelaw05.RealRow', WHERE WHAT IT READS IS OF BULK AT MOST 1048576: true; the input reads as it did. -/
def realRowUptoRow : OpenClaim := { program := "ytomfkjllkmilpaa", sum := "e30d598da6a04804f0b36e57a2c26e67bd4eea0caa4b53414454428246fd76b1", func := "manciple/manciplelaw05.RealRow", spec := "realRow", inPlace := ["math.Float64bits", "math.Float64frombits"], apart := false, narrowed := true }
def RealRowUptoSaid : Prop := realRowUptoRow.holds Try.pinned (OpenSpec.upto realRowSpec)

/-- 'manciplelaw05.RealOrders', WHERE WHAT IT READS IS OF BULK AT MOST 1048576: true; the input reads as it did. -/
def realOrdersUptoRow : OpenClaim := { program := "ytomfkjllkmilpaa", sum := "e30d598da6a04804f0b36e57a2c26e67bd4eea0caa4b53414454428246fd76b1", func := "manciple/manciplelaw05.RealOrders", spec := "realOrders", inPlace := ["math.Float64bits", "math.Float64frombits"], apart := false, narrowed := true }
def RealOrdersUptoSaid : Prop := realOrdersUptoRow.holds Try.pinned (OpenSpec.upto realOrdersSpec)

/-- 'manciplelaw05.RealTexts', WHERE WHAT IT READS IS OF BULK AT MOST 1048576: true; the input reads as it did. -/
def realTextsUptoRow : OpenClaim := { program := "ytomfkjllkmilpaa", sum := "e30d598da6a04804f0b36e57a2c26e67bd4eea0caa4b53414454428246fd76b1", func := "manciple/manciplelaw05.RealTexts", spec := "realTexts", inPlace := ["math.Float64bits", "math.Float64frombits"], apart := false, narrowed := true }
def RealTextsUptoSaid : Prop := realTextsUptoRow.holds Try.pinned (OpenSpec.upto realTextsSpec)

/-- 'manciplelaw05.RealBack', WHERE WHAT IT READS IS OF BULK AT MOST 1048576: true; the input reads as it did. -/
def realBackUptoRow : OpenClaim := { program := "ytomfkjllkmilpaa", sum := "e30d598da6a04804f0b36e57a2c26e67bd4eea0caa4b53414454428246fd76b1", func := "manciple/manciplelaw05.RealBack", spec := "realBack", inPlace := ["math.Float64bits", "math.Float64frombits"], apart := false, narrowed := true }
def RealBackUptoSaid : Prop := realBackUptoRow.holds Try.pinned (OpenSpec.upto realBackSpec)

/-- 'manciplelaw05.RealBetween', WHERE WHAT IT READS IS OF BULK AT MOST 1048576: true; the input reads as it did. -/
def realBetweenUptoRow : OpenClaim := { program := "ytomfkjllkmilpaa", sum := "e30d598da6a04804f0b36e57a2c26e67bd4eea0caa4b53414454428246fd76b1", func := "manciple/manciplelaw05.RealBetween", spec := "realBetween", inPlace := ["math.Float64bits", "math.Float64frombits"], apart := false, narrowed := true }
def RealBetweenUptoSaid : Prop := realBetweenUptoRow.holds Try.pinned (OpenSpec.upto realBetweenSpec)

end Rows
end Go.Proofs.Ytomfkjllkmilpaa

/-
  No cell of these rows narrows 'for every input' (looked for: loops, veiled, ifaces, maps, wideKeys, modest, calm, conditions, laid).
  DERIVED. THE GIVEN ROWS OF THIS SEAT. 6 by the template 'for every input the law returns true; each argument reads behind the call as it read before'; 0 by the template 'total and deterministic' (their statements: YtbppjbheennphaaTotals.lean).
  GIVEN WITH THE SEED: the statements are not yours to turn. If you find one false, say at which input.
  Laid BY PROGRAM, IN A SANDBOX (cutbox-rows.mjs): the forced cells as the released guide's own fill.sh prints them over the translation 3a575c0c0ced6d01… (all of the seat's roots in one cut). By AI agents, Wed Nov 11 2026. No macro, syntax, notation, axiom, sorry.
-/
import Derived.Test.YtbppjbheennphaaChecked
import GoSem.Claim
import GoSem.ClaimJoined
import GoSem.ClaimMapViews
import Derived.JoinedTies
import Derived.KernelRfl
namespace Go.Proofs.Ytbppjbheennphaa
/- THE CELL 'sum', in the pinned program and in every row, IS THE sha256 OF THE DUMP (.gsa) THAT YtbppjbheennphaaProg.lean LOADS. Nothing in Lean hashes anything: it is a label: what it is worth is what the hold of that sum in a sandbox is worth. -/
noncomputable def Try.pinned : Pinned := { name := "ytbppjbheennphaa", sum := "3a575c0c0ced6d016a22e57768ec92683ca7a46eeec16e951981d793f2a54bcd", checked := Try.checked }
namespace Rows
def none {H : Type} : Left H := { results := [], args := [] }

/-- 'manciplelaw06.TermEnds': WHATEVER THE INPUT: true; the input reads as it did. -/
def termEndsSpec : ChangeSpec := { name := "termEnds", fn := fun _ => fun
  | [d1, d2, d3] => { results := [.lit (.bool true)], args := [d1, d2, d3] }
  | _ => none }
def termEndsRow : OpenClaim := { program := "ytbppjbheennphaa", sum := "3a575c0c0ced6d016a22e57768ec92683ca7a46eeec16e951981d793f2a54bcd", func := "manciple/manciplelaw06.TermEnds", spec := "termEnds", inPlace := ["math.Float64bits", "math.Float64frombits", "math.archCeil", "math.archFloor", "math.archTrunc"], apart := false }
def TermEndsSaid : Prop := termEndsRow.holds Try.pinned (OpenSpec.ofChange termEndsSpec)

/-- ITS FALSE NEIGHBOUR: 'it returns false'. Refute it at one input. -/
def termEndsWrong : ChangeSpec := { name := "termEnds", fn := fun _ => fun
  | [d1, d2, d3] => { results := [.lit (.bool false)], args := [d1, d2, d3] }
  | _ => none }
def TermEndsWrongFalsely : Prop := termEndsRow.holds Try.pinned (OpenSpec.ofChange termEndsWrong)

/-- 'manciplelaw06.TermWaits': WHATEVER THE INPUT: true; the input reads as it did. -/
def termWaitsSpec : ChangeSpec := { name := "termWaits", fn := fun _ => fun
  | [d1, d2] => { results := [.lit (.bool true)], args := [d1, d2] }
  | _ => none }
def termWaitsRow : OpenClaim := { program := "ytbppjbheennphaa", sum := "3a575c0c0ced6d016a22e57768ec92683ca7a46eeec16e951981d793f2a54bcd", func := "manciple/manciplelaw06.TermWaits", spec := "termWaits", inPlace := ["math.Float64bits", "math.Float64frombits", "math.archCeil", "math.archFloor", "math.archTrunc"], apart := false }
def TermWaitsSaid : Prop := termWaitsRow.holds Try.pinned (OpenSpec.ofChange termWaitsSpec)

/-- ITS FALSE NEIGHBOUR: 'it returns false'. Refute it at one input. -/
def termWaitsWrong : ChangeSpec := { name := "termWaits", fn := fun _ => fun
  | [d1, d2] => { results := [.lit (.bool false)], args := [d1, d2] }
  | _ => none }
def TermWaitsWrongFalsely : Prop := termWaitsRow.holds Try.pinned (OpenSpec.ofChange termWaitsWrong)

/-- 'manciplelaw06.TermNearest': WHATEVER THE INPUT: true; the input reads as it did. -/
def termNearestSpec : ChangeSpec := { name := "termNearest", fn := fun _ => fun
  | [d] => { results := [.lit (.bool true)], args := [d] }
  | _ => none }
def termNearestRow : OpenClaim := { program := "ytbppjbheennphaa", sum := "3a575c0c0ced6d016a22e57768ec92683ca7a46eeec16e951981d793f2a54bcd", func := "manciple/manciplelaw06.TermNearest", spec := "termNearest", inPlace := ["math.Float64bits", "math.Float64frombits", "math.archCeil", "math.archFloor", "math.archTrunc"], apart := false }
def TermNearestSaid : Prop := termNearestRow.holds Try.pinned (OpenSpec.ofChange termNearestSpec)

/-- ITS FALSE NEIGHBOUR: 'it returns false'. Refute it at one input. -/
def termNearestWrong : ChangeSpec := { name := "termNearest", fn := fun _ => fun
  | [d] => { results := [.lit (.bool false)], args := [d] }
  | _ => none }
def TermNearestWrongFalsely : Prop := termNearestRow.holds Try.pinned (OpenSpec.ofChange termNearestWrong)

/-- 'manciplelaw06.TermExact': WHATEVER THE INPUT: true; the input reads as it did. -/
def termExactSpec : ChangeSpec := { name := "termExact", fn := fun _ => fun
  | [d1, d2, d3] => { results := [.lit (.bool true)], args := [d1, d2, d3] }
  | _ => none }
def termExactRow : OpenClaim := { program := "ytbppjbheennphaa", sum := "3a575c0c0ced6d016a22e57768ec92683ca7a46eeec16e951981d793f2a54bcd", func := "manciple/manciplelaw06.TermExact", spec := "termExact", inPlace := ["math.Float64bits", "math.Float64frombits", "math.archCeil", "math.archFloor", "math.archTrunc"], apart := false }
def TermExactSaid : Prop := termExactRow.holds Try.pinned (OpenSpec.ofChange termExactSpec)

/-- ITS FALSE NEIGHBOUR: 'it returns false'. Refute it at one input. -/
def termExactWrong : ChangeSpec := { name := "termExact", fn := fun _ => fun
  | [d1, d2, d3] => { results := [.lit (.bool false)], args := [d1, d2, d3] }
  | _ => none }
def TermExactWrongFalsely : Prop := termExactRow.holds Try.pinned (OpenSpec.ofChange termExactWrong)

/-- 'manciplelaw06.TermOlder': WHATEVER THE INPUT: true; the input reads as it did. -/
def termOlderSpec : ChangeSpec := { name := "termOlder", fn := fun _ => fun
  | [d1, d2, d3, d4] => { results := [.lit (.bool true)], args := [d1, d2, d3, d4] }
  | _ => none }
def termOlderRow : OpenClaim := { program := "ytbppjbheennphaa", sum := "3a575c0c0ced6d016a22e57768ec92683ca7a46eeec16e951981d793f2a54bcd", func := "manciple/manciplelaw06.TermOlder", spec := "termOlder", inPlace := ["math.Float64bits", "math.Float64frombits", "math.archCeil", "math.archFloor", "math.archTrunc"], apart := false }
def TermOlderSaid : Prop := termOlderRow.holds Try.pinned (OpenSpec.ofChange termOlderSpec)

/-- ITS FALSE NEIGHBOUR: 'it returns false'. Refute it at one input. -/
def termOlderWrong : ChangeSpec := { name := "termOlder", fn := fun _ => fun
  | [d1, d2, d3, d4] => { results := [.lit (.bool false)], args := [d1, d2, d3, d4] }
  | _ => none }
def TermOlderWrongFalsely : Prop := termOlderRow.holds Try.pinned (OpenSpec.ofChange termOlderWrong)

/-- 'manciplelaw06.TermFirst': WHATEVER THE INPUT: true; the input reads as it did. -/
def termFirstSpec : ChangeSpec := { name := "termFirst", fn := fun _ => fun
  | [d] => { results := [.lit (.bool true)], args := [d] }
  | _ => none }
def termFirstRow : OpenClaim := { program := "ytbppjbheennphaa", sum := "3a575c0c0ced6d016a22e57768ec92683ca7a46eeec16e951981d793f2a54bcd", func := "manciple/manciplelaw06.TermFirst", spec := "termFirst", inPlace := ["math.Float64bits", "math.Float64frombits", "math.archCeil", "math.archFloor", "math.archTrunc"], apart := false }
def TermFirstSaid : Prop := termFirstRow.holds Try.pinned (OpenSpec.ofChange termFirstSpec)

/-- ITS FALSE NEIGHBOUR: 'it returns false'. Refute it at one input. -/
def termFirstWrong : ChangeSpec := { name := "termFirst", fn := fun _ => fun
  | [d] => { results := [.lit (.bool false)], args := [d] }
  | _ => none }
def TermFirstWrongFalsely : Prop := termFirstRow.holds Try.pinned (OpenSpec.ofChange termFirstWrong)

/- THE SECOND FORM. 'bulk': how many values and letters a reading holds, each counted each time it is reached (what is shared counts as often as it is met; a slice's spare places count too). A statement '..UptoSaid' is the law's where the arguments, and the package variables that the reading takes, are together of bulk at most 1048576: NARROWER than '..Said'. Prove '..Said' where nothing that the law and all that it calls make is longer than what came in: it says more and counts as full. Else prove '..UptoSaid'. A law counts once. -/
mutual
def uptoBulk {H : Type} : DataW H → Nat
  | .lit (.string bytes) => bytes.length + 1
  | .lit _ => 1
  | .nil => 1
  | .ptr d => uptoBulk d + 1
  | .slice elems spare => uptoBulkAll elems + uptoBulkAll spare + 1
  | .agg parts => uptoBulkAll parts + 1
  | .iface _ d => uptoBulk d + 1
  | .map entries => uptoBulkEntries entries + 1
  | .held _ => 1
def uptoBulkAll {H : Type} : List (DataW H) → Nat
  | [] => 0
  | d :: r => uptoBulk d + uptoBulkAll r
def uptoBulkEntries {H : Type} : List (Lit × DataW H) → Nat
  | [] => 0
  | x :: r => uptoBulkEntry x + uptoBulkEntries r
def uptoBulkEntry {H : Type} : Lit × DataW H → Nat
  | (.string bytes, d) => bytes.length + uptoBulk d + 1
  | (_, d) => uptoBulk d + 1
 end
def uptoSmall : (H : Type) → List (DataW H) → Bool := fun _ ds => decide (uptoBulkAll ds ≤ 1048576)
def OpenSpec.upto (s : _root_.Go.ChangeSpec) : _root_.Go.OpenSpec := { _root_.Go.OpenSpec.ofChange s with cond := some uptoSmall }

/-- 'manciplelaw06.TermEnds', WHERE WHAT IT READS IS OF BULK AT MOST 1048576: true; the input reads as it did. -/
def termEndsUptoRow : OpenClaim := { program := "ytbppjbheennphaa", sum := "3a575c0c0ced6d016a22e57768ec92683ca7a46eeec16e951981d793f2a54bcd", func := "manciple/manciplelaw06.TermEnds", spec := "termEnds", inPlace := ["math.Float64bits", "math.Float64frombits", "math.archCeil", "math.archFloor", "math.archTrunc"], apart := false, narrowed := true }
def TermEndsUptoSaid : Prop := termEndsUptoRow.holds Try.pinned (OpenSpec.upto termEndsSpec)

/-- 'manciplelaw06.TermWaits', WHERE WHAT IT READS IS OF BULK AT MOST 1048576: true; the input reads as it did. -/
def termWaitsUptoRow : OpenClaim := { program := "ytbppjbheennphaa", sum := "3a575c0c0ced6d016a22e57768ec92683ca7a46eeec16e951981d793f2a54bcd", func := "manciple/manciplelaw06.TermWaits", spec := "termWaits", inPlace := ["math.Float64bits", "math.Float64frombits", "math.archCeil", "math.archFloor", "math.archTrunc"], apart := false, narrowed := true }
def TermWaitsUptoSaid : Prop := termWaitsUptoRow.holds Try.pinned (OpenSpec.upto termWaitsSpec)

/-- 'manciplelaw06.TermNearest', WHERE WHAT IT READS IS OF BULK AT MOST 1048576: true; the input reads as it did. -/
def termNearestUptoRow : OpenClaim := { program := "ytbppjbheennphaa", sum := "3a575c0c0ced6d016a22e57768ec92683ca7a46eeec16e951981d793f2a54bcd", func := "manciple/manciplelaw06.TermNearest", spec := "termNearest", inPlace := ["math.Float64bits", "math.Float64frombits", "math.archCeil", "math.archFloor", "math.archTrunc"], apart := false, narrowed := true }
def TermNearestUptoSaid : Prop := termNearestUptoRow.holds Try.pinned (OpenSpec.upto termNearestSpec)

/-- 'manciplelaw06.TermExact', WHERE WHAT IT READS IS OF BULK AT MOST 1048576: true; the input reads as it did. -/
def termExactUptoRow : OpenClaim := { program := "ytbppjbheennphaa", sum := "3a575c0c0ced6d016a22e57768ec92683ca7a46eeec16e951981d793f2a54bcd", func := "manciple/manciplelaw06.TermExact", spec := "termExact", inPlace := ["math.Float64bits", "math.Float64frombits", "math.archCeil", "math.archFloor", "math.archTrunc"], apart := false, narrowed := true }
def TermExactUptoSaid : Prop := termExactUptoRow.holds Try.pinned (OpenSpec.upto termExactSpec)

/-- 'manciplelaw06.TermOlder', WHERE WHAT IT READS IS OF BULK AT MOST 1048576: true; the input reads as it did. -/
def termOlderUptoRow : OpenClaim := { program := "ytbppjbheennphaa", sum := "3a575c0c0ced6d016a22e57768ec92683ca7a46eeec16e951981d793f2a54bcd", func := "manciple/manciplelaw06.TermOlder", spec := "termOlder", inPlace := ["math.Float64bits", "math.Float64frombits", "math.archCeil", "math.archFloor", "math.archTrunc"], apart := false, narrowed := true }
def TermOlderUptoSaid : Prop := termOlderUptoRow.holds Try.pinned (OpenSpec.upto termOlderSpec)

/-- 'manciplelaw06.TermFirst', WHERE WHAT IT READS IS OF BULK AT MOST 1048576: true; the input reads as it did. -/
def termFirstUptoRow : OpenClaim := { program := "ytbppjbheennphaa", sum := "3a575c0c0ced6d016a22e57768ec92683ca7a46eeec16e951981d793f2a54bcd", func := "manciple/manciplelaw06.TermFirst", spec := "termFirst", inPlace := ["math.Float64bits", "math.Float64frombits", "math.archCeil", "math.archFloor", "math.archTrunc"], apart := false, narrowed := true }
def TermFirstUptoSaid : Prop := termFirstUptoRow.holds Try.pinned (OpenSpec.upto termFirstSpec)

end Rows
end Go.Proofs.Ytbppjbheennphaa

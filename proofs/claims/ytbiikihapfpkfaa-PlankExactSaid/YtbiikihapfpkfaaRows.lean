/-
  No cell of these rows narrows 'for every input' (looked for: loops, veiled, ifaces, maps, wideKeys, modest, calm, conditions, laid).
  DERIVED. THE GIVEN ROWS OF THIS SEAT. 4 by the template 'for every input the law returns true; each argument reads behind the call as it read before'; 0 by the template 'total and deterministic' (their statements: YtbiikihapfpkfaaTotals.lean).
  GIVEN WITH THE SEED: the statements are not yours to turn. If you find one false, say at which input.
  Laid BY PROGRAM, IN A SANDBOX (cutbox-rows.mjs): the forced cells as the released guide's own fill.sh prints them over the translation c4f141383279c402… (all of the seat's roots in one cut). By AI agents, Wed Nov 11 2026. No macro, syntax, notation, axiom, sorry.
-/
import Derived.Test.YtbiikihapfpkfaaChecked
import GoSem.Claim
import GoSem.ClaimJoined
import GoSem.ClaimMapViews
import Derived.JoinedTies
import Derived.KernelRfl
namespace Go.Proofs.Ytbiikihapfpkfaa
/- THE CELL 'sum', in the pinned program and in every row, IS THE sha256 OF THE DUMP (.gsa) THAT YtbiikihapfpkfaaProg.lean LOADS. Nothing in Lean hashes anything: it is a label: what it is worth is what the hold of that sum in a sandbox is worth. -/
noncomputable def Try.pinned : Pinned := { name := "ytbiikihapfpkfaa", sum := "c4f141383279c402864f120031536c5117e215001092123c1a8b3b6811a5446f", checked := Try.checked }
namespace Rows
def none {H : Type} : Left H := { results := [], args := [] }

/-- 'manciplelaw07.PlankKeeps': WHATEVER THE INPUT: true; the input reads as it did. -/
def plankKeepsSpec : ChangeSpec := { name := "plankKeeps", fn := fun _ => fun
  | [d1, d2, d3, d4] => { results := [.lit (.bool true)], args := [d1, d2, d3, d4] }
  | _ => none }
def plankKeepsRow : OpenClaim := { program := "ytbiikihapfpkfaa", sum := "c4f141383279c402864f120031536c5117e215001092123c1a8b3b6811a5446f", func := "manciple/manciplelaw07.PlankKeeps", spec := "plankKeeps", unfollowed := true, recurses := true, apart := false }
def PlankKeepsSaid : Prop := plankKeepsRow.holds Try.pinned (OpenSpec.ofChange plankKeepsSpec)

/-- ITS FALSE NEIGHBOUR: 'it returns false'. Refute it at one input. -/
def plankKeepsWrong : ChangeSpec := { name := "plankKeeps", fn := fun _ => fun
  | [d1, d2, d3, d4] => { results := [.lit (.bool false)], args := [d1, d2, d3, d4] }
  | _ => none }
def PlankKeepsWrongFalsely : Prop := plankKeepsRow.holds Try.pinned (OpenSpec.ofChange plankKeepsWrong)

/-- 'manciplelaw07.PlankFails': WHATEVER THE INPUT: true; the input reads as it did. -/
def plankFailsSpec : ChangeSpec := { name := "plankFails", fn := fun _ => fun
  | [d1, d2] => { results := [.lit (.bool true)], args := [d1, d2] }
  | _ => none }
def plankFailsRow : OpenClaim := { program := "ytbiikihapfpkfaa", sum := "c4f141383279c402864f120031536c5117e215001092123c1a8b3b6811a5446f", func := "manciple/manciplelaw07.PlankFails", spec := "plankFails", unfollowed := true, recurses := true, apart := false }
def PlankFailsSaid : Prop := plankFailsRow.holds Try.pinned (OpenSpec.ofChange plankFailsSpec)

/-- ITS FALSE NEIGHBOUR: 'it returns false'. Refute it at one input. -/
def plankFailsWrong : ChangeSpec := { name := "plankFails", fn := fun _ => fun
  | [d1, d2] => { results := [.lit (.bool false)], args := [d1, d2] }
  | _ => none }
def PlankFailsWrongFalsely : Prop := plankFailsRow.holds Try.pinned (OpenSpec.ofChange plankFailsWrong)

/-- 'manciplelaw07.PlankRoom': WHATEVER THE INPUT: true; the input reads as it did. -/
def plankRoomSpec : ChangeSpec := { name := "plankRoom", fn := fun _ => fun
  | [d1, d2] => { results := [.lit (.bool true)], args := [d1, d2] }
  | _ => none }
def plankRoomRow : OpenClaim := { program := "ytbiikihapfpkfaa", sum := "c4f141383279c402864f120031536c5117e215001092123c1a8b3b6811a5446f", func := "manciple/manciplelaw07.PlankRoom", spec := "plankRoom", unfollowed := true, recurses := true, apart := false }
def PlankRoomSaid : Prop := plankRoomRow.holds Try.pinned (OpenSpec.ofChange plankRoomSpec)

/-- ITS FALSE NEIGHBOUR: 'it returns false'. Refute it at one input. -/
def plankRoomWrong : ChangeSpec := { name := "plankRoom", fn := fun _ => fun
  | [d1, d2] => { results := [.lit (.bool false)], args := [d1, d2] }
  | _ => none }
def PlankRoomWrongFalsely : Prop := plankRoomRow.holds Try.pinned (OpenSpec.ofChange plankRoomWrong)

/-- 'manciplelaw07.PlankExact': WHATEVER THE INPUT: true; the input reads as it did. -/
def plankExactSpec : ChangeSpec := { name := "plankExact", fn := fun _ => fun
  | [d1, d2] => { results := [.lit (.bool true)], args := [d1, d2] }
  | _ => none }
def plankExactRow : OpenClaim := { program := "ytbiikihapfpkfaa", sum := "c4f141383279c402864f120031536c5117e215001092123c1a8b3b6811a5446f", func := "manciple/manciplelaw07.PlankExact", spec := "plankExact", unfollowed := true, recurses := true, apart := false }
def PlankExactSaid : Prop := plankExactRow.holds Try.pinned (OpenSpec.ofChange plankExactSpec)

/-- ITS FALSE NEIGHBOUR: 'it returns false'. Refute it at one input. -/
def plankExactWrong : ChangeSpec := { name := "plankExact", fn := fun _ => fun
  | [d1, d2] => { results := [.lit (.bool false)], args := [d1, d2] }
  | _ => none }
def PlankExactWrongFalsely : Prop := plankExactRow.holds Try.pinned (OpenSpec.ofChange plankExactWrong)

/- THE SECOND FORM. 'bulk': how many values and letters a reading holds, each counted each time it is reached (what is shared counts as often as it is met; a slice's spare places count too). A statement '..UptoSaid' is the law's where the arguments, and the package variables that the reading takes, are together of bulk at most 1048576: NARROWER than '..Said'. Prove '..Said' where nothing that the law and all that it calls make is longer than what came in: it says more and counts as full. Else prove '..UptoSaid'. A law counts once. -/
mutual
def uptoBulk {H : Type} : DataW H → Nat
  | .lit (.string bytes) => bytes.length + 1
  | .lit _ => 1
  | .nil => 1
  | .ptr d => uptoBulk d + 1
  | .slice elems spare => uptoBulkAll elems + uptoBulkAll spare + 1
  | .agg parts => uptoBulkAll parts + 1
  | .iface _ d => uptoBulk d + 1
  | .map entries => uptoBulkEntries entries + 1
  | .held _ => 1
def uptoBulkAll {H : Type} : List (DataW H) → Nat
  | [] => 0
  | d :: r => uptoBulk d + uptoBulkAll r
def uptoBulkEntries {H : Type} : List (Lit × DataW H) → Nat
  | [] => 0
  | x :: r => uptoBulkEntry x + uptoBulkEntries r
def uptoBulkEntry {H : Type} : Lit × DataW H → Nat
  | (.string bytes, d) => bytes.length + uptoBulk d + 1
  | (_, d) => uptoBulk d + 1
 end
def uptoSmall : (H : Type) → List (DataW H) → Bool := fun _ ds => decide (uptoBulkAll ds ≤ 1048576)
def OpenSpec.upto (s : _root_.Go.ChangeSpec) : _root_.Go.OpenSpec := { _root_.Go.OpenSpec.ofChange s with cond := some uptoSmall }

/-- 'manciplelaw07.PlankKeeps', WHERE WHAT IT READS IS OF BULK AT MOST 1048576: true; the input reads as it did. -/
def plankKeepsUptoRow : OpenClaim := { program := "ytbiikihapfpkfaa", sum := "c4f141383279c402864f120031536c5117e215001092123c1a8b3b6811a5446f", func := "manciple/manciplelaw07.PlankKeeps", spec := "plankKeeps", unfollowed := true, recurses := true, apart := false, narrowed := true }
def PlankKeepsUptoSaid : Prop := plankKeepsUptoRow.holds Try.pinned (OpenSpec.upto plankKeepsSpec)

/-- 'manciplelaw07.PlankFails', WHERE WHAT IT READS IS OF BULK AT MOST 1048576: true; the input reads as it did. -/
def plankFailsUptoRow : OpenClaim := { program := "ytbiikihapfpkfaa", sum := "c4f141383279c402864f120031536c5117e215001092123c1a8b3b6811a5446f", func := "manciple/manciplelaw07.PlankFails", spec := "plankFails", unfollowed := true, recurses := true, apart := false, narrowed := true }
def PlankFailsUptoSaid : Prop := plankFailsUptoRow.holds Try.pinned (OpenSpec.upto plankFailsSpec)

/-- 'manciplelaw07.PlankRoom', WHERE WHAT IT READS IS OF BULK AT MOST 1048576: true; the input reads as it did. -/
def plankRoomUptoRow : OpenClaim := { program := "ytbiikihapfpkfaa", sum := "c4f141383279c402864f120031536c5117e215001092123c1a8b3b6811a5446f", func := "manciple/manciplelaw07.PlankRoom", spec := "plankRoom", unfollowed := true, recurses := true, apart := false, narrowed := true }
def PlankRoomUptoSaid : Prop := plankRoomUptoRow.holds Try.pinned (OpenSpec.upto plankRoomSpec)

/-- 'manciplelaw07.PlankExact', WHERE WHAT IT READS IS OF BULK AT MOST 1048576: true; the input reads as it did. -/
def plankExactUptoRow : OpenClaim := { program := "ytbiikihapfpkfaa", sum := "c4f141383279c402864f120031536c5117e215001092123c1a8b3b6811a5446f", func := "manciple/manciplelaw07.PlankExact", spec := "plankExact", unfollowed := true, recurses := true, apart := false, narrowed := true }
def PlankExactUptoSaid : Prop := plankExactUptoRow.holds Try.pinned (OpenSpec.upto plankExactSpec)

end Rows
end Go.Proofs.Ytbiikihapfpkfaa

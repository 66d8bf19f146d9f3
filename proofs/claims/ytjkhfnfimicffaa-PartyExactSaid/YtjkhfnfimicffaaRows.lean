/-
  No cell of these rows narrows 'for every input' (looked for: loops, veiled, ifaces, maps, wideKeys, modest, calm, conditions, laid).
  DERIVED. THE GIVEN ROWS OF THIS SEAT. 3 by the template 'for every input the law returns true; each argument reads behind the call as it read before'; 0 by the template 'total and deterministic' (their statements: YtjkhfnfimicffaaTotals.lean).
  GIVEN WITH THE SEED: the statements are not yours to turn. If you find one false, say at which input.
  Laid BY PROGRAM, IN A SANDBOX (cutbox-rows.mjs): the forced cells as the released guide's own fill.sh prints them over the translation 3f98dc850f444bbf… (all of the seat's roots in one cut). By AI agents, Wed Nov 11 2026. No macro, syntax, notation, axiom, sorry.
-/
import Derived.Test.YtjkhfnfimicffaaChecked
import GoSem.Claim
import GoSem.ClaimJoined
import GoSem.ClaimMapViews
import Derived.JoinedTies
import Derived.KernelRfl
namespace Go.Proofs.Ytjkhfnfimicffaa
/- THE CELL 'sum', in the pinned program and in every row, IS THE sha256 OF THE DUMP (.gsa) THAT YtjkhfnfimicffaaProg.lean LOADS. Nothing in Lean hashes anything: it is a label: what it is worth is what the hold of that sum in a sandbox is worth. -/
noncomputable def Try.pinned : Pinned := { name := "ytjkhfnfimicffaa", sum := "3f98dc850f444bbf65d4021e716b74dfd19dac673b611ba6a7eee8dd0b18e3f8", checked := Try.checked }
namespace Rows
def none {H : Type} : Left H := { results := [], args := [] }

/-- 'manciplelaw25.PartyWaits': WHATEVER THE INPUT: true; the input reads as it did. -/
def partyWaitsSpec : ChangeSpec := { name := "partyWaits", fn := fun _ => fun
  | [d1, d2] => { results := [.lit (.bool true)], args := [d1, d2] }
  | _ => none }
def partyWaitsRow : OpenClaim := { program := "ytjkhfnfimicffaa", sum := "3f98dc850f444bbf65d4021e716b74dfd19dac673b611ba6a7eee8dd0b18e3f8", func := "manciple/manciplelaw25.PartyWaits", spec := "partyWaits", unfollowed := true, recurses := true, plainKeys := false, apart := false }
def PartyWaitsSaid : Prop := partyWaitsRow.holds Try.pinned (OpenSpec.ofChange partyWaitsSpec)

/-- ITS FALSE NEIGHBOUR: 'it returns false'. Refute it at one input. -/
def partyWaitsWrong : ChangeSpec := { name := "partyWaits", fn := fun _ => fun
  | [d1, d2] => { results := [.lit (.bool false)], args := [d1, d2] }
  | _ => none }
def PartyWaitsWrongFalsely : Prop := partyWaitsRow.holds Try.pinned (OpenSpec.ofChange partyWaitsWrong)

/-- 'manciplelaw25.PartyExact': WHATEVER THE INPUT: true; the input reads as it did. -/
def partyExactSpec : ChangeSpec := { name := "partyExact", fn := fun _ => fun
  | [d1, d2] => { results := [.lit (.bool true)], args := [d1, d2] }
  | _ => none }
def partyExactRow : OpenClaim := { program := "ytjkhfnfimicffaa", sum := "3f98dc850f444bbf65d4021e716b74dfd19dac673b611ba6a7eee8dd0b18e3f8", func := "manciple/manciplelaw25.PartyExact", spec := "partyExact", unfollowed := true, recurses := true, plainKeys := false, apart := false }
def PartyExactSaid : Prop := partyExactRow.holds Try.pinned (OpenSpec.ofChange partyExactSpec)

/-- ITS FALSE NEIGHBOUR: 'it returns false'. Refute it at one input. -/
def partyExactWrong : ChangeSpec := { name := "partyExact", fn := fun _ => fun
  | [d1, d2] => { results := [.lit (.bool false)], args := [d1, d2] }
  | _ => none }
def PartyExactWrongFalsely : Prop := partyExactRow.holds Try.pinned (OpenSpec.ofChange partyExactWrong)

/-- 'manciplelaw25.PartyOnce': WHATEVER THE INPUT: true; the input reads as it did. -/
def partyOnceSpec : ChangeSpec := { name := "partyOnce", fn := fun _ => fun
  | [d1, d2] => { results := [.lit (.bool true)], args := [d1, d2] }
  | _ => none }
def partyOnceRow : OpenClaim := { program := "ytjkhfnfimicffaa", sum := "3f98dc850f444bbf65d4021e716b74dfd19dac673b611ba6a7eee8dd0b18e3f8", func := "manciple/manciplelaw25.PartyOnce", spec := "partyOnce", unfollowed := true, recurses := true, plainKeys := false, apart := false }
def PartyOnceSaid : Prop := partyOnceRow.holds Try.pinned (OpenSpec.ofChange partyOnceSpec)

/-- ITS FALSE NEIGHBOUR: 'it returns false'. Refute it at one input. -/
def partyOnceWrong : ChangeSpec := { name := "partyOnce", fn := fun _ => fun
  | [d1, d2] => { results := [.lit (.bool false)], args := [d1, d2] }
  | _ => none }
def PartyOnceWrongFalsely : Prop := partyOnceRow.holds Try.pinned (OpenSpec.ofChange partyOnceWrong)

/- THE SECOND FORM. 'bulk': how many values and letters a reading holds, each counted each time it is reached (what is shared counts as often as it is met; a slice's spare places count too). A statement '..UptoSaid' is the law's where the arguments, and the package variables that the reading takes, are together of bulk at most 1048576: NARROWER than '..Said'. Prove '..Said' where nothing that the law and all that it calls make is longer than what came in: it says more and counts as full. Else prove '..UptoSaid'. A law counts once. -/
mutual
def uptoBulk {H : Type} : DataW H → Nat
  | .lit (.string bytes) => bytes.length + 1
  | .lit _ => 1
  | .nil => 1
  | .ptr d => uptoBulk d + 1
  | .slice elems spare => uptoBulkAll elems + uptoBulkAll spare + 1
  | .agg parts => uptoBulkAll parts + 1
  | .iface _ d => uptoBulk d + 1
  | .map entries => uptoBulkEntries entries + 1
  | .held _ => 1
def uptoBulkAll {H : Type} : List (DataW H) → Nat
  | [] => 0
  | d :: r => uptoBulk d + uptoBulkAll r
def uptoBulkEntries {H : Type} : List (Lit × DataW H) → Nat
  | [] => 0
  | x :: r => uptoBulkEntry x + uptoBulkEntries r
def uptoBulkEntry {H : Type} : Lit × DataW H → Nat
  | (.string bytes, d) => bytes.length + uptoBulk d + 1
  | (_, d) => uptoBulk d + 1
 end
def uptoSmall : (H : Type) → List (DataW H) → Bool := fun _ ds => decide (uptoBulkAll ds ≤ 1048576)
def OpenSpec.upto (s : _root_.Go.ChangeSpec) : _root_.Go.OpenSpec := { _root_.Go.OpenSpec.ofChange s with cond := some uptoSmall }

/-- 'manciplelaw25.PartyWaits', WHERE WHAT IT READS IS OF BULK AT MOST 1048576: true; the input reads as it did. -/
def partyWaitsUptoRow : OpenClaim := { program := "ytjkhfnfimicffaa", sum := "3f98dc850f444bbf65d4021e716b74dfd19dac673b611ba6a7eee8dd0b18e3f8", func := "manciple/manciplelaw25.PartyWaits", spec := "partyWaits", unfollowed := true, recurses := true, plainKeys := false, apart := false, narrowed := true }
def PartyWaitsUptoSaid : Prop := partyWaitsUptoRow.holds Try.pinned (OpenSpec.upto partyWaitsSpec)

/-- 'manciplelaw25.PartyExact', WHERE WHAT IT READS IS OF BULK AT MOST 1048576: true; the input reads as it did. -/
def partyExactUptoRow : OpenClaim := { program := "ytjkhfnfimicffaa", sum := "3f98dc850f444bbf65d4021e716b74dfd19dac673b611ba6a7eee8dd0b18e3f8", func := "manciple/manciplelaw25.PartyExact", spec := "partyExact", unfollowed := true, recurses := true, plainKeys := false, apart := false, narrowed := true }
def PartyExactUptoSaid : Prop := partyExactUptoRow.holds Try.pinned (OpenSpec.upto partyExactSpec)

/-- 'manciplelaw25.PartyOnce', WHERE WHAT IT READS IS OF BULK AT MOST 1048576: true; the input reads as it did. -/
def partyOnceUptoRow : OpenClaim := { program := "ytjkhfnfimicffaa", sum := "3f98dc850f444bbf65d4021e716b74dfd19dac673b611ba6a7eee8dd0b18e3f8", func := "manciple/manciplelaw25.PartyOnce", spec := "partyOnce", unfollowed := true, recurses := true, plainKeys := false, apart := false, narrowed := true }
def PartyOnceUptoSaid : Prop := partyOnceUptoRow.holds Try.pinned (OpenSpec.upto partyOnceSpec)

end Rows
end Go.Proofs.Ytjkhfnfimicffaa

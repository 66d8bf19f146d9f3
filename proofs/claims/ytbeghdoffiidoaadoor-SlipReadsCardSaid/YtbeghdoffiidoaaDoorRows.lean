/-
  NARROWER THAN 'FOR EVERY INPUT', by the rows' own cells (each row's printed sentence says how): SlipWrites: laid · SlipReads: laid · SlipBack: laid · SlipTorn: laid.
  DERIVED. THE GIVEN ROWS OF THIS SEAT. 4 by the template 'for every input the law returns true; each argument reads behind the call as it read before'; 0 by the template 'total and deterministic' (their statements: YtbeghdoffiidoaaDoorTotals.lean).
  GIVEN WITH THE SEED: the statements are not yours to turn. If you find one false, say at which input.
  Laid BY PROGRAM, IN A SANDBOX (cutbox-rows.mjs): the forced cells as the released guide's own fill.sh prints them over the translation c10ec19c1998d526… (all of the seat's roots in one cut). By AI agents, Wed Nov 11 2026. No macro, syntax, notation, axiom, sorry.
-/
import Derived.Test.YtbeghdoffiidoaaDoorChecked
import GoSem.Claim
import GoSem.ClaimJoined
import GoSem.ClaimMapViews
import Derived.JoinedTies
import Derived.KernelRfl
namespace Go.Proofs.YtbeghdoffiidoaaDoor
/- THE CELL 'sum', in the pinned program and in every row, IS THE sha256 OF THE DUMP (.gsa) THAT YtbeghdoffiidoaaDoorProg.lean LOADS. Nothing in Lean hashes anything: it is a label: what it is worth is what the hold of that sum in a sandbox is worth. -/
noncomputable def Tryd.pinned : Pinned := { name := "ytbeghdoffiidoaadoor", sum := "c10ec19c1998d526d770f64e32ffbcc1f8693335f5dbd33cb8982eb1a9879925", checked := Tryd.checked }
namespace Rows
def none {H : Type} : Left H := { results := [], args := [] }

/- WHAT THE LISTED PACKAGE-LEVEL VARIABLES READ AS WHEN THE CALL BEGINS. Each datum BY PROGRAM (the guide's laid-datum.mjs) off the statement by which the dump's own 'gosem.cut.vars' lays the variable. In a bare row this is a premise. The card (YtbeghdoffiidoaaDoorCards.lean) ties it to the program's text. -/
def laid_manciple_crc_nibbles {H : Type} : DataW H := .agg [.lit (.int .u32 0), .lit (.int .u32 498536548), .lit (.int .u32 997073096), .lit (.int .u32 651767980), .lit (.int .u32 1994146192), .lit (.int .u32 1802195444), .lit (.int .u32 1303535960), .lit (.int .u32 1342533948), .lit (.int .u32 3988292384), .lit (.int .u32 4027552580), .lit (.int .u32 3604390888), .lit (.int .u32 3412177804), .lit (.int .u32 2607071920), .lit (.int .u32 2262029012), .lit (.int .u32 2685067896), .lit (.int .u32 3183342108)]

/-- 'manciplelaw08.SlipWrites': WHATEVER THE INPUT: true; the input reads as it did. -/
def slipWritesSpec : ChangeSpec := { name := "slipWrites", fn := fun _ => fun
  | [d] => { results := [.lit (.bool true)], args := [d] }
  | _ => none }
def slipWritesRow : OpenClaim := { program := "ytbeghdoffiidoaadoor", sum := "c10ec19c1998d526d770f64e32ffbcc1f8693335f5dbd33cb8982eb1a9879925", func := "manciple/manciplelaw08.SlipWrites", spec := "slipWrites", inPlace := ["internal/abi.NoEscape"], named := ["manciple/crc.nibbles"], apart := false, laid := [("manciple/crc.nibbles", laid_manciple_crc_nibbles)] }
def SlipWritesSaid : Prop := slipWritesRow.holds Tryd.pinned (OpenSpec.ofChange slipWritesSpec)

/-- ITS FALSE NEIGHBOUR: 'it returns false'. Refute it at one input. -/
def slipWritesWrong : ChangeSpec := { name := "slipWrites", fn := fun _ => fun
  | [d] => { results := [.lit (.bool false)], args := [d] }
  | _ => none }
def SlipWritesWrongFalsely : Prop := slipWritesRow.holds Tryd.pinned (OpenSpec.ofChange slipWritesWrong)

/-- 'manciplelaw08.SlipReads': WHATEVER THE INPUT: true; the input reads as it did. -/
def slipReadsSpec : ChangeSpec := { name := "slipReads", fn := fun _ => fun
  | [d] => { results := [.lit (.bool true)], args := [d] }
  | _ => none }
def slipReadsRow : OpenClaim := { program := "ytbeghdoffiidoaadoor", sum := "c10ec19c1998d526d770f64e32ffbcc1f8693335f5dbd33cb8982eb1a9879925", func := "manciple/manciplelaw08.SlipReads", spec := "slipReads", inPlace := ["internal/abi.NoEscape"], named := ["manciple/crc.nibbles"], apart := false, laid := [("manciple/crc.nibbles", laid_manciple_crc_nibbles)] }
def SlipReadsSaid : Prop := slipReadsRow.holds Tryd.pinned (OpenSpec.ofChange slipReadsSpec)

/-- ITS FALSE NEIGHBOUR: 'it returns false'. Refute it at one input. -/
def slipReadsWrong : ChangeSpec := { name := "slipReads", fn := fun _ => fun
  | [d] => { results := [.lit (.bool false)], args := [d] }
  | _ => none }
def SlipReadsWrongFalsely : Prop := slipReadsRow.holds Tryd.pinned (OpenSpec.ofChange slipReadsWrong)

/-- 'manciplelaw08.SlipBack': WHATEVER THE INPUT: true; the input reads as it did. -/
def slipBackSpec : ChangeSpec := { name := "slipBack", fn := fun _ => fun
  | [d1, d2] => { results := [.lit (.bool true)], args := [d1, d2] }
  | _ => none }
def slipBackRow : OpenClaim := { program := "ytbeghdoffiidoaadoor", sum := "c10ec19c1998d526d770f64e32ffbcc1f8693335f5dbd33cb8982eb1a9879925", func := "manciple/manciplelaw08.SlipBack", spec := "slipBack", inPlace := ["internal/abi.NoEscape"], named := ["manciple/crc.nibbles"], apart := false, laid := [("manciple/crc.nibbles", laid_manciple_crc_nibbles)] }
def SlipBackSaid : Prop := slipBackRow.holds Tryd.pinned (OpenSpec.ofChange slipBackSpec)

/-- ITS FALSE NEIGHBOUR: 'it returns false'. Refute it at one input. -/
def slipBackWrong : ChangeSpec := { name := "slipBack", fn := fun _ => fun
  | [d1, d2] => { results := [.lit (.bool false)], args := [d1, d2] }
  | _ => none }
def SlipBackWrongFalsely : Prop := slipBackRow.holds Tryd.pinned (OpenSpec.ofChange slipBackWrong)

/-- 'manciplelaw08.SlipTorn': WHATEVER THE INPUT: true; the input reads as it did. -/
def slipTornSpec : ChangeSpec := { name := "slipTorn", fn := fun _ => fun
  | [d1, d2, d3, d4] => { results := [.lit (.bool true)], args := [d1, d2, d3, d4] }
  | _ => none }
def slipTornRow : OpenClaim := { program := "ytbeghdoffiidoaadoor", sum := "c10ec19c1998d526d770f64e32ffbcc1f8693335f5dbd33cb8982eb1a9879925", func := "manciple/manciplelaw08.SlipTorn", spec := "slipTorn", inPlace := ["internal/abi.NoEscape"], named := ["manciple/crc.nibbles"], apart := false, laid := [("manciple/crc.nibbles", laid_manciple_crc_nibbles)] }
def SlipTornSaid : Prop := slipTornRow.holds Tryd.pinned (OpenSpec.ofChange slipTornSpec)

/-- ITS FALSE NEIGHBOUR: 'it returns false'. Refute it at one input. -/
def slipTornWrong : ChangeSpec := { name := "slipTorn", fn := fun _ => fun
  | [d1, d2, d3, d4] => { results := [.lit (.bool false)], args := [d1, d2, d3, d4] }
  | _ => none }
def SlipTornWrongFalsely : Prop := slipTornRow.holds Tryd.pinned (OpenSpec.ofChange slipTornWrong)

/- THE SECOND FORM. 'bulk': how many values and letters a reading holds, each counted each time it is reached (what is shared counts as often as it is met; a slice's spare places count too). A statement '..UptoSaid' is the law's where the arguments, and the package variables that the reading takes, are together of bulk at most 1048576: NARROWER than '..Said'. Prove '..Said' where nothing that the law and all that it calls make is longer than what came in: it says more and counts as full. Else prove '..UptoSaid'. A law counts once. -/
mutual
def uptoBulk {H : Type} : DataW H → Nat
  | .lit (.string bytes) => bytes.length + 1
  | .lit _ => 1
  | .nil => 1
  | .ptr d => uptoBulk d + 1
  | .slice elems spare => uptoBulkAll elems + uptoBulkAll spare + 1
  | .agg parts => uptoBulkAll parts + 1
  | .iface _ d => uptoBulk d + 1
  | .map entries => uptoBulkEntries entries + 1
  | .held _ => 1
def uptoBulkAll {H : Type} : List (DataW H) → Nat
  | [] => 0
  | d :: r => uptoBulk d + uptoBulkAll r
def uptoBulkEntries {H : Type} : List (Lit × DataW H) → Nat
  | [] => 0
  | x :: r => uptoBulkEntry x + uptoBulkEntries r
def uptoBulkEntry {H : Type} : Lit × DataW H → Nat
  | (.string bytes, d) => bytes.length + uptoBulk d + 1
  | (_, d) => uptoBulk d + 1
 end
def uptoSmall : (H : Type) → List (DataW H) → Bool := fun _ ds => decide (uptoBulkAll ds ≤ 1048576)
def OpenSpec.upto (s : _root_.Go.ChangeSpec) : _root_.Go.OpenSpec := { _root_.Go.OpenSpec.ofChange s with cond := some uptoSmall }

/-- 'manciplelaw08.SlipWrites', WHERE WHAT IT READS IS OF BULK AT MOST 1048576: true; the input reads as it did. -/
def slipWritesUptoRow : OpenClaim := { program := "ytbeghdoffiidoaadoor", sum := "c10ec19c1998d526d770f64e32ffbcc1f8693335f5dbd33cb8982eb1a9879925", func := "manciple/manciplelaw08.SlipWrites", spec := "slipWrites", inPlace := ["internal/abi.NoEscape"], named := ["manciple/crc.nibbles"], apart := false, laid := [("manciple/crc.nibbles", laid_manciple_crc_nibbles)], narrowed := true }
def SlipWritesUptoSaid : Prop := slipWritesUptoRow.holds Tryd.pinned (OpenSpec.upto slipWritesSpec)

/-- 'manciplelaw08.SlipReads', WHERE WHAT IT READS IS OF BULK AT MOST 1048576: true; the input reads as it did. -/
def slipReadsUptoRow : OpenClaim := { program := "ytbeghdoffiidoaadoor", sum := "c10ec19c1998d526d770f64e32ffbcc1f8693335f5dbd33cb8982eb1a9879925", func := "manciple/manciplelaw08.SlipReads", spec := "slipReads", inPlace := ["internal/abi.NoEscape"], named := ["manciple/crc.nibbles"], apart := false, laid := [("manciple/crc.nibbles", laid_manciple_crc_nibbles)], narrowed := true }
def SlipReadsUptoSaid : Prop := slipReadsUptoRow.holds Tryd.pinned (OpenSpec.upto slipReadsSpec)

/-- 'manciplelaw08.SlipBack', WHERE WHAT IT READS IS OF BULK AT MOST 1048576: true; the input reads as it did. -/
def slipBackUptoRow : OpenClaim := { program := "ytbeghdoffiidoaadoor", sum := "c10ec19c1998d526d770f64e32ffbcc1f8693335f5dbd33cb8982eb1a9879925", func := "manciple/manciplelaw08.SlipBack", spec := "slipBack", inPlace := ["internal/abi.NoEscape"], named := ["manciple/crc.nibbles"], apart := false, laid := [("manciple/crc.nibbles", laid_manciple_crc_nibbles)], narrowed := true }
def SlipBackUptoSaid : Prop := slipBackUptoRow.holds Tryd.pinned (OpenSpec.upto slipBackSpec)

/-- 'manciplelaw08.SlipTorn', WHERE WHAT IT READS IS OF BULK AT MOST 1048576: true; the input reads as it did. -/
def slipTornUptoRow : OpenClaim := { program := "ytbeghdoffiidoaadoor", sum := "c10ec19c1998d526d770f64e32ffbcc1f8693335f5dbd33cb8982eb1a9879925", func := "manciple/manciplelaw08.SlipTorn", spec := "slipTorn", inPlace := ["internal/abi.NoEscape"], named := ["manciple/crc.nibbles"], apart := false, laid := [("manciple/crc.nibbles", laid_manciple_crc_nibbles)], narrowed := true }
def SlipTornUptoSaid : Prop := slipTornUptoRow.holds Tryd.pinned (OpenSpec.upto slipTornSpec)

end Rows
end Go.Proofs.YtbeghdoffiidoaaDoor

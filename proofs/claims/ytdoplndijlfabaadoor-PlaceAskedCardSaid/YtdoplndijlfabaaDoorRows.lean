/-
  NARROWER THAN 'FOR EVERY INPUT', by the rows' own cells (each row's printed sentence says how): PlaceReads: laid · PlaceWrites: laid · PlaceBack: laid · PlaceNames: laid · PlaceAsked: laid.
  DERIVED. THE GIVEN ROWS OF THIS SEAT. 5 by the template 'for every input the law returns true; each argument reads behind the call as it read before'; 0 by the template 'total and deterministic' (their statements: YtdoplndijlfabaaDoorTotals.lean).
  GIVEN WITH THE SEED: the statements are not yours to turn. If you find one false, say at which input.
  Laid BY PROGRAM, IN A SANDBOX (cutbox-rows.mjs): the forced cells as the released guide's own fill.sh prints them over the translation 735d6b39be7f9748… (all of the seat's roots in one cut). By AI agents, Wed Nov 11 2026. No macro, syntax, notation, axiom, sorry.
-/
import Derived.Test.YtdoplndijlfabaaDoorChecked
import GoSem.PinnedTables
import GoSem.Claim
import GoSem.ClaimJoined
import GoSem.ClaimMapViews
import Derived.JoinedTies
import Derived.KernelRfl
namespace Go.Proofs.YtdoplndijlfabaaDoor
/- THE CELL 'sum', in the pinned program and in every row, IS THE sha256 OF THE DUMP (.gsa) THAT YtdoplndijlfabaaDoorProg.lean LOADS. Nothing in Lean hashes anything: it is a label: what it is worth is what the hold of that sum in a sandbox is worth. -/
noncomputable def Tryd.pinned : Pinned := { name := "ytdoplndijlfabaadoor", sum := "735d6b39be7f9748081a9c7a120c045cba353468cfe927aa968cdd94d656e7c4", checked := Tryd.checked }
namespace Rows
def none {H : Type} : Left H := { results := [], args := [] }

/- WHAT THE LISTED PACKAGE-LEVEL VARIABLES READ AS WHEN THE CALL BEGINS. Each datum BY PROGRAM (the guide's laid-datum.mjs) off the statement by which the dump's own 'gosem.cut.vars' lays the variable. In a bare row this is a premise. The card (YtdoplndijlfabaaDoorCards.lean) ties it to the program's text. -/
def laid_unicode_utf8_acceptRanges {H : Type} : DataW H := .agg [.agg [.lit (.int .u8 128), .lit (.int .u8 191)], .agg [.lit (.int .u8 160), .lit (.int .u8 191)], .agg [.lit (.int .u8 128), .lit (.int .u8 159)], .agg [.lit (.int .u8 144), .lit (.int .u8 191)], .agg [.lit (.int .u8 128), .lit (.int .u8 143)], .agg [.lit (.int .u8 0), .lit (.int .u8 0)], .agg [.lit (.int .u8 0), .lit (.int .u8 0)], .agg [.lit (.int .u8 0), .lit (.int .u8 0)], .agg [.lit (.int .u8 0), .lit (.int .u8 0)], .agg [.lit (.int .u8 0), .lit (.int .u8 0)], .agg [.lit (.int .u8 0), .lit (.int .u8 0)], .agg [.lit (.int .u8 0), .lit (.int .u8 0)], .agg [.lit (.int .u8 0), .lit (.int .u8 0)], .agg [.lit (.int .u8 0), .lit (.int .u8 0)], .agg [.lit (.int .u8 0), .lit (.int .u8 0)], .agg [.lit (.int .u8 0), .lit (.int .u8 0)]]
/-- One of Go's own tables, pinned by name: the form's constant. -/
def laid_unicode_utf8_first : DataW Unit := Go.Pinned.utf8First

/-- 'manciplelaw15.PlaceReads': WHATEVER THE INPUT: true; the input reads as it did. -/
def placeReadsSpec : ChangeSpec := { name := "placeReads", fn := fun _ => fun
  | [d] => { results := [.lit (.bool true)], args := [d] }
  | _ => none }
def placeReadsRow : OpenClaim := { program := "ytdoplndijlfabaadoor", sum := "735d6b39be7f9748081a9c7a120c045cba353468cfe927aa968cdd94d656e7c4", func := "manciple/manciplelaw15.PlaceReads", spec := "placeReads", inPlace := ["internal/bytealg.IndexByteString", "internal/bytealg.IndexString"], unfollowed := true, recurses := true, named := ["unicode/utf8.first", "unicode/utf8.acceptRanges", "internal/bytealg.MaxLen"], apart := false, laid := [("unicode/utf8.acceptRanges", laid_unicode_utf8_acceptRanges), ("unicode/utf8.first", laid_unicode_utf8_first)] }
def PlaceReadsSaid : Prop := placeReadsRow.holds Tryd.pinned (OpenSpec.ofChange placeReadsSpec)

/-- ITS FALSE NEIGHBOUR: 'it returns false'. Refute it at one input. -/
def placeReadsWrong : ChangeSpec := { name := "placeReads", fn := fun _ => fun
  | [d] => { results := [.lit (.bool false)], args := [d] }
  | _ => none }
def PlaceReadsWrongFalsely : Prop := placeReadsRow.holds Tryd.pinned (OpenSpec.ofChange placeReadsWrong)

/-- 'manciplelaw15.PlaceWrites': WHATEVER THE INPUT: true; the input reads as it did. -/
def placeWritesSpec : ChangeSpec := { name := "placeWrites", fn := fun _ => fun
  | [d] => { results := [.lit (.bool true)], args := [d] }
  | _ => none }
def placeWritesRow : OpenClaim := { program := "ytdoplndijlfabaadoor", sum := "735d6b39be7f9748081a9c7a120c045cba353468cfe927aa968cdd94d656e7c4", func := "manciple/manciplelaw15.PlaceWrites", spec := "placeWrites", inPlace := ["internal/bytealg.IndexByteString", "internal/bytealg.IndexString"], unfollowed := true, recurses := true, named := ["unicode/utf8.first", "unicode/utf8.acceptRanges", "internal/bytealg.MaxLen"], apart := false, laid := [("unicode/utf8.acceptRanges", laid_unicode_utf8_acceptRanges), ("unicode/utf8.first", laid_unicode_utf8_first)] }
def PlaceWritesSaid : Prop := placeWritesRow.holds Tryd.pinned (OpenSpec.ofChange placeWritesSpec)

/-- ITS FALSE NEIGHBOUR: 'it returns false'. Refute it at one input. -/
def placeWritesWrong : ChangeSpec := { name := "placeWrites", fn := fun _ => fun
  | [d] => { results := [.lit (.bool false)], args := [d] }
  | _ => none }
def PlaceWritesWrongFalsely : Prop := placeWritesRow.holds Tryd.pinned (OpenSpec.ofChange placeWritesWrong)

/-- 'manciplelaw15.PlaceBack': WHATEVER THE INPUT: true; the input reads as it did. -/
def placeBackSpec : ChangeSpec := { name := "placeBack", fn := fun _ => fun
  | [d1, d2, d3] => { results := [.lit (.bool true)], args := [d1, d2, d3] }
  | _ => none }
def placeBackRow : OpenClaim := { program := "ytdoplndijlfabaadoor", sum := "735d6b39be7f9748081a9c7a120c045cba353468cfe927aa968cdd94d656e7c4", func := "manciple/manciplelaw15.PlaceBack", spec := "placeBack", inPlace := ["internal/bytealg.IndexByteString", "internal/bytealg.IndexString"], unfollowed := true, recurses := true, named := ["unicode/utf8.first", "unicode/utf8.acceptRanges", "internal/bytealg.MaxLen"], apart := false, laid := [("unicode/utf8.acceptRanges", laid_unicode_utf8_acceptRanges), ("unicode/utf8.first", laid_unicode_utf8_first)] }
def PlaceBackSaid : Prop := placeBackRow.holds Tryd.pinned (OpenSpec.ofChange placeBackSpec)

/-- ITS FALSE NEIGHBOUR: 'it returns false'. Refute it at one input. -/
def placeBackWrong : ChangeSpec := { name := "placeBack", fn := fun _ => fun
  | [d1, d2, d3] => { results := [.lit (.bool false)], args := [d1, d2, d3] }
  | _ => none }
def PlaceBackWrongFalsely : Prop := placeBackRow.holds Tryd.pinned (OpenSpec.ofChange placeBackWrong)

/-- 'manciplelaw15.PlaceNames': WHATEVER THE INPUT: true; the input reads as it did. -/
def placeNamesSpec : ChangeSpec := { name := "placeNames", fn := fun _ => fun
  | [d1, d2] => { results := [.lit (.bool true)], args := [d1, d2] }
  | _ => none }
def placeNamesRow : OpenClaim := { program := "ytdoplndijlfabaadoor", sum := "735d6b39be7f9748081a9c7a120c045cba353468cfe927aa968cdd94d656e7c4", func := "manciple/manciplelaw15.PlaceNames", spec := "placeNames", inPlace := ["internal/bytealg.IndexByteString", "internal/bytealg.IndexString"], unfollowed := true, recurses := true, named := ["unicode/utf8.first", "unicode/utf8.acceptRanges", "internal/bytealg.MaxLen"], apart := false, laid := [("unicode/utf8.acceptRanges", laid_unicode_utf8_acceptRanges), ("unicode/utf8.first", laid_unicode_utf8_first)] }
def PlaceNamesSaid : Prop := placeNamesRow.holds Tryd.pinned (OpenSpec.ofChange placeNamesSpec)

/-- ITS FALSE NEIGHBOUR: 'it returns false'. Refute it at one input. -/
def placeNamesWrong : ChangeSpec := { name := "placeNames", fn := fun _ => fun
  | [d1, d2] => { results := [.lit (.bool false)], args := [d1, d2] }
  | _ => none }
def PlaceNamesWrongFalsely : Prop := placeNamesRow.holds Tryd.pinned (OpenSpec.ofChange placeNamesWrong)

/-- 'manciplelaw15.PlaceAsked': WHATEVER THE INPUT: true; the input reads as it did. -/
def placeAskedSpec : ChangeSpec := { name := "placeAsked", fn := fun _ => fun
  | [d] => { results := [.lit (.bool true)], args := [d] }
  | _ => none }
def placeAskedRow : OpenClaim := { program := "ytdoplndijlfabaadoor", sum := "735d6b39be7f9748081a9c7a120c045cba353468cfe927aa968cdd94d656e7c4", func := "manciple/manciplelaw15.PlaceAsked", spec := "placeAsked", inPlace := ["internal/bytealg.IndexByteString", "internal/bytealg.IndexString"], unfollowed := true, recurses := true, named := ["unicode/utf8.first", "unicode/utf8.acceptRanges", "internal/bytealg.MaxLen"], apart := false, laid := [("unicode/utf8.acceptRanges", laid_unicode_utf8_acceptRanges), ("unicode/utf8.first", laid_unicode_utf8_first)] }
def PlaceAskedSaid : Prop := placeAskedRow.holds Tryd.pinned (OpenSpec.ofChange placeAskedSpec)

/-- ITS FALSE NEIGHBOUR: 'it returns false'. Refute it at one input. -/
def placeAskedWrong : ChangeSpec := { name := "placeAsked", fn := fun _ => fun
  | [d] => { results := [.lit (.bool false)], args := [d] }
  | _ => none }
def PlaceAskedWrongFalsely : Prop := placeAskedRow.holds Tryd.pinned (OpenSpec.ofChange placeAskedWrong)

/- THE SECOND FORM. 'bulk': how many values and letters a reading holds, each counted each time it is reached (what is shared counts as often as it is met; a slice's spare places count too). A statement '..UptoSaid' is the law's where the arguments, and the package variables that the reading takes, are together of bulk at most 1048576: NARROWER than '..Said'. Prove '..Said' where nothing that the law and all that it calls make is longer than what came in: it says more and counts as full. Else prove '..UptoSaid'. A law counts once. -/
mutual
def uptoBulk {H : Type} : DataW H → Nat
  | .lit (.string bytes) => bytes.length + 1
  | .lit _ => 1
  | .nil => 1
  | .ptr d => uptoBulk d + 1
  | .slice elems spare => uptoBulkAll elems + uptoBulkAll spare + 1
  | .agg parts => uptoBulkAll parts + 1
  | .iface _ d => uptoBulk d + 1
  | .map entries => uptoBulkEntries entries + 1
  | .held _ => 1
def uptoBulkAll {H : Type} : List (DataW H) → Nat
  | [] => 0
  | d :: r => uptoBulk d + uptoBulkAll r
def uptoBulkEntries {H : Type} : List (Lit × DataW H) → Nat
  | [] => 0
  | x :: r => uptoBulkEntry x + uptoBulkEntries r
def uptoBulkEntry {H : Type} : Lit × DataW H → Nat
  | (.string bytes, d) => bytes.length + uptoBulk d + 1
  | (_, d) => uptoBulk d + 1
 end
def uptoSmall : (H : Type) → List (DataW H) → Bool := fun _ ds => decide (uptoBulkAll ds ≤ 1048576)
def OpenSpec.upto (s : _root_.Go.ChangeSpec) : _root_.Go.OpenSpec := { _root_.Go.OpenSpec.ofChange s with cond := some uptoSmall }

/-- 'manciplelaw15.PlaceReads', WHERE WHAT IT READS IS OF BULK AT MOST 1048576: true; the input reads as it did. -/
def placeReadsUptoRow : OpenClaim := { program := "ytdoplndijlfabaadoor", sum := "735d6b39be7f9748081a9c7a120c045cba353468cfe927aa968cdd94d656e7c4", func := "manciple/manciplelaw15.PlaceReads", spec := "placeReads", inPlace := ["internal/bytealg.IndexByteString", "internal/bytealg.IndexString"], unfollowed := true, recurses := true, named := ["unicode/utf8.first", "unicode/utf8.acceptRanges", "internal/bytealg.MaxLen"], apart := false, laid := [("unicode/utf8.acceptRanges", laid_unicode_utf8_acceptRanges), ("unicode/utf8.first", laid_unicode_utf8_first)], narrowed := true }
def PlaceReadsUptoSaid : Prop := placeReadsUptoRow.holds Tryd.pinned (OpenSpec.upto placeReadsSpec)

/-- 'manciplelaw15.PlaceWrites', WHERE WHAT IT READS IS OF BULK AT MOST 1048576: true; the input reads as it did. -/
def placeWritesUptoRow : OpenClaim := { program := "ytdoplndijlfabaadoor", sum := "735d6b39be7f9748081a9c7a120c045cba353468cfe927aa968cdd94d656e7c4", func := "manciple/manciplelaw15.PlaceWrites", spec := "placeWrites", inPlace := ["internal/bytealg.IndexByteString", "internal/bytealg.IndexString"], unfollowed := true, recurses := true, named := ["unicode/utf8.first", "unicode/utf8.acceptRanges", "internal/bytealg.MaxLen"], apart := false, laid := [("unicode/utf8.acceptRanges", laid_unicode_utf8_acceptRanges), ("unicode/utf8.first", laid_unicode_utf8_first)], narrowed := true }
def PlaceWritesUptoSaid : Prop := placeWritesUptoRow.holds Tryd.pinned (OpenSpec.upto placeWritesSpec)

/-- 'manciplelaw15.PlaceBack', WHERE WHAT IT READS IS OF BULK AT MOST 1048576: true; the input reads as it did. -/
def placeBackUptoRow : OpenClaim := { program := "ytdoplndijlfabaadoor", sum := "735d6b39be7f9748081a9c7a120c045cba353468cfe927aa968cdd94d656e7c4", func := "manciple/manciplelaw15.PlaceBack", spec := "placeBack", inPlace := ["internal/bytealg.IndexByteString", "internal/bytealg.IndexString"], unfollowed := true, recurses := true, named := ["unicode/utf8.first", "unicode/utf8.acceptRanges", "internal/bytealg.MaxLen"], apart := false, laid := [("unicode/utf8.acceptRanges", laid_unicode_utf8_acceptRanges), ("unicode/utf8.first", laid_unicode_utf8_first)], narrowed := true }
def PlaceBackUptoSaid : Prop := placeBackUptoRow.holds Tryd.pinned (OpenSpec.upto placeBackSpec)

/-- 'manciplelaw15.PlaceNames', WHERE WHAT IT READS IS OF BULK AT MOST 1048576: true; the input reads as it did. -/
def placeNamesUptoRow : OpenClaim := { program := "ytdoplndijlfabaadoor", sum := "735d6b39be7f9748081a9c7a120c045cba353468cfe927aa968cdd94d656e7c4", func := "manciple/manciplelaw15.PlaceNames", spec := "placeNames", inPlace := ["internal/bytealg.IndexByteString", "internal/bytealg.IndexString"], unfollowed := true, recurses := true, named := ["unicode/utf8.first", "unicode/utf8.acceptRanges", "internal/bytealg.MaxLen"], apart := false, laid := [("unicode/utf8.acceptRanges", laid_unicode_utf8_acceptRanges), ("unicode/utf8.first", laid_unicode_utf8_first)], narrowed := true }
def PlaceNamesUptoSaid : Prop := placeNamesUptoRow.holds Tryd.pinned (OpenSpec.upto placeNamesSpec)

/-- 'manciplelaw15.PlaceAsked', WHERE WHAT IT READS IS OF BULK AT MOST 1048576: true; the input reads as it did. -/
def placeAskedUptoRow : OpenClaim := { program := "ytdoplndijlfabaadoor", sum := "735d6b39be7f9748081a9c7a120c045cba353468cfe927aa968cdd94d656e7c4", func := "manciple/manciplelaw15.PlaceAsked", spec := "placeAsked", inPlace := ["internal/bytealg.IndexByteString", "internal/bytealg.IndexString"], unfollowed := true, recurses := true, named := ["unicode/utf8.first", "unicode/utf8.acceptRanges", "internal/bytealg.MaxLen"], apart := false, laid := [("unicode/utf8.acceptRanges", laid_unicode_utf8_acceptRanges), ("unicode/utf8.first", laid_unicode_utf8_first)], narrowed := true }
def PlaceAskedUptoSaid : Prop := placeAskedUptoRow.holds Tryd.pinned (OpenSpec.upto placeAskedSpec)

end Rows
end Go.Proofs.YtdoplndijlfabaaDoor

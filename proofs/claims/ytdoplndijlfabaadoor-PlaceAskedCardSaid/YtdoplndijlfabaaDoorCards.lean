/-
  DERIVED. GIVEN WITH THE SEED: THE CARDS: each row of YtdoplndijlfabaaDoorRows.lean that lists a variable, with what it lists TIED to the program's text (the seventh form; the later family's looks); each row that meets fmt, with fmt's text TOLD by the authors' own Lean function (tested against real Go, not proved from fmt's source: count such statements apart). THE CARD IS WHAT COUNTS. Prove the row's statement (the work); the ties are given (YtdoplndijlfabaaDoorTie.lean); close each card by the builder's one call (the guide's Derived/Test/ToyasCard.lean, 'card_holds'). Laid BY PROGRAM, IN A SANDBOX (cutbox-door.mjs). By AI agents, Wed Nov 11 2026. No macro, syntax, notation, axiom, sorry.
-/
import Derived.Test.YtdoplndijlfabaaDoorRows
import GoSem.ClaimSeven
namespace Go.Proofs.YtdoplndijlfabaaDoor
namespace Rows

/-- THE TIED CARD OF 'manciplelaw15.PlaceReads'. -/
def placeReadsCard : Claim7 := { stood := { row := placeReadsRow, standIns := [], harness := (true, "edc0521343c8f6b55bd0175f14124299220bef2b0e4ff51de754a27363cece78"), looks := false }, kinds := [], alts := [], laidByText := true, laidKinds := [.data, .pinned], laidTests := true, laidLooks := .later }
def PlaceReadsCardSaid : Prop := Claim7.holds Tryd.pinned (.plain (OpenSpec.ofChange placeReadsSpec)) placeReadsCard

/-- THE TIED CARD OF 'manciplelaw15.PlaceWrites'. -/
def placeWritesCard : Claim7 := { stood := { row := placeWritesRow, standIns := [], harness := (true, "edc0521343c8f6b55bd0175f14124299220bef2b0e4ff51de754a27363cece78"), looks := false }, kinds := [], alts := [], laidByText := true, laidKinds := [.data, .pinned], laidTests := true, laidLooks := .later }
def PlaceWritesCardSaid : Prop := Claim7.holds Tryd.pinned (.plain (OpenSpec.ofChange placeWritesSpec)) placeWritesCard

/-- THE TIED CARD OF 'manciplelaw15.PlaceBack'. -/
def placeBackCard : Claim7 := { stood := { row := placeBackRow, standIns := [], harness := (true, "edc0521343c8f6b55bd0175f14124299220bef2b0e4ff51de754a27363cece78"), looks := false }, kinds := [], alts := [], laidByText := true, laidKinds := [.data, .pinned], laidTests := true, laidLooks := .later }
def PlaceBackCardSaid : Prop := Claim7.holds Tryd.pinned (.plain (OpenSpec.ofChange placeBackSpec)) placeBackCard

/-- THE TIED CARD OF 'manciplelaw15.PlaceNames'. -/
def placeNamesCard : Claim7 := { stood := { row := placeNamesRow, standIns := [], harness := (true, "edc0521343c8f6b55bd0175f14124299220bef2b0e4ff51de754a27363cece78"), looks := false }, kinds := [], alts := [], laidByText := true, laidKinds := [.data, .pinned], laidTests := true, laidLooks := .later }
def PlaceNamesCardSaid : Prop := Claim7.holds Tryd.pinned (.plain (OpenSpec.ofChange placeNamesSpec)) placeNamesCard

/-- THE TIED CARD OF 'manciplelaw15.PlaceAsked'. -/
def placeAskedCard : Claim7 := { stood := { row := placeAskedRow, standIns := [], harness := (true, "edc0521343c8f6b55bd0175f14124299220bef2b0e4ff51de754a27363cece78"), looks := false }, kinds := [], alts := [], laidByText := true, laidKinds := [.data, .pinned], laidTests := true, laidLooks := .later }
def PlaceAskedCardSaid : Prop := Claim7.holds Tryd.pinned (.plain (OpenSpec.ofChange placeAskedSpec)) placeAskedCard

/-- THE SECOND FORM's CARD OF 'manciplelaw15.PlaceReads'. -/
def placeReadsUptoCard : Claim7 := { stood := { row := placeReadsUptoRow, standIns := [], harness := (true, "edc0521343c8f6b55bd0175f14124299220bef2b0e4ff51de754a27363cece78"), looks := false }, kinds := [], alts := [], laidByText := true, laidKinds := [.data, .pinned], laidTests := true, laidLooks := .later }
def PlaceReadsUptoCardSaid : Prop := Claim7.holds Tryd.pinned (.plain (OpenSpec.upto placeReadsSpec)) placeReadsUptoCard

/-- THE SECOND FORM's CARD OF 'manciplelaw15.PlaceWrites'. -/
def placeWritesUptoCard : Claim7 := { stood := { row := placeWritesUptoRow, standIns := [], harness := (true, "edc0521343c8f6b55bd0175f14124299220bef2b0e4ff51de754a27363cece78"), looks := false }, kinds := [], alts := [], laidByText := true, laidKinds := [.data, .pinned], laidTests := true, laidLooks := .later }
def PlaceWritesUptoCardSaid : Prop := Claim7.holds Tryd.pinned (.plain (OpenSpec.upto placeWritesSpec)) placeWritesUptoCard

/-- THE SECOND FORM's CARD OF 'manciplelaw15.PlaceBack'. -/
def placeBackUptoCard : Claim7 := { stood := { row := placeBackUptoRow, standIns := [], harness := (true, "edc0521343c8f6b55bd0175f14124299220bef2b0e4ff51de754a27363cece78"), looks := false }, kinds := [], alts := [], laidByText := true, laidKinds := [.data, .pinned], laidTests := true, laidLooks := .later }
def PlaceBackUptoCardSaid : Prop := Claim7.holds Tryd.pinned (.plain (OpenSpec.upto placeBackSpec)) placeBackUptoCard

/-- THE SECOND FORM's CARD OF 'manciplelaw15.PlaceNames'. -/
def placeNamesUptoCard : Claim7 := { stood := { row := placeNamesUptoRow, standIns := [], harness := (true, "edc0521343c8f6b55bd0175f14124299220bef2b0e4ff51de754a27363cece78"), looks := false }, kinds := [], alts := [], laidByText := true, laidKinds := [.data, .pinned], laidTests := true, laidLooks := .later }
def PlaceNamesUptoCardSaid : Prop := Claim7.holds Tryd.pinned (.plain (OpenSpec.upto placeNamesSpec)) placeNamesUptoCard

/-- THE SECOND FORM's CARD OF 'manciplelaw15.PlaceAsked'. -/
def placeAskedUptoCard : Claim7 := { stood := { row := placeAskedUptoRow, standIns := [], harness := (true, "edc0521343c8f6b55bd0175f14124299220bef2b0e4ff51de754a27363cece78"), looks := false }, kinds := [], alts := [], laidByText := true, laidKinds := [.data, .pinned], laidTests := true, laidLooks := .later }
def PlaceAskedUptoCardSaid : Prop := Claim7.holds Tryd.pinned (.plain (OpenSpec.upto placeAskedSpec)) placeAskedUptoCard
end Rows
end Go.Proofs.YtdoplndijlfabaaDoor

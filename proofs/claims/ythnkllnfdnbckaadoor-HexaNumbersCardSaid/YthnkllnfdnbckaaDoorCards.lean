/-
  DERIVED. GIVEN WITH THE SEED: THE CARDS: each row of YthnkllnfdnbckaaDoorRows.lean that lists a variable, with what it lists TIED to the program's text (the seventh form; the later family's looks); each row that meets fmt, with fmt's text TOLD by the authors' own Lean function (tested against real Go, not proved from fmt's source: count such statements apart). THE CARD IS WHAT COUNTS. Prove the row's statement (the work); the ties are given (YthnkllnfdnbckaaDoorTie.lean); close each card by the builder's one call (the guide's Derived/Test/ToyasCard.lean, 'card_holds'). Laid BY PROGRAM, IN A SANDBOX (cutbox-door.mjs). By AI agents, Wed Nov 11 2026. No macro, syntax, notation, axiom, sorry.
-/
import Derived.Test.YthnkllnfdnbckaaDoorRows
import GoSem.ClaimSeven
namespace Go.Proofs.YthnkllnfdnbckaaDoor
namespace Rows

/-- THE TIED CARD OF 'manciplelaw01.HexaNumbers'. -/
def hexaNumbersCard : Claim7 := { stood := { row := hexaNumbersRow, standIns := [], harness := (true, "e4f8c7ee29c4b39fb1b3b70519ef73fed3a0c9dbb1dbdd9aca9debafe1540e70"), looks := false }, kinds := [], alts := [], laidByText := true, laidKinds := [.data, .data, .data], laidTests := true, laidLooks := .later }
def HexaNumbersCardSaid : Prop := Claim7.holds Tryd.pinned (.plain (OpenSpec.ofChange hexaNumbersSpec)) hexaNumbersCard

/-- THE TIED CARD OF 'manciplelaw01.HexaCounts'. -/
def hexaCountsCard : Claim7 := { stood := { row := hexaCountsRow, standIns := [], harness := (true, "e4f8c7ee29c4b39fb1b3b70519ef73fed3a0c9dbb1dbdd9aca9debafe1540e70"), looks := false }, kinds := [], alts := [], laidByText := true, laidKinds := [.data, .data, .data], laidTests := true, laidLooks := .later }
def HexaCountsCardSaid : Prop := Claim7.holds Tryd.pinned (.plain (OpenSpec.ofChange hexaCountsSpec)) hexaCountsCard

/-- THE TIED CARD OF 'manciplelaw01.HexaBytes'. -/
def hexaBytesCard : Claim7 := { stood := { row := hexaBytesRow, standIns := [], harness := (true, "e4f8c7ee29c4b39fb1b3b70519ef73fed3a0c9dbb1dbdd9aca9debafe1540e70"), looks := false }, kinds := [], alts := [], laidByText := true, laidKinds := [.data, .data, .data], laidTests := true, laidLooks := .later }
def HexaBytesCardSaid : Prop := Claim7.holds Tryd.pinned (.plain (OpenSpec.ofChange hexaBytesSpec)) hexaBytesCard

/-- THE TIED CARD OF 'manciplelaw01.HexaBack'. -/
def hexaBackCard : Claim7 := { stood := { row := hexaBackRow, standIns := [], harness := (true, "e4f8c7ee29c4b39fb1b3b70519ef73fed3a0c9dbb1dbdd9aca9debafe1540e70"), looks := false }, kinds := [], alts := [], laidByText := true, laidKinds := [.data, .data, .data], laidTests := true, laidLooks := .later }
def HexaBackCardSaid : Prop := Claim7.holds Tryd.pinned (.plain (OpenSpec.ofChange hexaBackSpec)) hexaBackCard

/-- THE SECOND FORM's CARD OF 'manciplelaw01.HexaNumbers'. -/
def hexaNumbersUptoCard : Claim7 := { stood := { row := hexaNumbersUptoRow, standIns := [], harness := (true, "e4f8c7ee29c4b39fb1b3b70519ef73fed3a0c9dbb1dbdd9aca9debafe1540e70"), looks := false }, kinds := [], alts := [], laidByText := true, laidKinds := [.data, .data, .data], laidTests := true, laidLooks := .later }
def HexaNumbersUptoCardSaid : Prop := Claim7.holds Tryd.pinned (.plain (OpenSpec.upto hexaNumbersSpec)) hexaNumbersUptoCard

/-- THE SECOND FORM's CARD OF 'manciplelaw01.HexaCounts'. -/
def hexaCountsUptoCard : Claim7 := { stood := { row := hexaCountsUptoRow, standIns := [], harness := (true, "e4f8c7ee29c4b39fb1b3b70519ef73fed3a0c9dbb1dbdd9aca9debafe1540e70"), looks := false }, kinds := [], alts := [], laidByText := true, laidKinds := [.data, .data, .data], laidTests := true, laidLooks := .later }
def HexaCountsUptoCardSaid : Prop := Claim7.holds Tryd.pinned (.plain (OpenSpec.upto hexaCountsSpec)) hexaCountsUptoCard

/-- THE SECOND FORM's CARD OF 'manciplelaw01.HexaBytes'. -/
def hexaBytesUptoCard : Claim7 := { stood := { row := hexaBytesUptoRow, standIns := [], harness := (true, "e4f8c7ee29c4b39fb1b3b70519ef73fed3a0c9dbb1dbdd9aca9debafe1540e70"), looks := false }, kinds := [], alts := [], laidByText := true, laidKinds := [.data, .data, .data], laidTests := true, laidLooks := .later }
def HexaBytesUptoCardSaid : Prop := Claim7.holds Tryd.pinned (.plain (OpenSpec.upto hexaBytesSpec)) hexaBytesUptoCard

/-- THE SECOND FORM's CARD OF 'manciplelaw01.HexaBack'. -/
def hexaBackUptoCard : Claim7 := { stood := { row := hexaBackUptoRow, standIns := [], harness := (true, "e4f8c7ee29c4b39fb1b3b70519ef73fed3a0c9dbb1dbdd9aca9debafe1540e70"), looks := false }, kinds := [], alts := [], laidByText := true, laidKinds := [.data, .data, .data], laidTests := true, laidLooks := .later }
def HexaBackUptoCardSaid : Prop := Claim7.holds Tryd.pinned (.plain (OpenSpec.upto hexaBackSpec)) hexaBackUptoCard
end Rows
end Go.Proofs.YthnkllnfdnbckaaDoor

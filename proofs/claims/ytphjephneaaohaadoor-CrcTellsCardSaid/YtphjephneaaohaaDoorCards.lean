/-
  DERIVED. GIVEN WITH THE SEED: THE CARDS: each row of YtphjephneaaohaaDoorRows.lean that lists a variable, with what it lists TIED to the program's text (the seventh form; the later family's looks); each row that meets fmt, with fmt's text TOLD by the authors' own Lean function (tested against real Go, not proved from fmt's source: count such statements apart). THE CARD IS WHAT COUNTS. Prove the row's statement (the work); the ties are given (YtphjephneaaohaaDoorTie.lean); close each card by the builder's one call (the guide's Derived/Test/ToyasCard.lean, 'card_holds'). Laid BY PROGRAM, IN A SANDBOX (cutbox-door.mjs). By AI agents, Wed Nov 11 2026. No macro, syntax, notation, axiom, sorry.
-/
import Derived.Test.YtphjephneaaohaaDoorRows
import GoSem.ClaimSeven
namespace Go.Proofs.YtphjephneaaohaaDoor
namespace Rows

/-- THE TIED CARD OF 'manciplelaw03.CrcExact'. -/
def crcExactCard : Claim7 := { stood := { row := crcExactRow, standIns := [], harness := (true, "e7a4e6ac379aa39ea59dfe1af5bc097fdde0694236874a2e6c03403179dc5b9a"), looks := false }, kinds := [], alts := [], laidByText := true, laidKinds := [.data], laidTests := true, laidLooks := .later }
def CrcExactCardSaid : Prop := Claim7.holds Tryd.pinned (.plain (OpenSpec.ofChange crcExactSpec)) crcExactCard

/-- THE TIED CARD OF 'manciplelaw03.CrcParts'. -/
def crcPartsCard : Claim7 := { stood := { row := crcPartsRow, standIns := [], harness := (true, "e7a4e6ac379aa39ea59dfe1af5bc097fdde0694236874a2e6c03403179dc5b9a"), looks := false }, kinds := [], alts := [], laidByText := true, laidKinds := [.data], laidTests := true, laidLooks := .later }
def CrcPartsCardSaid : Prop := Claim7.holds Tryd.pinned (.plain (OpenSpec.ofChange crcPartsSpec)) crcPartsCard

/-- THE TIED CARD OF 'manciplelaw03.CrcTells'. -/
def crcTellsCard : Claim7 := { stood := { row := crcTellsRow, standIns := [], harness := (true, "e7a4e6ac379aa39ea59dfe1af5bc097fdde0694236874a2e6c03403179dc5b9a"), looks := false }, kinds := [], alts := [], laidByText := true, laidKinds := [.data], laidTests := true, laidLooks := .later }
def CrcTellsCardSaid : Prop := Claim7.holds Tryd.pinned (.plain (OpenSpec.ofChange crcTellsSpec)) crcTellsCard

/-- THE TIED CARD OF 'manciplelaw03.CrcLinear'. -/
def crcLinearCard : Claim7 := { stood := { row := crcLinearRow, standIns := [], harness := (true, "e7a4e6ac379aa39ea59dfe1af5bc097fdde0694236874a2e6c03403179dc5b9a"), looks := false }, kinds := [], alts := [], laidByText := true, laidKinds := [.data], laidTests := true, laidLooks := .later }
def CrcLinearCardSaid : Prop := Claim7.holds Tryd.pinned (.plain (OpenSpec.ofChange crcLinearSpec)) crcLinearCard

/-- THE SECOND FORM's CARD OF 'manciplelaw03.CrcExact'. -/
def crcExactUptoCard : Claim7 := { stood := { row := crcExactUptoRow, standIns := [], harness := (true, "e7a4e6ac379aa39ea59dfe1af5bc097fdde0694236874a2e6c03403179dc5b9a"), looks := false }, kinds := [], alts := [], laidByText := true, laidKinds := [.data], laidTests := true, laidLooks := .later }
def CrcExactUptoCardSaid : Prop := Claim7.holds Tryd.pinned (.plain (OpenSpec.upto crcExactSpec)) crcExactUptoCard

/-- THE SECOND FORM's CARD OF 'manciplelaw03.CrcParts'. -/
def crcPartsUptoCard : Claim7 := { stood := { row := crcPartsUptoRow, standIns := [], harness := (true, "e7a4e6ac379aa39ea59dfe1af5bc097fdde0694236874a2e6c03403179dc5b9a"), looks := false }, kinds := [], alts := [], laidByText := true, laidKinds := [.data], laidTests := true, laidLooks := .later }
def CrcPartsUptoCardSaid : Prop := Claim7.holds Tryd.pinned (.plain (OpenSpec.upto crcPartsSpec)) crcPartsUptoCard

/-- THE SECOND FORM's CARD OF 'manciplelaw03.CrcTells'. -/
def crcTellsUptoCard : Claim7 := { stood := { row := crcTellsUptoRow, standIns := [], harness := (true, "e7a4e6ac379aa39ea59dfe1af5bc097fdde0694236874a2e6c03403179dc5b9a"), looks := false }, kinds := [], alts := [], laidByText := true, laidKinds := [.data], laidTests := true, laidLooks := .later }
def CrcTellsUptoCardSaid : Prop := Claim7.holds Tryd.pinned (.plain (OpenSpec.upto crcTellsSpec)) crcTellsUptoCard

/-- THE SECOND FORM's CARD OF 'manciplelaw03.CrcLinear'. -/
def crcLinearUptoCard : Claim7 := { stood := { row := crcLinearUptoRow, standIns := [], harness := (true, "e7a4e6ac379aa39ea59dfe1af5bc097fdde0694236874a2e6c03403179dc5b9a"), looks := false }, kinds := [], alts := [], laidByText := true, laidKinds := [.data], laidTests := true, laidLooks := .later }
def CrcLinearUptoCardSaid : Prop := Claim7.holds Tryd.pinned (.plain (OpenSpec.upto crcLinearSpec)) crcLinearUptoCard
end Rows
end Go.Proofs.YtphjephneaaohaaDoor

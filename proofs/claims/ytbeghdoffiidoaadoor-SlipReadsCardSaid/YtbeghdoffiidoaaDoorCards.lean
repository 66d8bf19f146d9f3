/-
  DERIVED. GIVEN WITH THE SEED: THE CARDS: each row of YtbeghdoffiidoaaDoorRows.lean that lists a variable, with what it lists TIED to the program's text (the seventh form; the later family's looks); each row that meets fmt, with fmt's text TOLD by the authors' own Lean function (tested against real Go, not proved from fmt's source: count such statements apart). THE CARD IS WHAT COUNTS. Prove the row's statement (the work); the ties are given (YtbeghdoffiidoaaDoorTie.lean); close each card by the builder's one call (the guide's Derived/Test/ToyasCard.lean, 'card_holds'). Laid BY PROGRAM, IN A SANDBOX (cutbox-door.mjs). By AI agents, Wed Nov 11 2026. No macro, syntax, notation, axiom, sorry.
-/
import Derived.Test.YtbeghdoffiidoaaDoorRows
import GoSem.ClaimSeven
namespace Go.Proofs.YtbeghdoffiidoaaDoor
namespace Rows

/-- THE TIED CARD OF 'manciplelaw08.SlipWrites'. -/
def slipWritesCard : Claim7 := { stood := { row := slipWritesRow, standIns := [], harness := (true, "cb362e75592edd7143053b6b1cd3f9d02fc16e58f149f585ee9754f18971c396"), looks := false }, kinds := [], alts := [], laidByText := true, laidKinds := [.data], laidTests := true, laidLooks := .later }
def SlipWritesCardSaid : Prop := Claim7.holds Tryd.pinned (.plain (OpenSpec.ofChange slipWritesSpec)) slipWritesCard

/-- THE TIED CARD OF 'manciplelaw08.SlipReads'. -/
def slipReadsCard : Claim7 := { stood := { row := slipReadsRow, standIns := [], harness := (true, "cb362e75592edd7143053b6b1cd3f9d02fc16e58f149f585ee9754f18971c396"), looks := false }, kinds := [], alts := [], laidByText := true, laidKinds := [.data], laidTests := true, laidLooks := .later }
def SlipReadsCardSaid : Prop := Claim7.holds Tryd.pinned (.plain (OpenSpec.ofChange slipReadsSpec)) slipReadsCard

/-- THE TIED CARD OF 'manciplelaw08.SlipBack'. -/
def slipBackCard : Claim7 := { stood := { row := slipBackRow, standIns := [], harness := (true, "cb362e75592edd7143053b6b1cd3f9d02fc16e58f149f585ee9754f18971c396"), looks := false }, kinds := [], alts := [], laidByText := true, laidKinds := [.data], laidTests := true, laidLooks := .later }
def SlipBackCardSaid : Prop := Claim7.holds Tryd.pinned (.plain (OpenSpec.ofChange slipBackSpec)) slipBackCard

/-- THE TIED CARD OF 'manciplelaw08.SlipTorn'. -/
def slipTornCard : Claim7 := { stood := { row := slipTornRow, standIns := [], harness := (true, "cb362e75592edd7143053b6b1cd3f9d02fc16e58f149f585ee9754f18971c396"), looks := false }, kinds := [], alts := [], laidByText := true, laidKinds := [.data], laidTests := true, laidLooks := .later }
def SlipTornCardSaid : Prop := Claim7.holds Tryd.pinned (.plain (OpenSpec.ofChange slipTornSpec)) slipTornCard

/-- THE SECOND FORM's CARD OF 'manciplelaw08.SlipWrites'. -/
def slipWritesUptoCard : Claim7 := { stood := { row := slipWritesUptoRow, standIns := [], harness := (true, "cb362e75592edd7143053b6b1cd3f9d02fc16e58f149f585ee9754f18971c396"), looks := false }, kinds := [], alts := [], laidByText := true, laidKinds := [.data], laidTests := true, laidLooks := .later }
def SlipWritesUptoCardSaid : Prop := Claim7.holds Tryd.pinned (.plain (OpenSpec.upto slipWritesSpec)) slipWritesUptoCard

/-- THE SECOND FORM's CARD OF 'manciplelaw08.SlipReads'. -/
def slipReadsUptoCard : Claim7 := { stood := { row := slipReadsUptoRow, standIns := [], harness := (true, "cb362e75592edd7143053b6b1cd3f9d02fc16e58f149f585ee9754f18971c396"), looks := false }, kinds := [], alts := [], laidByText := true, laidKinds := [.data], laidTests := true, laidLooks := .later }
def SlipReadsUptoCardSaid : Prop := Claim7.holds Tryd.pinned (.plain (OpenSpec.upto slipReadsSpec)) slipReadsUptoCard

/-- THE SECOND FORM's CARD OF 'manciplelaw08.SlipBack'. -/
def slipBackUptoCard : Claim7 := { stood := { row := slipBackUptoRow, standIns := [], harness := (true, "cb362e75592edd7143053b6b1cd3f9d02fc16e58f149f585ee9754f18971c396"), looks := false }, kinds := [], alts := [], laidByText := true, laidKinds := [.data], laidTests := true, laidLooks := .later }
def SlipBackUptoCardSaid : Prop := Claim7.holds Tryd.pinned (.plain (OpenSpec.upto slipBackSpec)) slipBackUptoCard

/-- THE SECOND FORM's CARD OF 'manciplelaw08.SlipTorn'. -/
def slipTornUptoCard : Claim7 := { stood := { row := slipTornUptoRow, standIns := [], harness := (true, "cb362e75592edd7143053b6b1cd3f9d02fc16e58f149f585ee9754f18971c396"), looks := false }, kinds := [], alts := [], laidByText := true, laidKinds := [.data], laidTests := true, laidLooks := .later }
def SlipTornUptoCardSaid : Prop := Claim7.holds Tryd.pinned (.plain (OpenSpec.upto slipTornSpec)) slipTornUptoCard
end Rows
end Go.Proofs.YtbeghdoffiidoaaDoor

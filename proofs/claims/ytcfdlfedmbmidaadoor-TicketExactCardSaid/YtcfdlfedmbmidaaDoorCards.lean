/-
  DERIVED. GIVEN WITH THE SEED: THE CARDS: each row of YtcfdlfedmbmidaaDoorRows.lean that lists a variable, with what it lists TIED to the program's text (the seventh form; the later family's looks); each row that meets fmt, with fmt's text TOLD by the authors' own Lean function (tested against real Go, not proved from fmt's source: count such statements apart). THE CARD IS WHAT COUNTS. Prove the row's statement (the work); the ties are given (YtcfdlfedmbmidaaDoorTie.lean); close each card by the builder's one call (the guide's Derived/Test/ToyasCard.lean, 'card_holds'). Laid BY PROGRAM, IN A SANDBOX (cutbox-door.mjs). By AI agents, Wed Nov 11 2026. No macro, syntax, notation, axiom, sorry.
-/
import Derived.Test.YtcfdlfedmbmidaaDoorRows
import GoSem.ClaimSeven
namespace Go.Proofs.YtcfdlfedmbmidaaDoor
namespace Rows

/-- THE TIED CARD OF 'manciplelaw20.TicketJudges'. -/
def ticketJudgesCard : Claim7 := { stood := { row := ticketJudgesRow, standIns := [], harness := (true, "1bd1d46669ab98e9e945848539b9686342ccb99b2f04ee04925080f421e13128"), looks := false }, kinds := [], alts := [], laidByText := true, laidKinds := [.data, .pinned], laidTests := true, laidLooks := .later }
def TicketJudgesCardSaid : Prop := Claim7.holds Tryd.pinned (.plain (OpenSpec.ofChange ticketJudgesSpec)) ticketJudgesCard

/-- THE TIED CARD OF 'manciplelaw20.TicketOlder'. -/
def ticketOlderCard : Claim7 := { stood := { row := ticketOlderRow, standIns := [], harness := (true, "1bd1d46669ab98e9e945848539b9686342ccb99b2f04ee04925080f421e13128"), looks := false }, kinds := [], alts := [], laidByText := true, laidKinds := [.data, .pinned], laidTests := true, laidLooks := .later }
def TicketOlderCardSaid : Prop := Claim7.holds Tryd.pinned (.plain (OpenSpec.ofChange ticketOlderSpec)) ticketOlderCard

/-- THE TIED CARD OF 'manciplelaw20.TicketExact'. -/
def ticketExactCard : Claim7 := { stood := { row := ticketExactRow, standIns := [], harness := (true, "1bd1d46669ab98e9e945848539b9686342ccb99b2f04ee04925080f421e13128"), looks := false }, kinds := [], alts := [], laidByText := true, laidKinds := [.data, .pinned], laidTests := true, laidLooks := .later }
def TicketExactCardSaid : Prop := Claim7.holds Tryd.pinned (.plain (OpenSpec.ofChange ticketExactSpec)) ticketExactCard

/-- THE TIED CARD OF 'manciplelaw20.TicketOnce'. -/
def ticketOnceCard : Claim7 := { stood := { row := ticketOnceRow, standIns := [], harness := (true, "1bd1d46669ab98e9e945848539b9686342ccb99b2f04ee04925080f421e13128"), looks := false }, kinds := [], alts := [], laidByText := true, laidKinds := [.data, .pinned], laidTests := true, laidLooks := .later }
def TicketOnceCardSaid : Prop := Claim7.holds Tryd.pinned (.plain (OpenSpec.ofChange ticketOnceSpec)) ticketOnceCard

/-- THE SECOND FORM's CARD OF 'manciplelaw20.TicketJudges'. -/
def ticketJudgesUptoCard : Claim7 := { stood := { row := ticketJudgesUptoRow, standIns := [], harness := (true, "1bd1d46669ab98e9e945848539b9686342ccb99b2f04ee04925080f421e13128"), looks := false }, kinds := [], alts := [], laidByText := true, laidKinds := [.data, .pinned], laidTests := true, laidLooks := .later }
def TicketJudgesUptoCardSaid : Prop := Claim7.holds Tryd.pinned (.plain (OpenSpec.upto ticketJudgesSpec)) ticketJudgesUptoCard

/-- THE SECOND FORM's CARD OF 'manciplelaw20.TicketOlder'. -/
def ticketOlderUptoCard : Claim7 := { stood := { row := ticketOlderUptoRow, standIns := [], harness := (true, "1bd1d46669ab98e9e945848539b9686342ccb99b2f04ee04925080f421e13128"), looks := false }, kinds := [], alts := [], laidByText := true, laidKinds := [.data, .pinned], laidTests := true, laidLooks := .later }
def TicketOlderUptoCardSaid : Prop := Claim7.holds Tryd.pinned (.plain (OpenSpec.upto ticketOlderSpec)) ticketOlderUptoCard

/-- THE SECOND FORM's CARD OF 'manciplelaw20.TicketExact'. -/
def ticketExactUptoCard : Claim7 := { stood := { row := ticketExactUptoRow, standIns := [], harness := (true, "1bd1d46669ab98e9e945848539b9686342ccb99b2f04ee04925080f421e13128"), looks := false }, kinds := [], alts := [], laidByText := true, laidKinds := [.data, .pinned], laidTests := true, laidLooks := .later }
def TicketExactUptoCardSaid : Prop := Claim7.holds Tryd.pinned (.plain (OpenSpec.upto ticketExactSpec)) ticketExactUptoCard

/-- THE SECOND FORM's CARD OF 'manciplelaw20.TicketOnce'. -/
def ticketOnceUptoCard : Claim7 := { stood := { row := ticketOnceUptoRow, standIns := [], harness := (true, "1bd1d46669ab98e9e945848539b9686342ccb99b2f04ee04925080f421e13128"), looks := false }, kinds := [], alts := [], laidByText := true, laidKinds := [.data, .pinned], laidTests := true, laidLooks := .later }
def TicketOnceUptoCardSaid : Prop := Claim7.holds Tryd.pinned (.plain (OpenSpec.upto ticketOnceSpec)) ticketOnceUptoCard
end Rows
end Go.Proofs.YtcfdlfedmbmidaaDoor

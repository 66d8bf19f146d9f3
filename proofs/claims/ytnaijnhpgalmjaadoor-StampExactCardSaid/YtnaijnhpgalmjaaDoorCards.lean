/-
  DERIVED. GIVEN WITH THE SEED: THE CARDS: each row of YtnaijnhpgalmjaaDoorRows.lean that lists a variable, with what it lists TIED to the program's text (the seventh form; the later family's looks); each row that meets fmt, with fmt's text TOLD by the authors' own Lean function (tested against real Go, not proved from fmt's source: count such statements apart). THE CARD IS WHAT COUNTS. Prove the row's statement (the work); the ties are given (YtnaijnhpgalmjaaDoorTie.lean); close each card by the builder's one call (the guide's Derived/Test/ToyasCard.lean, 'card_holds'). Laid BY PROGRAM, IN A SANDBOX (cutbox-door.mjs). By AI agents, Wed Nov 11 2026. No macro, syntax, notation, axiom, sorry.
-/
import Derived.Test.YtnaijnhpgalmjaaDoorRows
import GoSem.ClaimSeven
namespace Go.Proofs.YtnaijnhpgalmjaaDoor
namespace Rows

/-- THE TIED CARD OF 'manciplelaw04.StampOrders'. -/
def stampOrdersCard : Claim7 := { stood := { row := stampOrdersRow, standIns := [], harness := (true, "9f3b5b996eb5fa506731442380581d4aa04a5df5f29b3b01620db2b64b73c564"), looks := false }, kinds := [], alts := [], laidByText := true, laidKinds := [.data, .data], laidTests := true, laidLooks := .later }
def StampOrdersCardSaid : Prop := Claim7.holds Tryd.pinned (.plain (OpenSpec.ofChange stampOrdersSpec)) stampOrdersCard

/-- THE TIED CARD OF 'manciplelaw04.StampExact'. -/
def stampExactCard : Claim7 := { stood := { row := stampExactRow, standIns := [], harness := (true, "9f3b5b996eb5fa506731442380581d4aa04a5df5f29b3b01620db2b64b73c564"), looks := false }, kinds := [], alts := [], laidByText := true, laidKinds := [.data, .data], laidTests := true, laidLooks := .later }
def StampExactCardSaid : Prop := Claim7.holds Tryd.pinned (.plain (OpenSpec.ofChange stampExactSpec)) stampExactCard

/-- THE TIED CARD OF 'manciplelaw04.StampBack'. -/
def stampBackCard : Claim7 := { stood := { row := stampBackRow, standIns := [], harness := (true, "9f3b5b996eb5fa506731442380581d4aa04a5df5f29b3b01620db2b64b73c564"), looks := false }, kinds := [], alts := [], laidByText := true, laidKinds := [.data, .data], laidTests := true, laidLooks := .later }
def StampBackCardSaid : Prop := Claim7.holds Tryd.pinned (.plain (OpenSpec.ofChange stampBackSpec)) stampBackCard

/-- THE SECOND FORM's CARD OF 'manciplelaw04.StampOrders'. -/
def stampOrdersUptoCard : Claim7 := { stood := { row := stampOrdersUptoRow, standIns := [], harness := (true, "9f3b5b996eb5fa506731442380581d4aa04a5df5f29b3b01620db2b64b73c564"), looks := false }, kinds := [], alts := [], laidByText := true, laidKinds := [.data, .data], laidTests := true, laidLooks := .later }
def StampOrdersUptoCardSaid : Prop := Claim7.holds Tryd.pinned (.plain (OpenSpec.upto stampOrdersSpec)) stampOrdersUptoCard

/-- THE SECOND FORM's CARD OF 'manciplelaw04.StampExact'. -/
def stampExactUptoCard : Claim7 := { stood := { row := stampExactUptoRow, standIns := [], harness := (true, "9f3b5b996eb5fa506731442380581d4aa04a5df5f29b3b01620db2b64b73c564"), looks := false }, kinds := [], alts := [], laidByText := true, laidKinds := [.data, .data], laidTests := true, laidLooks := .later }
def StampExactUptoCardSaid : Prop := Claim7.holds Tryd.pinned (.plain (OpenSpec.upto stampExactSpec)) stampExactUptoCard

/-- THE SECOND FORM's CARD OF 'manciplelaw04.StampBack'. -/
def stampBackUptoCard : Claim7 := { stood := { row := stampBackUptoRow, standIns := [], harness := (true, "9f3b5b996eb5fa506731442380581d4aa04a5df5f29b3b01620db2b64b73c564"), looks := false }, kinds := [], alts := [], laidByText := true, laidKinds := [.data, .data], laidTests := true, laidLooks := .later }
def StampBackUptoCardSaid : Prop := Claim7.holds Tryd.pinned (.plain (OpenSpec.upto stampBackSpec)) stampBackUptoCard
end Rows
end Go.Proofs.YtnaijnhpgalmjaaDoor

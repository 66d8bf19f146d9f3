/-
  DERIVED. GIVEN WITH THE SEED: THE CARDS: each row of YtdnaijaamnfgmaaDoorRows.lean that lists a variable, with what it lists TIED to the program's text (the seventh form; the later family's looks); each row that meets fmt, with fmt's text TOLD by the authors' own Lean function (tested against real Go, not proved from fmt's source: count such statements apart). THE CARD IS WHAT COUNTS. Prove the row's statement (the work); the ties are given (YtdnaijaamnfgmaaDoorTie.lean); close each card by the builder's one call (the guide's Derived/Test/ToyasCard.lean, 'card_holds'). Laid BY PROGRAM, IN A SANDBOX (cutbox-door.mjs). By AI agents, Wed Nov 11 2026. No macro, syntax, notation, axiom, sorry.
-/
import Derived.Test.YtdnaijaamnfgmaaDoorRows
import GoSem.ClaimSeven
namespace Go.Proofs.YtdnaijaamnfgmaaDoor
namespace Rows

/-- THE TIED CARD OF 'manciplelaw18.ExcuseExact'. -/
def excuseExactCard : Claim7 := { stood := { row := excuseExactRow, standIns := [], harness := (true, "7ebc32fc71d5228a1879651d4e8d22373ecb06260903c5aba07c2ffdaebda13f"), looks := false }, kinds := [], alts := [], laidByText := true, laidKinds := [.data, .data, .data], laidTests := true, laidLooks := .later }
def ExcuseExactCardSaid : Prop := Claim7.holds Tryd.pinned (.plain (OpenSpec.ofChange excuseExactSpec)) excuseExactCard

/-- THE TIED CARD OF 'manciplelaw18.ExcuseBack'. -/
def excuseBackCard : Claim7 := { stood := { row := excuseBackRow, standIns := [], harness := (true, "7ebc32fc71d5228a1879651d4e8d22373ecb06260903c5aba07c2ffdaebda13f"), looks := false }, kinds := [], alts := [], laidByText := true, laidKinds := [.data, .data, .data], laidTests := true, laidLooks := .later }
def ExcuseBackCardSaid : Prop := Claim7.holds Tryd.pinned (.plain (OpenSpec.ofChange excuseBackSpec)) excuseBackCard

/-- THE TIED CARD OF 'manciplelaw18.ExcusePages'. -/
def excusePagesCard : Claim7 := { stood := { row := excusePagesRow, standIns := [], harness := (true, "7ebc32fc71d5228a1879651d4e8d22373ecb06260903c5aba07c2ffdaebda13f"), looks := false }, kinds := [], alts := [], laidByText := true, laidKinds := [.data, .data, .data, .data, .pinned], laidTests := true, laidLooks := .later }
def ExcusePagesCardSaid : Prop := Claim7.holds Tryd.pinned (.plain (OpenSpec.ofChange excusePagesSpec)) excusePagesCard

/-- THE SECOND FORM's CARD OF 'manciplelaw18.ExcuseExact'. -/
def excuseExactUptoCard : Claim7 := { stood := { row := excuseExactUptoRow, standIns := [], harness := (true, "7ebc32fc71d5228a1879651d4e8d22373ecb06260903c5aba07c2ffdaebda13f"), looks := false }, kinds := [], alts := [], laidByText := true, laidKinds := [.data, .data, .data], laidTests := true, laidLooks := .later }
def ExcuseExactUptoCardSaid : Prop := Claim7.holds Tryd.pinned (.plain (OpenSpec.upto excuseExactSpec)) excuseExactUptoCard

/-- THE SECOND FORM's CARD OF 'manciplelaw18.ExcuseBack'. -/
def excuseBackUptoCard : Claim7 := { stood := { row := excuseBackUptoRow, standIns := [], harness := (true, "7ebc32fc71d5228a1879651d4e8d22373ecb06260903c5aba07c2ffdaebda13f"), looks := false }, kinds := [], alts := [], laidByText := true, laidKinds := [.data, .data, .data], laidTests := true, laidLooks := .later }
def ExcuseBackUptoCardSaid : Prop := Claim7.holds Tryd.pinned (.plain (OpenSpec.upto excuseBackSpec)) excuseBackUptoCard

/-- THE SECOND FORM's CARD OF 'manciplelaw18.ExcusePages'. -/
def excusePagesUptoCard : Claim7 := { stood := { row := excusePagesUptoRow, standIns := [], harness := (true, "7ebc32fc71d5228a1879651d4e8d22373ecb06260903c5aba07c2ffdaebda13f"), looks := false }, kinds := [], alts := [], laidByText := true, laidKinds := [.data, .data, .data, .data, .pinned], laidTests := true, laidLooks := .later }
def ExcusePagesUptoCardSaid : Prop := Claim7.holds Tryd.pinned (.plain (OpenSpec.upto excusePagesSpec)) excusePagesUptoCard
end Rows
end Go.Proofs.YtdnaijaamnfgmaaDoor

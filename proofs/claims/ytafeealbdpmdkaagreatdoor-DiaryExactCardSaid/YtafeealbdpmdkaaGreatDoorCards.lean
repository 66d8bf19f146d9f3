/-
  DERIVED. GIVEN WITH THE SEED: THE CARDS: each row of YtafeealbdpmdkaaGreatDoorRows.lean that lists a variable, with what it lists TIED to the program's text (the seventh form; the later family's looks); each row that meets fmt, with fmt's text TOLD by the authors' own Lean function (tested against real Go, not proved from fmt's source: count such statements apart). THE CARD IS WHAT COUNTS. Prove the row's statement (the work); the ties are given (YtafeealbdpmdkaaGreatDoorTie.lean); close each card by the builder's one call (the guide's Derived/Test/ToyasCard.lean, 'card_holds'). Laid BY PROGRAM, IN A SANDBOX (cutbox-door.mjs). By AI agents, Wed Nov 11 2026. No macro, syntax, notation, axiom, sorry.
-/
import Derived.Test.YtafeealbdpmdkaaGreatDoorRows
import GoSem.ClaimSeven
namespace Go.Proofs.YtafeealbdpmdkaaGreatDoor
namespace Rows

/-- THE TIED CARD OF 'manciplelaw09.DiaryExact'. -/
def diaryExactCard : Claim7 := { stood := { row := diaryExactRow, standIns := [], harness := (true, "4da3c427e0be90b26074f6feb3765bd3e2ae85b64c5a01a78211aa13499944bb"), looks := false }, kinds := [], alts := [], laidByText := true, laidKinds := [.data], laidTests := true, laidLooks := .later }
def DiaryExactCardSaid : Prop := Claim7.holds Tryz.pinned (.plain (OpenSpec.ofChange diaryExactSpec)) diaryExactCard

/-- THE SECOND FORM's CARD OF 'manciplelaw09.DiaryExact'. -/
def diaryExactUptoCard : Claim7 := { stood := { row := diaryExactUptoRow, standIns := [], harness := (true, "4da3c427e0be90b26074f6feb3765bd3e2ae85b64c5a01a78211aa13499944bb"), looks := false }, kinds := [], alts := [], laidByText := true, laidKinds := [.data], laidTests := true, laidLooks := .later }
def DiaryExactUptoCardSaid : Prop := Claim7.holds Tryz.pinned (.plain (OpenSpec.upto diaryExactSpec)) diaryExactUptoCard
end Rows
end Go.Proofs.YtafeealbdpmdkaaGreatDoor

/-
  DERIVED. GIVEN WITH THE SEED: THE CARDS: each row of YtafeealbdpmdkaaDoorRows.lean that lists a variable, with what it lists TIED to the program's text (the seventh form; the later family's looks); each row that meets fmt, with fmt's text TOLD by the authors' own Lean function (tested against real Go, not proved from fmt's source: count such statements apart). THE CARD IS WHAT COUNTS. Prove the row's statement (the work); the ties are given (YtafeealbdpmdkaaDoorTie.lean); close each card by the builder's one call (the guide's Derived/Test/ToyasCard.lean, 'card_holds'). Laid BY PROGRAM, IN A SANDBOX (cutbox-door.mjs). By AI agents, Wed Nov 11 2026. No macro, syntax, notation, axiom, sorry.
-/
import Derived.Test.YtafeealbdpmdkaaDoorRows
import GoSem.ClaimSeven
namespace Go.Proofs.YtafeealbdpmdkaaDoor
namespace Rows

/-- THE TIED CARD OF 'manciplelaw09.DiaryKeeps'. -/
def diaryKeepsCard : Claim7 := { stood := { row := diaryKeepsRow, standIns := [], harness := (true, "c914a2804260d8a2a24daead8cca0ea1b2f1b25a725112f2247097c68816229f"), looks := false }, kinds := [], alts := [], laidByText := true, laidKinds := [.data], laidTests := true, laidLooks := .later }
def DiaryKeepsCardSaid : Prop := Claim7.holds Tryd.pinned (.plain (OpenSpec.ofChange diaryKeepsSpec)) diaryKeepsCard

/-- THE TIED CARD OF 'manciplelaw09.DiaryRewrites'. -/
def diaryRewritesCard : Claim7 := { stood := { row := diaryRewritesRow, standIns := [], harness := (true, "c914a2804260d8a2a24daead8cca0ea1b2f1b25a725112f2247097c68816229f"), looks := false }, kinds := [], alts := [], laidByText := true, laidKinds := [.data], laidTests := true, laidLooks := .later }
def DiaryRewritesCardSaid : Prop := Claim7.holds Tryd.pinned (.plain (OpenSpec.ofChange diaryRewritesSpec)) diaryRewritesCard

/-- THE TIED CARD OF 'manciplelaw09.DiarySick'. -/
def diarySickCard : Claim7 := { stood := { row := diarySickRow, standIns := [], harness := (true, "c914a2804260d8a2a24daead8cca0ea1b2f1b25a725112f2247097c68816229f"), looks := false }, kinds := [], alts := [], laidByText := true, laidKinds := [.data], laidTests := true, laidLooks := .later }
def DiarySickCardSaid : Prop := Claim7.holds Tryd.pinned (.plain (OpenSpec.ofChange diarySickSpec)) diarySickCard

/-- THE SECOND FORM's CARD OF 'manciplelaw09.DiaryKeeps'. -/
def diaryKeepsUptoCard : Claim7 := { stood := { row := diaryKeepsUptoRow, standIns := [], harness := (true, "c914a2804260d8a2a24daead8cca0ea1b2f1b25a725112f2247097c68816229f"), looks := false }, kinds := [], alts := [], laidByText := true, laidKinds := [.data], laidTests := true, laidLooks := .later }
def DiaryKeepsUptoCardSaid : Prop := Claim7.holds Tryd.pinned (.plain (OpenSpec.upto diaryKeepsSpec)) diaryKeepsUptoCard

/-- THE SECOND FORM's CARD OF 'manciplelaw09.DiaryRewrites'. -/
def diaryRewritesUptoCard : Claim7 := { stood := { row := diaryRewritesUptoRow, standIns := [], harness := (true, "c914a2804260d8a2a24daead8cca0ea1b2f1b25a725112f2247097c68816229f"), looks := false }, kinds := [], alts := [], laidByText := true, laidKinds := [.data], laidTests := true, laidLooks := .later }
def DiaryRewritesUptoCardSaid : Prop := Claim7.holds Tryd.pinned (.plain (OpenSpec.upto diaryRewritesSpec)) diaryRewritesUptoCard

/-- THE SECOND FORM's CARD OF 'manciplelaw09.DiarySick'. -/
def diarySickUptoCard : Claim7 := { stood := { row := diarySickUptoRow, standIns := [], harness := (true, "c914a2804260d8a2a24daead8cca0ea1b2f1b25a725112f2247097c68816229f"), looks := false }, kinds := [], alts := [], laidByText := true, laidKinds := [.data], laidTests := true, laidLooks := .later }
def DiarySickUptoCardSaid : Prop := Claim7.holds Tryd.pinned (.plain (OpenSpec.upto diarySickSpec)) diarySickUptoCard
end Rows
end Go.Proofs.YtafeealbdpmdkaaDoor

/-
  DERIVED. GIVEN WITH THE SEED: THE CARDS: each row of YthgbhpeidngjmaaDoorRows.lean that lists a variable, with what it lists TIED to the program's text (the seventh form; the later family's looks); each row that meets fmt, with fmt's text TOLD by the authors' own Lean function (tested against real Go, not proved from fmt's source: count such statements apart). THE CARD IS WHAT COUNTS. Prove the row's statement (the work); the ties are given (YthgbhpeidngjmaaDoorTie.lean); close each card by the builder's one call (the guide's Derived/Test/ToyasCard.lean, 'card_holds'). Laid BY PROGRAM, IN A SANDBOX (cutbox-door.mjs). By AI agents, Wed Nov 11 2026. No macro, syntax, notation, axiom, sorry.
-/
import Derived.Test.YthgbhpeidngjmaaDoorRows
import GoSem.ClaimSeven
namespace Go.Proofs.YthgbhpeidngjmaaDoor
namespace Rows

/-- THE TIED CARD OF 'manciplelaw02.ShaExact'. -/
def shaExactCard : Claim7 := { stood := { row := shaExactRow, standIns := [], harness := (true, "03f1565af3d9c13be947bea2962ad5d45377174bcf8889b580d472c44aa66cd9"), looks := false }, kinds := [], alts := [], laidByText := true, laidKinds := [.data, .data], laidTests := true, laidLooks := .later }
def ShaExactCardSaid : Prop := Claim7.holds Tryd.pinned (.plain (OpenSpec.ofChange shaExactSpec)) shaExactCard

/-- THE TIED CARD OF 'manciplelaw02.ShaParts'. -/
def shaPartsCard : Claim7 := { stood := { row := shaPartsRow, standIns := [], harness := (true, "03f1565af3d9c13be947bea2962ad5d45377174bcf8889b580d472c44aa66cd9"), looks := false }, kinds := [], alts := [], laidByText := true, laidKinds := [.data, .data], laidTests := true, laidLooks := .later }
def ShaPartsCardSaid : Prop := Claim7.holds Tryd.pinned (.plain (OpenSpec.ofChange shaPartsSpec)) shaPartsCard

/-- THE TIED CARD OF 'manciplelaw02.ShaNone'. -/
def shaNoneCard : Claim7 := { stood := { row := shaNoneRow, standIns := [], harness := (true, "03f1565af3d9c13be947bea2962ad5d45377174bcf8889b580d472c44aa66cd9"), looks := false }, kinds := [], alts := [], laidByText := true, laidKinds := [.data, .data], laidTests := true, laidLooks := .later }
def ShaNoneCardSaid : Prop := Claim7.holds Tryd.pinned (.plain (OpenSpec.ofChange shaNoneSpec)) shaNoneCard

/-- THE SECOND FORM's CARD OF 'manciplelaw02.ShaExact'. -/
def shaExactUptoCard : Claim7 := { stood := { row := shaExactUptoRow, standIns := [], harness := (true, "03f1565af3d9c13be947bea2962ad5d45377174bcf8889b580d472c44aa66cd9"), looks := false }, kinds := [], alts := [], laidByText := true, laidKinds := [.data, .data], laidTests := true, laidLooks := .later }
def ShaExactUptoCardSaid : Prop := Claim7.holds Tryd.pinned (.plain (OpenSpec.upto shaExactSpec)) shaExactUptoCard

/-- THE SECOND FORM's CARD OF 'manciplelaw02.ShaParts'. -/
def shaPartsUptoCard : Claim7 := { stood := { row := shaPartsUptoRow, standIns := [], harness := (true, "03f1565af3d9c13be947bea2962ad5d45377174bcf8889b580d472c44aa66cd9"), looks := false }, kinds := [], alts := [], laidByText := true, laidKinds := [.data, .data], laidTests := true, laidLooks := .later }
def ShaPartsUptoCardSaid : Prop := Claim7.holds Tryd.pinned (.plain (OpenSpec.upto shaPartsSpec)) shaPartsUptoCard

/-- THE SECOND FORM's CARD OF 'manciplelaw02.ShaNone'. -/
def shaNoneUptoCard : Claim7 := { stood := { row := shaNoneUptoRow, standIns := [], harness := (true, "03f1565af3d9c13be947bea2962ad5d45377174bcf8889b580d472c44aa66cd9"), looks := false }, kinds := [], alts := [], laidByText := true, laidKinds := [.data, .data], laidTests := true, laidLooks := .later }
def ShaNoneUptoCardSaid : Prop := Claim7.holds Tryd.pinned (.plain (OpenSpec.upto shaNoneSpec)) shaNoneUptoCard
end Rows
end Go.Proofs.YthgbhpeidngjmaaDoor

/-
  DERIVED. GIVEN WITH THE SEED: THE CARDS: each row of YtglnefmaphajaaaDoorRows.lean that lists a variable, with what it lists TIED to the program's text (the seventh form; the later family's looks); each row that meets fmt, with fmt's text TOLD by the authors' own Lean function (tested against real Go, not proved from fmt's source: count such statements apart). THE CARD IS WHAT COUNTS. Prove the row's statement (the work); the ties are given (YtglnefmaphajaaaDoorTie.lean); close each card by the builder's one call (the guide's Derived/Test/ToyasCard.lean, 'card_holds'). Laid BY PROGRAM, IN A SANDBOX (cutbox-door.mjs). By AI agents, Wed Nov 11 2026. No macro, syntax, notation, axiom, sorry.
-/
import Derived.Test.YtglnefmaphajaaaDoorRows
import GoSem.ClaimSeven
namespace Go.Proofs.YtglnefmaphajaaaDoor
namespace Rows

/-- THE TIED CARD OF 'manciplelaw17.TasteBounds'. -/
def tasteBoundsCard : Claim7 := { stood := { row := tasteBoundsRow, standIns := [], harness := (true, "744f9bc566780d9ec0b7fcba1a25048691c2d2cf8c0b846f11b92f9152f78433"), looks := false }, kinds := [], alts := [], laidByText := true, laidKinds := [.data, .pinned], laidTests := true, laidLooks := .later }
def TasteBoundsCardSaid : Prop := Claim7.holds Tryd.pinned (.plain (OpenSpec.ofChange tasteBoundsSpec)) tasteBoundsCard

/-- THE TIED CARD OF 'manciplelaw17.TasteNearer'. -/
def tasteNearerCard : Claim7 := { stood := { row := tasteNearerRow, standIns := [], harness := (true, "744f9bc566780d9ec0b7fcba1a25048691c2d2cf8c0b846f11b92f9152f78433"), looks := false }, kinds := [], alts := [], laidByText := true, laidKinds := [.data, .pinned], laidTests := true, laidLooks := .later }
def TasteNearerCardSaid : Prop := Claim7.holds Tryd.pinned (.plain (OpenSpec.ofChange tasteNearerSpec)) tasteNearerCard

/-- THE TIED CARD OF 'manciplelaw17.TasteTags'. -/
def tasteTagsCard : Claim7 := { stood := { row := tasteTagsRow, standIns := [], harness := (true, "744f9bc566780d9ec0b7fcba1a25048691c2d2cf8c0b846f11b92f9152f78433"), looks := false }, kinds := [], alts := [], laidByText := true, laidKinds := [.data, .pinned], laidTests := true, laidLooks := .later }
def TasteTagsCardSaid : Prop := Claim7.holds Tryd.pinned (.plain (OpenSpec.ofChange tasteTagsSpec)) tasteTagsCard

/-- THE SECOND FORM's CARD OF 'manciplelaw17.TasteBounds'. -/
def tasteBoundsUptoCard : Claim7 := { stood := { row := tasteBoundsUptoRow, standIns := [], harness := (true, "744f9bc566780d9ec0b7fcba1a25048691c2d2cf8c0b846f11b92f9152f78433"), looks := false }, kinds := [], alts := [], laidByText := true, laidKinds := [.data, .pinned], laidTests := true, laidLooks := .later }
def TasteBoundsUptoCardSaid : Prop := Claim7.holds Tryd.pinned (.plain (OpenSpec.upto tasteBoundsSpec)) tasteBoundsUptoCard

/-- THE SECOND FORM's CARD OF 'manciplelaw17.TasteNearer'. -/
def tasteNearerUptoCard : Claim7 := { stood := { row := tasteNearerUptoRow, standIns := [], harness := (true, "744f9bc566780d9ec0b7fcba1a25048691c2d2cf8c0b846f11b92f9152f78433"), looks := false }, kinds := [], alts := [], laidByText := true, laidKinds := [.data, .pinned], laidTests := true, laidLooks := .later }
def TasteNearerUptoCardSaid : Prop := Claim7.holds Tryd.pinned (.plain (OpenSpec.upto tasteNearerSpec)) tasteNearerUptoCard

/-- THE SECOND FORM's CARD OF 'manciplelaw17.TasteTags'. -/
def tasteTagsUptoCard : Claim7 := { stood := { row := tasteTagsUptoRow, standIns := [], harness := (true, "744f9bc566780d9ec0b7fcba1a25048691c2d2cf8c0b846f11b92f9152f78433"), looks := false }, kinds := [], alts := [], laidByText := true, laidKinds := [.data, .pinned], laidTests := true, laidLooks := .later }
def TasteTagsUptoCardSaid : Prop := Claim7.holds Tryd.pinned (.plain (OpenSpec.upto tasteTagsSpec)) tasteTagsUptoCard
end Rows
end Go.Proofs.YtglnefmaphajaaaDoor

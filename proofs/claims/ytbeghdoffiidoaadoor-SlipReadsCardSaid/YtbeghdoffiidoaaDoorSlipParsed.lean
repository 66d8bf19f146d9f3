/- What slip.parse gives, as plain Lean. -/
import Derived.Test.YtbeghdoffiidoaaDoorSlipNum
set_option linter.unusedSimpArgs false
set_option linter.unusedVariables false
set_option linter.unusedSectionVars false
namespace Go.Proofs.YtbeghdoffiidoaaDoor
open Go.RowKit
namespace Slp
def pNames (p : S × Sc) : S × Sc := ({ p.1 with repo := ⟨(textS p.2).1.toArray⟩, tag := ⟨(textS (textS p.2).2).1.toArray⟩ }, (textS (textS p.2).2).2)
def pDig (p : S × Sc) : S × Sc := (if (take 32 p.2).1 = [] then p.1 else { p.1 with dig := (take 32 p.2).1 }, (take 32 p.2).2)
def pThing (p : S × Sc) : S × Sc := ({ p.1 with typ := ⟨(textS p.2).1.toArray⟩, size := ((numS (textS p.2).2).1 : Int) }, (numS (textS p.2).2).2)
def pAt (p : S × Sc) : S × Sc := ({ p.1 with at_ := ((numS p.2).1 : Int) }, (numS p.2).2)
def parseF (f : F) (p : S × Sc) : S × Sc :=
  let p := if f.names then pNames p else p
  let p := if f.digest then pDig p else p
  let p := if f.thing then pThing p else p
  if f.at_ then pAt p else p
def first (l : List UInt8) : S × Sc := ({ S.none with k := ((nextB (some l)).1 : Int) }, (nextB (some l)).2)
def parsed (l : List UInt8) : S × Sc := parseF (flds (nextB (some l)).1) (first l)
def parse (l : List UInt8) : Option S := if (parsed l).2 = some [] ∧ good (parsed l).1 = true then some (parsed l).1 else none
def parseV (l : List UInt8) : Value := match parse l with
  | some x => .tuple #[.agg x.cells.toArray, .bool true]
  | none => .tuple #[.agg S.none.cells.toArray, .bool false]
theorem pDig_len (p : S × Sc) (h : p.1.dig.length = 32) : (pDig p).1.dig.length = 32 := by
  unfold pDig
  rcases take_len 32 p.2 with h1 | h1
  · simp only
    split
    · exact h
    · exact h1
  · rw [h1]; simpa using h
def known6 (f : F) : Prop := f = ⟨true, true, true, true⟩ ∨ f = ⟨true, false, false, true⟩ ∨ f = ⟨true, false, false, false⟩ ∨ f = ⟨false, true, true, false⟩ ∨ f = ⟨false, true, false, false⟩ ∨ f = ⟨false, false, false, false⟩
theorem flds_any (k : Int) : known6 (flds k) := by
  unfold flds known6
  by_cases h1 : k = 1
  · simp [h1]
  by_cases h2 : k = 2
  · simp [h2]
  by_cases h3 : k = 3
  · simp [h3]
  by_cases h4 : k = 4
  · simp [h4]
  by_cases h5 : k = 5
  · simp [h5]
  by_cases h6 : k = 6
  · simp [h6]
  simp [h1, h2, h3, h4, h5, h6]
end Slp
end Go.Proofs.YtbeghdoffiidoaaDoor

/- Fields' lists, media types and weights, plain. -/
import Derived.Test.YtglnefmaphajaaaDoorFieldP
import Derived.Test.YtglnefmaphajaaaDoorCut1
import Derived.Test.YtglnefmaphajaaaDoorFlds
import Derived.Test.YtglnefmaphajaaaDoorRealPlain
import Derived.Lib.SlTrimSet
set_option linter.unusedSimpArgs false
set_option linter.unusedVariables false
set_option linter.unusedSectionVars false
namespace Go.Proofs.YtglnefmaphajaaaDoor
open Go
namespace Tst
open Fld
def lowc (c : UInt8) : UInt8 := if 65 ≤ c.toNat ∧ c.toNat ≤ 90 then c + 32 else c
def lowL (l : List UInt8) : List UInt8 := l.map lowc
def trimL (l : List UInt8) : List UInt8 := Lib.trimS l [32, 9]
/-- cut at each separator that isn't in quotes -/
def cutG (s : UInt8) : Bool → List UInt8 → List UInt8 → List (List UInt8)
  | _, cur, [] => [trimL cur]
  | q, cur, b :: l => if b = 34 then cutG s (!q) (cur ++ [b]) l
    else if b = 92 ∧ q = true then (match l with
      | [] => [trimL (cur ++ [b])]
      | c :: l => cutG s q (cur ++ [b, c]) l)
    else if b = s ∧ q = false then trimL cur :: cutG s q [] l
    else cutG s q (cur ++ [b]) l
def cutP (s : UInt8) (l : List UInt8) : List (List UInt8) := cutG s false [] l
def named (name : List UInt8) (f : Fld) : Bool := lowL f.1.data.toList == lowL name
def elemsOf (f : Fld) : List (List UInt8) := (cutP 44 f.2.data.toList).filter fun x => !x.isEmpty
def elemsP (name : List UInt8) (fs : List Fld) : List (List UInt8) := (fs.filter (named name)).flatMap elemsOf
def unqG : List UInt8 → List UInt8 → List UInt8 × Bool
  | _, [] => ([], false)
  | out, b :: l => if b = 34 then (out, l.isEmpty)
    else if b = 92 then (match l with
      | [] => ([], false)
      | c :: l => unqG (out ++ [c]) l)
    else unqG (out ++ [b]) l
def unqP (l : List UInt8) : List UInt8 × Bool := if tokenP l = true then (l, true) else match l with
  | b :: c :: l => if b = 34 then unqG [] (c :: l) else ([], false)
  | _ => ([], false)
def paramP (l : List UInt8) : (List UInt8 × List UInt8) × Bool := if (Str.cut1 61 l).2.2 = true ∧ tokenP (Str.cut1 61 l).1 = true then ((lowL (Str.cut1 61 l).1, (unqP (Str.cut1 61 l).2.1).1), (unqP (Str.cut1 61 l).2.1).2) else (([], []), false)
def paramsG : List (List UInt8) → Option (List (List UInt8 × List UInt8))
  | [] => some []
  | x :: xs => if x = [] then paramsG xs else if (paramP x).2 = true then (paramsG xs).map ((paramP x).1 :: ·) else none
def headP (l : List UInt8) : List UInt8 := (cutP 59 l).headD []
def paramsP (l : List UInt8) : Option (List (List UInt8 × List UInt8)) := paramsG (cutP 59 l).tail
def ONE : Nat := 4607182418800017408
def weightP : List (List UInt8 × List UInt8) → Nat × Bool
  | [] => (ONE, true)
  | p :: ps => if p.1 = [113] then (if FloatP.isW p.2 = true then (FloatP.qv (FloatP.wn p.2) (FloatP.wk p.2), true) else (0, false)) else weightP ps
def splitT (l : List UInt8) : Option (List UInt8 × List UInt8) := if ((Str.cut1 47 (lowL l)).2.2 = true ∧ tokenP (Str.cut1 47 (lowL l)).1 = true) ∧ tokenP (Str.cut1 47 (lowL l)).2.1 = true ∧ l.length ≤ 100 then some ((Str.cut1 47 (lowL l)).1, (Str.cut1 47 (lowL l)).2.1) else none
def nearT (p k : List UInt8 × List UInt8) : Nat := if p.1 = [42] then (if p.2 = [42] then 1 else 0) else if p.2 = [42] then (if p.1 = k.1 then 2 else 0) else if p.1 = k.1 ∧ p.2 = k.2 then 3 else 0
def nearP (s kind : List UInt8) : Nat := match splitT s with
  | none => 0
  | some p => nearT p ((splitT kind).getD ([], []))
def stepQ (kind : List UInt8) (st : Nat × Nat) (x : List UInt8) : Nat × Nat := match paramsP x with
  | none => st
  | some ps => if ((weightP ps).2 = false ∨ nearP (headP x) kind = 0) ∨ nearP (headP x) kind < st.2 then st
    else (if st.2 < nearP (headP x) kind ∨ FloatP.less st.1 (weightP ps).1 = true then (weightP ps).1 else st.1, nearP (headP x) kind)
def acceptL : List UInt8 := [65, 99, 99, 101, 112, 116]
def qualP (fs : List Fld) (kind : List UInt8) : Nat := if (splitT kind).isSome = false then 0 else if (fs.filter (named acceptL)).length = 0 then ONE else ((elemsP acceptL fs).foldl (stepQ kind) (0, 0)).1
theorem lowc_up {c : UInt8} (h1 : 65 ≤ c.toNat) (h2 : c.toNat ≤ 90) : ((lowc c).toNat : Int) = (c.toNat : Int) + 32 := by
  unfold lowc
  rw [if_pos ⟨h1, h2⟩, UInt8.toNat_add]
  have : (32 : UInt8).toNat = 32 := rfl
  rw [this]; omega
theorem lowc_id {c : UInt8} (h : ¬ (65 ≤ c.toNat ∧ c.toNat ≤ 90)) : lowc c = c := if_neg h
theorem low_len (l : List UInt8) : (lowL l).length = l.length := List.length_map _
theorem trim_le (l : List UInt8) : (trimL l).length ≤ l.length := by
  unfold trimL Lib.trimS Lib.trimLeftS Lib.trimRightS
  refine Nat.le_trans (List.dropWhile_suffix _).length_le ?_
  rw [List.length_reverse]
  exact Nat.le_trans (List.dropWhile_suffix _).length_le (by rw [List.length_reverse]; exact Nat.le_refl _)
end Tst
end Go.Proofs.YtglnefmaphajaaaDoor

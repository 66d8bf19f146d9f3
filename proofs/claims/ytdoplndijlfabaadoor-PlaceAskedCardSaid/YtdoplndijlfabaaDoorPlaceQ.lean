/- Routes and targets, plain. -/
import Derived.Test.YtdoplndijlfabaaDoorPlaceP
import Derived.Test.YtdoplndijlfabaaDoorRoute
import Derived.Test.YtdoplndijlfabaaDoorStampParse
import Derived.Lib.LastIndexLaws
set_option linter.unusedSimpArgs false
set_option linter.unusedVariables false
set_option linter.unusedSectionVars false
namespace Go.Proofs.YtdoplndijlfabaaDoor
namespace Pl
open Rte
def rootL : List UInt8 := [47, 118, 50, 47]
def manL : List UInt8 := [109, 97, 110, 105, 102, 101, 115, 116, 115]
def blobL : List UInt8 := [98, 108, 111, 98, 115]
def goodP (r : S) : Bool := if r.k = 1 then r.same ⟨1, noStr, noStr, zeros⟩ else if r.k = 2 then repoP r.repo.data.toList && (tagP r.tag.data.toList && r.dig == zeros) else if r.k = 3 ∨ r.k = 4 then repoP r.repo.data.toList && decide (r.tag.size = 0) else false
def printL (r : S) : List UInt8 := if r.k = 1 then rootL else if r.k = 2 then rootL ++ r.repo.data.toList ++ [47] ++ manL ++ [47] ++ r.tag.data.toList else rootL ++ r.repo.data.toList ++ [47] ++ (if r.k = 4 then blobL else manL) ++ [47] ++ (Stp.pA ++ HexP.hex r.dig)
def printP (r : S) : List UInt8 × Int := if goodP r = true then (printL r, 0) else ([], 1)
/-- cut at the last slash -/
def cutL : List UInt8 → Option (List UInt8 × List UInt8)
  | [] => none
  | c :: l => match cutL l with
    | some (a, b) => some (c :: a, b)
    | none => if c = 47 then some ([], l) else none
theorem cutL_none : ∀ {l : List UInt8}, cutL l = none ↔ 47 ∉ l
  | [] => by simp [cutL]
  | c :: l => by
    unfold cutL
    cases h : cutL l with
    | some p =>
      have : ¬ (47 ∉ l) := fun hn => by rw [cutL_none.2 hn] at h; cases h
      simp only [List.mem_cons, reduceCtorEq, false_iff]
      intro hn
      exact this fun hm => hn (.inr hm)
    | none =>
      have := cutL_none.1 h
      by_cases hc : c = 47
      · subst hc; simp
      · simp only [hc, if_false, List.mem_cons, true_iff]
        rintro (h | h)
        · exact hc h.symm
        · exact this h
theorem cutL_some : ∀ {l a b : List UInt8}, cutL l = some (a, b) ↔ l = a ++ 47 :: b ∧ 47 ∉ b
  | [], a, b => by simp [cutL]
  | c :: l, a, b => by
    unfold cutL
    cases h : cutL l with
    | some p =>
      obtain ⟨x, y⟩ := p
      obtain ⟨e, hn⟩ := cutL_some.1 h
      simp only [Option.some.injEq, Prod.mk.injEq]
      constructor
      · rintro ⟨rfl, rfl⟩
        exact ⟨by rw [e]; rfl, hn⟩
      · rintro ⟨e2, hn2⟩
        cases a with
        | nil =>
          exfalso
          rw [List.nil_append] at e2
          injection e2 with _ e2
          apply hn2
          rw [← e2, e]; simp
        | cons d a =>
          rw [List.cons_append] at e2
          injection e2 with e3 e2
          subst e3
          have := cutL_some.2 ⟨e2, hn2⟩
          rw [h] at this
          injection this with this
          injection this with e4 e5
          subst e4 e5
          exact ⟨rfl, rfl⟩
    | none =>
      have hm := cutL_none.1 h
      by_cases hc : c = 47
      · subst hc
        simp only [if_true, Option.some.injEq, Prod.mk.injEq]
        constructor
        · rintro ⟨rfl, rfl⟩; exact ⟨rfl, hm⟩
        · rintro ⟨e2, hn2⟩
          cases a with
          | nil =>
            rw [List.nil_append] at e2
            injection e2 with _ e2
            exact ⟨rfl, e2⟩
          | cons d a =>
            rw [List.cons_append] at e2
            injection e2 with e3 e2
            exact absurd (by rw [e2]; simp) hm
      · simp only [hc, if_false, reduceCtorEq, false_iff]
        rintro ⟨e2, _⟩
        cases a with
        | nil => rw [List.nil_append] at e2; injection e2 with e3 _; exact hc e3
        | cons d a =>
          rw [List.cons_append] at e2
          injection e2 with e3 e2
          exact absurd (by rw [e2]; simp) hm
def referP (repo : ByteArray) (word ref : List UInt8) : S × Int :=
  if word = manL ∧ Pre.has Stp.pA ref = false then (if tagP ref = true then (⟨2, repo, ⟨ref.toArray⟩, zeros⟩, 0) else (S.none, 3)) else match Stp.beh Stp.pA ref with
    | some d => (⟨if word = blobL then 4 else 3, repo, noStr, d⟩, 0)
    | none => (S.none, 3)
def parseP (t : List UInt8) : S × Int :=
  if Pre.has rootL t = false then (S.none, 7) else if t.drop 4 = [] then (⟨1, noStr, noStr, zeros⟩, 0) else match cutL (t.drop 4) with
    | none => (S.none, 7)
    | some (x, ref) => match cutL x with
      | none => (S.none, 7)
      | some (repo, word) => if word ≠ manL ∧ word ≠ blobL then (S.none, 7) else if repoP repo = false then (S.none, 10) else referP ⟨repo.toArray⟩ word ref
theorem referP_dig (repo : ByteArray) (word ref : List UInt8) : (referP repo word ref).1.dig.length = 32 := by
  unfold referP
  split
  · split
    · exact zeros_len
    · exact none_dig
  · split
    · rename_i d h; exact Stp.beh_len h
    · exact none_dig
theorem parseP_dig (t : List UInt8) : (parseP t).1.dig.length = 32 := by
  unfold parseP
  split
  · exact none_dig
  · split
    · exact zeros_len
    · split
      · exact none_dig
      · split
        · exact none_dig
        · split
          · exact none_dig
          · split
            · exact none_dig
            · exact referP_dig _ _ _
/-- the program's last index is where the cut is -/
theorem last_cut (l : List UInt8) : (Lib.lastIndex l [47] = -1 ∧ cutL l = none) ∨ (∃ k : Nat, k < l.length ∧ Lib.lastIndex l [47] = (k : Int) ∧ cutL l = some (l.take k, l.drop (k + 1))) := by
  have hocc : ∀ j, Lib.occAt l [47] j = true ↔ l[j]? = some 47 := by
    intro j
    unfold Lib.occAt
    rw [← List.head?_drop]
    cases l.drop j with
    | nil => simp
    | cons c r =>
      show ((47 : UInt8) == c && true) = true ↔ some c = some 47
      simp only [Bool.and_true, beq_iff_eq, Option.some.injEq]
      exact eq_comm
  unfold Lib.lastIndex
  by_cases hl : [(47 : UInt8)].length ≤ l.length
  · rw [if_pos hl]
    have hlen : l.length - [(47 : UInt8)].length + 1 = l.length := by simp at hl ⊢; omega
    rw [hlen]
    rcases Lib.lastOcc_spec l [47] l.length with ⟨e, hn⟩ | ⟨i, hi, e, hc, hn⟩
    · refine .inl ⟨e, cutL_none.2 fun hm => ?_⟩
      obtain ⟨j, hj, hje⟩ := List.getElem_of_mem hm
      have := hn j hj
      rw [Bool.eq_false_iff] at this
      exact this ((hocc j).2 (by rw [List.getElem?_eq_getElem hj, hje]))
    · refine .inr ⟨i, hi, e, cutL_some.2 ⟨?_, fun hm => ?_⟩⟩
      · have h1 := (hocc i).1 hc
        rw [List.getElem?_eq_getElem hi] at h1
        injection h1 with h1
        rw [← h1, ← List.drop_eq_getElem_cons hi, List.take_append_drop]
      · obtain ⟨j, hj, hje⟩ := List.getElem_of_mem hm
        rw [List.getElem_drop] at hje
        rw [List.length_drop] at hj
        have := hn (i + 1 + j) (by omega) (by omega)
        rw [Bool.eq_false_iff] at this
        exact this ((hocc _).2 (by rw [List.getElem?_eq_getElem (by omega), hje]))
  · rw [if_neg hl]
    cases l with
    | nil => exact .inl ⟨rfl, rfl⟩
    | cons c r => exact absurd (by simp) hl
end Pl
end Go.Proofs.YtdoplndijlfabaaDoor

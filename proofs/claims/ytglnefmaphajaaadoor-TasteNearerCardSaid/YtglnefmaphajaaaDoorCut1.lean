/- Cut at a byte, plain. -/
import Derived.Lib.Bytealg
set_option linter.unusedSimpArgs false
set_option linter.unusedVariables false
set_option linter.unusedSectionVars false
namespace Go.Proofs.YtglnefmaphajaaaDoor
open Go
namespace Str
/-- cut at the first c -/
def cut1 (c : UInt8) : List UInt8 → List UInt8 × List UInt8 × Bool
  | [] => ([], [], false)
  | b :: l => if b = c then ([], l, true) else (b :: (cut1 c l).1, (cut1 c l).2)
theorem cut1_cases (c : UInt8) : ∀ l : List UInt8, (∃ a b, cut1 c l = (a, b, true) ∧ Lib.indexByte l c = (a.length : Int) ∧ l = a ++ c :: b ∧ c ∉ a) ∨ (cut1 c l = (l, [], false) ∧ Lib.indexByte l c = -1 ∧ c ∉ l)
  | [] => .inr ⟨rfl, rfl, List.not_mem_nil⟩
  | x :: l => by
    unfold cut1 Lib.indexByte
    by_cases h : x = c
    · subst h
      exact .inl ⟨[], l, by simp, by simp, rfl, List.not_mem_nil⟩
    · rw [if_neg h, if_neg (by rw [beq_iff_eq]; exact h)]
      rcases cut1_cases c l with ⟨a, b, e1, e2, e3, e4⟩ | ⟨e1, e2, e3⟩
      · refine .inl ⟨x :: a, b, by rw [e1], ?_, by rw [List.cons_append, ← e3], ?_⟩
        · rw [e2, if_neg (by rw [beq_iff_eq]; omega), List.length_cons]; omega
        · rw [List.mem_cons]; rintro (e | e)
          · exact h e.symm
          · exact e4 e
      · refine .inr ⟨by rw [e1], by rw [e2]; rfl, ?_⟩
        rw [List.mem_cons]; rintro (e | e)
        · exact h e.symm
        · exact e3 e
theorem cut1_at {c : UInt8} {a b : List UInt8} (h : c ∉ a) : cut1 c (a ++ c :: b) = (a, b, true) := by
  induction a with
  | nil => rw [List.nil_append, cut1, if_pos rfl]
  | cons x a ih =>
    rw [List.mem_cons, not_or] at h
    rw [List.cons_append, cut1, if_neg (fun e => h.1 e.symm), ih h.2]
theorem cut1_none {c : UInt8} {l : List UInt8} (h : c ∉ l) : cut1 c l = (l, [], false) := by
  rcases cut1_cases c l with ⟨a, b, e1, e2, e3, e4⟩ | ⟨e1, e2, e3⟩
  · exact absurd (by rw [e3]; simp) h
  · exact e1
end Str
end Go.Proofs.YtglnefmaphajaaaDoor

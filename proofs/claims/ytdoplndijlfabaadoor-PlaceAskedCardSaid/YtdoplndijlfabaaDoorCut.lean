/- strings.Cut at a separator of one byte. -/
import Derived.Test.YtdoplndijlfabaaDoorStrW
import Derived.Test.YtdoplndijlfabaaDoorStrIdx1
set_option linter.unusedSimpArgs false
set_option linter.unusedVariables false
set_option linter.unusedSectionVars false
namespace Go.Proofs.YtdoplndijlfabaaDoor
open Go.RowKit
namespace Str
/-- cut at the first c -/
def cut1 (c : UInt8) : List UInt8 → List UInt8 × List UInt8 × Bool
  | [] => ([], [], false)
  | b :: l => if b = c then ([], l, true) else (b :: (cut1 c l).1, (cut1 c l).2)
theorem cut1_cases (c : UInt8) : ∀ l : List UInt8, (∃ a b, cut1 c l = (a, b, true) ∧ Lib.indexByte l c = (a.length : Int) ∧ l = a ++ c :: b ∧ c ∉ a) ∨ (cut1 c l = (l, [], false) ∧ Lib.indexByte l c = -1 ∧ c ∉ l)
  | [] => .inr ⟨rfl, rfl, List.not_mem_nil⟩
  | x :: l => by
    unfold cut1 Lib.indexByte
    by_cases h : x = c
    · subst h
      exact .inl ⟨[], l, by simp, by simp, rfl, List.not_mem_nil⟩
    · rw [if_neg h, if_neg (by rw [beq_iff_eq]; exact h)]
      rcases cut1_cases c l with ⟨a, b, e1, e2, e3, e4⟩ | ⟨e1, e2, e3⟩
      · refine .inl ⟨x :: a, b, by rw [e1], ?_, by rw [List.cons_append, ← e3], ?_⟩
        · rw [e2, if_neg (by rw [beq_iff_eq]; omega), List.length_cons]; omega
        · rw [List.mem_cons]; rintro (e | e)
          · exact h e.symm
          · exact e4 e
      · refine .inr ⟨by rw [e1], by rw [e2]; rfl, ?_⟩
        rw [List.mem_cons]; rintro (e | e)
        · exact h e.symm
        · exact e3 e
theorem cut1_at {c : UInt8} {a b : List UInt8} (h : c ∉ a) : cut1 c (a ++ c :: b) = (a, b, true) := by
  induction a with
  | nil => rw [List.nil_append, cut1, if_pos rfl]
  | cons x a ih =>
    rw [List.mem_cons, not_or] at h
    rw [List.cons_append, cut1, if_neg (fun e => h.1 e.symm), ih h.2]
theorem cut1_none {c : UInt8} {l : List UInt8} (h : c ∉ l) : cut1 c l = (l, [], false) := by
  rcases cut1_cases c l with ⟨a, b, e1, e2, e3, e4⟩ | ⟨e1, e2, e3⟩
  · exact absurd (by rw [e3]; simp) h
  · exact e1
def cutV (c : UInt8) (l : List UInt8) : Value := .tuple #[.string ⟨(cut1 c l).1.toArray⟩, .string ⟨(cut1 c l).2.1.toArray⟩, .bool (cut1 c l).2.2]
set_option maxHeartbeats 2000000 in
theorem cut_lite (s : ByteArray) (c : UInt8) (w : World) (hs : s.size ≤ 274877906944) :
    Calls Tryd.prog 46 #[.string s, .string ⟨#[c]⟩] w fun e w' => e = .returned (cutV c s.data.toList) ∧ Reg.Ext w w' := by
  have HI := Lib.hid (Go.Proofs.Any.stringslite_Index_one Go.Proofs.Tryd.lays219 s c w)
  go_enter Tryd.func46, Tryd.ntmps46
  go_wp2_with fail
  rcases cut1_cases c s.data.toList with ⟨a, b, e1, e2, e3, e4⟩ | ⟨e1, e2, e3⟩
  · have hal : a.length < s.size := by rw [← len_data, e3, List.length_append, List.length_cons]; omega
    have hv : cutV c s.data.toList = .tuple #[.string (s.extract 0 a.length), .string (s.extract (a.length + 1) s.size), .bool true] := by
      unfold cutV
      rw [e1]
      have x1 : s.extract 0 a.length = ⟨a.toArray⟩ := ba_ext (by rw [ext_to, e3]; simp)
      have x2 : s.extract (a.length + 1) s.size = ⟨b.toArray⟩ := ba_ext (by rw [ext_from, e3]; simp)
      rw [x1, x2]
    have HV := Lib.hid hv
    have hi := HI.out
    rw [e2] at hi
    have HJ := Lib.hid hi
    generalize a.length = n at *
    clear hv e1 e2 e3 e4 hi HI
    refine HJ.out.mono ?_
    rintro e w' ⟨rfl, rfl⟩
    go_wp2_with fail
    go_quiet (fail)
    go_wp2_with fail
    go_ret3
    exact ⟨by rw [HV.out]; rfl, Reg.Ext.drewN w' nq⟩
  · have HV := Lib.hid (show cutV c s.data.toList = .tuple #[.string s, .string ⟨#[]⟩, .bool false] by unfold cutV; rw [e1, ba_data])
    have hi := HI.out
    rw [e2] at hi
    have HJ := Lib.hid hi
    clear e1 e2 e3 hi HI
    refine HJ.out.mono ?_
    rintro e w' ⟨rfl, rfl⟩
    go_wp2_with fail
    go_ret3
    exact ⟨by rw [HV.out]; rfl, Reg.Ext.refl _⟩
theorem cut_any (s : ByteArray) (c : UInt8) (w : World) (hs : s.size ≤ 274877906944) :
    Calls Tryd.prog 31 #[.string s, .string ⟨#[c]⟩] w fun e w' => e = .returned (cutV c s.data.toList) ∧ Reg.Ext w w' := by
  have HC := Lib.hid (cut_lite s c w hs)
  go_enter Tryd.func31, Tryd.ntmps31
  go_wp2_with fail
  refine HC.out.mono ?_
  rintro e w' ⟨rfl, x1⟩
  have HX := Lib.hid x1
  clear x1
  unfold cutV
  go_wp2_with fail
  go_ret3
  exact ⟨rfl, HX.out⟩
end Str
end Go.Proofs.YtdoplndijlfabaaDoor

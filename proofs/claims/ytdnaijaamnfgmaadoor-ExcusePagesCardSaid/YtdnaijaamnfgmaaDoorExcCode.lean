/- Package excuse: unknown, Code; the document's Code. -/
import Derived.Test.YtdnaijaamnfgmaaDoorExcOf
set_option linter.unusedSimpArgs false
set_option linter.unusedVariables false
set_option linter.unusedSectionVars false
namespace Go.Proofs.YtdnaijaamnfgmaaDoor
open Go.RowKit
namespace Exc
open ExcP HexP
def unkL (r : Int) : List UInt8 := if r = 2 ∨ r = 3 then [77, 65, 78, 73, 70, 69, 83, 84, 95, 85, 78, 75, 78, 79, 87, 78] else if r = 4 then [66, 76, 79, 66, 95, 85, 78, 75, 78, 79, 87, 78] else [78, 65, 77, 69, 95, 85, 78, 75, 78, 79, 87, 78]
def codeL (n r : Int) : List UInt8 := if n = 400 then [78, 65, 77, 69, 95, 73, 78, 86, 65, 76, 73, 68] else if n = 404 then unkL r else if n = 405 then [85, 78, 83, 85, 80, 80, 79, 82, 84, 69, 68] else if n = 406 then [77, 65, 78, 73, 70, 69, 83, 84, 95, 73, 78, 86, 65, 76, 73, 68] else if n = 413 ∨ n = 431 then [83, 73, 90, 69, 95, 73, 78, 86, 65, 76, 73, 68] else if n = 416 then [82, 65, 78, 71, 69, 95, 73, 78, 86, 65, 76, 73, 68] else if n = 503 then [84, 79, 79, 77, 65, 78, 89, 82, 69, 81, 85, 69, 83, 84, 83] else [85, 78, 75, 78, 79, 87, 78]
theorem unkL_cases (r : Int) : (r = 2 ∧ unkL r = [77, 65, 78, 73, 70, 69, 83, 84, 95, 85, 78, 75, 78, 79, 87, 78]) ∨ (r = 3 ∧ unkL r = [77, 65, 78, 73, 70, 69, 83, 84, 95, 85, 78, 75, 78, 79, 87, 78]) ∨ (r = 4 ∧ unkL r = [66, 76, 79, 66, 95, 85, 78, 75, 78, 79, 87, 78]) ∨ ((r == 2) = false ∧ (r == 3) = false ∧ (r == 4) = false ∧ unkL r = [78, 65, 77, 69, 95, 85, 78, 75, 78, 79, 87, 78]) := by
  unfold unkL
  by_cases h1 : r = 2
  · exact .inl ⟨h1, if_pos (.inl h1)⟩
  by_cases h2 : r = 3
  · exact .inr (.inl ⟨h2, if_pos (.inr h2)⟩)
  by_cases h3 : r = 4
  · exact .inr (.inr (.inl ⟨h3, by rw [if_neg (by omega), if_pos h3]⟩))
  exact .inr (.inr (.inr ⟨by simpa using h1, by simpa using h2, by simpa using h3, by rw [if_neg (by omega), if_neg h3]⟩))
set_option maxHeartbeats 2000000 in
theorem unknown_any (r : Int) (w : World) : Calls Tryd.prog 28 #[.int .i64 r] w fun e w' => e = .returned (.string ⟨(unkL r).toArray⟩) ∧ w = w' := by
  go_enter Tryd.func28, Tryd.ntmps28
  rcases unkL_cases r with ⟨rfl, h⟩ | ⟨rfl, h⟩ | ⟨rfl, h⟩ | ⟨h1, h2, h3, h⟩
  all_goals
    have HV := Lib.hid h
    clear h
    go_wp2
    go_ret
    exact ⟨by rw [HV.out]; rfl, rfl⟩
theorem codeL_cases (n r : Int) : (n = 400 ∧ codeL n r = [78, 65, 77, 69, 95, 73, 78, 86, 65, 76, 73, 68]) ∨ (n = 405 ∧ codeL n r = [85, 78, 83, 85, 80, 80, 79, 82, 84, 69, 68]) ∨ (n = 406 ∧ codeL n r = [77, 65, 78, 73, 70, 69, 83, 84, 95, 73, 78, 86, 65, 76, 73, 68]) ∨ (n = 413 ∧ codeL n r = [83, 73, 90, 69, 95, 73, 78, 86, 65, 76, 73, 68]) ∨ (n = 431 ∧ codeL n r = [83, 73, 90, 69, 95, 73, 78, 86, 65, 76, 73, 68]) ∨
    (n = 416 ∧ codeL n r = [82, 65, 78, 71, 69, 95, 73, 78, 86, 65, 76, 73, 68]) ∨ (n = 503 ∧ codeL n r = [84, 79, 79, 77, 65, 78, 89, 82, 69, 81, 85, 69, 83, 84, 83]) ∨ (n = 404 ∧ codeL n r = unkL r) ∨
    (((n == 400) = false ∧ (n == 404) = false ∧ (n == 405) = false ∧ (n == 406) = false) ∧ ((n == 413) = false ∧ (n == 431) = false ∧ (n == 416) = false ∧ (n == 503) = false) ∧ codeL n r = [85, 78, 75, 78, 79, 87, 78]) := by
  unfold codeL
  by_cases h1 : n = 400
  · exact .inl ⟨h1, if_pos h1⟩
  by_cases h2 : n = 405
  · exact .inr (.inl ⟨h2, by rw [if_neg h1, if_neg (by omega), if_pos h2]⟩)
  by_cases h3 : n = 406
  · exact .inr (.inr (.inl ⟨h3, by rw [if_neg h1, if_neg (by omega), if_neg h2, if_pos h3]⟩))
  by_cases h4 : n = 413
  · exact .inr (.inr (.inr (.inl ⟨h4, by rw [if_neg h1, if_neg (by omega), if_neg h2, if_neg h3, if_pos (.inl h4)]⟩)))
  by_cases h5 : n = 431
  · exact .inr (.inr (.inr (.inr (.inl ⟨h5, by rw [if_neg h1, if_neg (by omega), if_neg h2, if_neg h3, if_pos (.inr h5)]⟩))))
  by_cases h6 : n = 416
  · exact .inr (.inr (.inr (.inr (.inr (.inl ⟨h6, by rw [if_neg h1, if_neg (by omega), if_neg h2, if_neg h3, if_neg (by omega), if_pos h6]⟩)))))
  by_cases h7 : n = 503
  · exact .inr (.inr (.inr (.inr (.inr (.inr (.inl ⟨h7, by rw [if_neg h1, if_neg (by omega), if_neg h2, if_neg h3, if_neg (by omega), if_neg h6, if_pos h7]⟩))))))
  by_cases h8 : n = 404
  · exact .inr (.inr (.inr (.inr (.inr (.inr (.inr (.inl ⟨h8, by rw [if_neg h1, if_pos h8]⟩)))))))
  exact .inr (.inr (.inr (.inr (.inr (.inr (.inr (.inr ⟨⟨by simpa using h1, by simpa using h8, by simpa using h2, by simpa using h3⟩, ⟨by simpa using h4, by simpa using h5, by simpa using h6, by simpa using h7⟩, by rw [if_neg h1, if_neg h8, if_neg h2, if_neg h3, if_neg (by omega), if_neg h6, if_neg h7]⟩)))))))
set_option maxHeartbeats 4000000 in
theorem code_any (n r : Int) (w : World) : Calls Tryd.prog 17 #[.int .i64 n, .int .i64 r] w fun e w' => e = .returned (.string ⟨(codeL n r).toArray⟩) ∧ w = w' := by
  go_enter Tryd.func17, Tryd.ntmps17
  rcases codeL_cases n r with ⟨rfl, h⟩ | ⟨rfl, h⟩ | ⟨rfl, h⟩ | ⟨rfl, h⟩ | ⟨rfl, h⟩ | ⟨rfl, h⟩ | ⟨rfl, h⟩ | ⟨rfl, h⟩ | ⟨⟨h1, h2, h3, h4⟩, ⟨h5, h6, h7, h8⟩, h⟩
  case inr.inr.inr.inr.inr.inr.inr.inl =>
    have HV := Lib.hid h
    clear h
    go_wp2_with fail
    refine (unknown_any r w).mono ?_
    rintro e w' ⟨rfl, rfl⟩
    go_wp2_with fail
    go_ret
    exact ⟨by rw [HV.out]; rfl, rfl⟩
  all_goals
    have HV := Lib.hid h
    clear h
    go_wp2
    go_ret
    exact ⟨by rw [HV.out]; rfl, rfl⟩
set_option maxHeartbeats 4000000 in
theorem codeR_any (n r : Int) (w : World) : Calls Tryd.prog 18 #[.int .i64 n, .int .i64 r] w fun e w' => e = .returned (.string ⟨(codeL n r).toArray⟩) ∧ w = w' := by
  go_enter Tryd.func18, Tryd.ntmps18
  rcases codeL_cases n r with ⟨rfl, h⟩ | ⟨rfl, h⟩ | ⟨rfl, h⟩ | ⟨rfl, h⟩ | ⟨rfl, h⟩ | ⟨rfl, h⟩ | ⟨rfl, h⟩ | ⟨rfl, h⟩ | ⟨⟨h1, h2, h3, h4⟩, ⟨h5, h6, h7, h8⟩, h⟩
  case inr.inr.inr.inr.inr.inr.inr.inl =>
    rcases unkL_cases r with ⟨rfl, k⟩ | ⟨rfl, k⟩ | ⟨rfl, k⟩ | ⟨h1, h2, h3, k⟩
    all_goals
      have HV := Lib.hid (h.trans k)
      clear h k
      go_wp2
      go_ret
      exact ⟨by rw [HV.out]; rfl, rfl⟩
  all_goals
    have HV := Lib.hid h
    clear h
    go_wp2
    go_ret
    exact ⟨by rw [HV.out]; rfl, rfl⟩
end Exc
end Go.Proofs.YtdnaijaamnfgmaaDoor

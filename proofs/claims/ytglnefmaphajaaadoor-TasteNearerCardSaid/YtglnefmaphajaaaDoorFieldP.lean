/- Fields, plain: tokens and texts. -/
import Derived.Test.YtglnefmaphajaaaDoorWords
set_option linter.unusedSimpArgs false
set_option linter.unusedVariables false
set_option linter.unusedSectionVars false
namespace Go.Proofs.YtglnefmaphajaaaDoor
open Go
namespace Fld
theorem lst (l : List UInt8) : (⟨l.toArray⟩ : ByteArray).data.toList = l := by simp
theorem siz (l : List UInt8) : (⟨l.toArray⟩ : ByteArray).size = l.length := by rw [← len_data, lst]
theorem test_lit (s : ByteArray) (l : List UInt8) : (s.toList == l) = decide (s.data.toList = l) := by
  rw [ByteArray.toList_eq, Bool.eq_iff_iff, beq_iff_eq, decide_eq_true_iff]
def marksL : List UInt8 := [33, 35, 36, 37, 38, 39, 42, 43, 45, 46, 94, 95, 96, 124, 126]
def tchar (c : UInt8) : Bool := (97 ≤ c.toNat && c.toNat ≤ 122) || (65 ≤ c.toNat && c.toNat ≤ 90) || (48 ≤ c.toNat && c.toNat ≤ 57) || marksL.contains c
def tokenP (l : List UInt8) : Bool := l.all tchar && !l.isEmpty
def textc (c : UInt8) : Bool := !((c.toNat < 32 && c != 9) || c == 127)
def textP (l : List UInt8) : Bool := l.all textc
def targc (c : UInt8) : Bool := 33 ≤ c.toNat && c.toNat ≤ 126
def targP (l : List UInt8) : Bool := l.all targc && !l.isEmpty
theorem tchar_dec (c : UInt8) : tchar c = (((decide ((97 : Int) ≤ (c.toNat : Int)) && decide ((c.toNat : Int) ≤ 122)) || (decide ((65 : Int) ≤ (c.toNat : Int)) && decide ((c.toNat : Int) ≤ 90)) || (decide ((48 : Int) ≤ (c.toNat : Int)) && decide ((c.toNat : Int) ≤ 57))) || marksL.contains c) := by
  unfold tchar
  have h1 : decide ((97 : Int) ≤ (c.toNat : Int)) = decide (97 ≤ c.toNat) := decide_eq_decide.2 (by omega)
  have h2 : decide ((c.toNat : Int) ≤ 122) = decide (c.toNat ≤ 122) := decide_eq_decide.2 (by omega)
  have h3 : decide ((48 : Int) ≤ (c.toNat : Int)) = decide (48 ≤ c.toNat) := decide_eq_decide.2 (by omega)
  have h4 : decide ((c.toNat : Int) ≤ 57) = decide (c.toNat ≤ 57) := decide_eq_decide.2 (by omega)
  have h5 : decide ((65 : Int) ≤ (c.toNat : Int)) = decide (65 ≤ c.toNat) := decide_eq_decide.2 (by omega)
  have h6 : decide ((c.toNat : Int) ≤ 90) = decide (c.toNat ≤ 90) := decide_eq_decide.2 (by omega)
  rw [h1, h2, h3, h4, h5, h6]
theorem zones (n : Int) (h0 : 0 ≤ n) : n < 48 ∨ (48 ≤ n ∧ n ≤ 57) ∨ (57 < n ∧ n < 65) ∨ (65 ≤ n ∧ n ≤ 90) ∨ (90 < n ∧ n < 97) ∨ (97 ≤ n ∧ n ≤ 122) ∨ 122 < n := by omega
end Fld
end Go.Proofs.YtglnefmaphajaaaDoor

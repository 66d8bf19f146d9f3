/- Numbers of bytes, the highest byte first; what a scan takes, as plain Lean. -/
import Derived.Test.YtbeghdoffiidoaaDoorSlipWrite
import Derived.Laws.BitsAllLaws
set_option linter.unusedSimpArgs false
set_option linter.unusedVariables false
set_option linter.unusedSectionVars false
namespace Go.Proofs.YtbeghdoffiidoaaDoor
open Go.RowKit
namespace Slp
def fromB (m : List UInt8) : Nat := m.foldl (fun n c => n * 256 + c.toNat) 0
theorem fromB_snoc (m : List UInt8) (c : UInt8) : fromB (m ++ [c]) = fromB m * 256 + c.toNat := by simp [fromB]
theorem fromB_lt (m : List UInt8) : fromB m < 256 ^ m.length := by
  suffices ∀ r : List UInt8, fromB r.reverse < 256 ^ r.length by simpa using this m.reverse
  intro r
  induction r with
  | nil => exact Nat.one_pos
  | cons c r ih =>
    rw [List.reverse_cons, fromB_snoc, List.length_cons, Nat.pow_succ]
    have := c.toNat_lt
    omega
theorem or_low (n c : Nat) (hn : n < 72057594037927936) (hc : c < 256) : Go.bits .or .u64 ((n : Int) * 256) (c : Int) = (n : Int) * 256 + (c : Int) := by
  have h := u64_or_nat (n * 256) c (by omega) (by omega)
  have e : n * 256 ||| c = n * 256 + c := by
    have := Nat.shiftLeft_add_eq_or_of_lt (show c < 2 ^ 8 by omega) n
    rw [Nat.shiftLeft_eq, show (2 : Nat) ^ 8 = 256 from rfl] at this
    exact this.symm
  rw [e] at h
  simpa using h
/-- what is still to be read; none: the body is bad -/
abbrev Sc := Option (List UInt8)
def take (n : Nat) : Sc → List UInt8 × Sc
  | none => ([], none)
  | some l => if n ≤ l.length then (l.take n, some (l.drop n)) else ([], none)
def nextB (s : Sc) : Nat × Sc := ((take 1 s).1.headD 0 |>.toNat, (take 1 s).2)
def textS (s : Sc) : List UInt8 × Sc := take (nextB s).1 (nextB s).2
def numS (s : Sc) : Nat × Sc := if fromB (take 8 s).1 ≤ 1099511627776 then (fromB (take 8 s).1, (take 8 s).2) else (0, none)
theorem take_none (n : Nat) : take n none = ([], none) := rfl
theorem take_ok {n : Nat} {l : List UInt8} (h : n ≤ l.length) : take n (some l) = (l.take n, some (l.drop n)) := by simp [take, h]
theorem take_no {n : Nat} {l : List UInt8} (h : ¬ n ≤ l.length) : take n (some l) = ([], none) := by simp [take, h]
theorem take_len (n : Nat) (s : Sc) : (take n s).1.length = n ∨ (take n s).1 = [] := by
  cases s with
  | none => right; rfl
  | some l => by_cases h : n ≤ l.length
              · left; rw [take_ok h]; simp; omega
              · right; rw [take_no h]
theorem nextB_lt (s : Sc) : (nextB s).1 < 256 := UInt8.toNat_lt _
end Slp
end Go.Proofs.YtbeghdoffiidoaaDoor

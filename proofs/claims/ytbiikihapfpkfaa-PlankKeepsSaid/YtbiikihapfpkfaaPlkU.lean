/- PlankKeeps: one file, plainly. -/
import Derived.Test.YtbiikihapfpkfaaPlkT
set_option linter.unusedSimpArgs false
set_option linter.unusedVariables false
set_option linter.unusedSectionVars false
namespace Go.Proofs.Ytbiikihapfpkfaa
open Go Go.RowKit
namespace Plk
/-- the disk's one file -/
def one (l : List UInt8) (k : Nat) : List F := [⟨[102], l, k⟩]
theorem get_one (l : List UInt8) (k : Nat) : Nmd.get F.name [102] (one l k) = some ⟨[102], l, k⟩ := rfl
theorem find_one {p : P} {l : List UInt8} {k : Nat} (h : p.fs = one l k) : ((p.find [102]).2.2 = some ⟨[102], l, k⟩ ∧ (p.find [102]).1 = 0) ∨ ((p.find [102]).2.2 = none ∧ (p.find [102]).1 ≠ 0) := by
  unfold P.find
  by_cases he : (p.h.begin [[102]]).1 ≠ 0
  · rw [if_pos he]; exact .inr ⟨rfl, he⟩
  · rw [if_neg he, h]; exact .inl ⟨rfl, rfl⟩
theorem ops_find (p : P) (n : List UInt8) : (p.find n).2.1.ops ≤ p.h.ops + 1 := by
  rw [pfind_keep]; exact (begin_keep p.h [n]).2.2.2
theorem append_one {p : P} {l : List UInt8} {k : Nat} (h : p.fs = one l k) (t : List UInt8) :
    (((p.append [102] t).1 = 0 ∧ (p.append [102] t).2.fs = one (l ++ t) k) ∨ ((p.append [102] t).1 ≠ 0 ∧ (p.append [102] t).2.fs = one l k)) ∧ (p.append [102] t).2.h.ops ≤ p.h.ops + 1 := by
  have ho := ops_find p [102]
  unfold P.append
  rcases find_one h with ⟨h1, h2⟩ | ⟨h1, h2⟩
  · rw [h1]
    dsimp only
    by_cases hr : p.h.room - p.h.used < t.length
    · rw [if_pos hr]; exact ⟨.inr ⟨(show (6 : Int) ≠ 0 by decide), h⟩, ho⟩
    · rw [if_neg hr, h]; exact ⟨.inl ⟨rfl, rfl⟩, ho⟩
  · rw [h1]; exact ⟨.inr ⟨h2, h⟩, ho⟩
theorem sync_one {p : P} {l : List UInt8} {k : Nat} (h : p.fs = one l k) :
    (((p.sync [102]).1 = 0 ∧ (p.sync [102]).2.fs = one l l.length) ∨ ((p.sync [102]).1 ≠ 0 ∧ (p.sync [102]).2.fs = one l k)) ∧ (p.sync [102]).2.h.ops ≤ p.h.ops + 1 := by
  have ho := ops_find p [102]
  unfold P.sync
  rcases find_one h with ⟨h1, h2⟩ | ⟨h1, h2⟩
  · rw [h1, h]; exact ⟨.inl ⟨rfl, rfl⟩, ho⟩
  · rw [h1]; exact ⟨.inr ⟨h2, h⟩, ho⟩
theorem on_one {p : P} {l : List UInt8} {k : Nat} (h : p.fs = one l k) (hk : k ≤ l.length) (x : Int) : ∃ m, k ≤ m ∧ m ≤ l.length ∧ ((offP p).on [x]).fs = one (l.take m) m ∧ ((offP p).on [x]).h.off = false ∧ ((offP p).on [x]).h.ak = 0 ∧ ((offP p).on [x]).h.ops = p.h.ops := by
  have e : (offP p).on [x] = ⟨onL p.fs [x], { (offP p).h with off := false, used := (sum (onL p.fs [x]) : Int) }⟩ := rfl
  rw [e, h]
  unfold one onL
  by_cases hs : k = l.length
  · refine ⟨l.length, hk, Nat.le_refl _, ?_, rfl, rfl, rfl⟩
    rw [if_pos hs, List.take_length, ← hs]; rfl
  · refine ⟨keptN ⟨[102], l, k⟩ (max x 0).toNat, by unfold keptN; dsimp only; omega, keptN_le _ _ hk, ?_, rfl, rfl, rfl⟩
    rw [if_neg hs]; rfl
theorem read_one {p : P} {l : List UInt8} {k : Nat} (h : p.fs = one l k) (ho : p.h.off = false) (ha : p.h.ak = 0) (n : Nat) (hn : l.length ≤ n) : (p.read [102] 0 n).1 = l ∧ (p.read [102] 0 n).2.1 = 0 := by
  have hb : (p.h.begin [[102]]).1 = 0 := by
    unfold H.begin
    rw [if_neg (by decide), ho, if_neg Bool.false_ne_true, if_pos (.inl ha)]
  have hf : (p.find [102]).2.2 = some ⟨[102], l, k⟩ := by
    rcases find_one h with ⟨h1, _⟩ | ⟨_, h2⟩
    · exact h1
    · exfalso
      apply h2
      unfold P.find
      rw [if_neg (fun e => e hb), h]; rfl
  unfold P.read
  rw [if_neg (by omega), hf]
  dsimp only
  rw [if_neg (by omega)]
  refine ⟨?_, rfl⟩
  unfold rd
  rw [Int.toNat_natCast, Int.toNat_zero, Nat.sub_zero, Nat.min_eq_right hn]
  simp
end Plk
end Go.Proofs.Ytbiikihapfpkfaa

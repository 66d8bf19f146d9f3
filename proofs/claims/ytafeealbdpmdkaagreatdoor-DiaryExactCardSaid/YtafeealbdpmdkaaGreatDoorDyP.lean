/- The log's disk, plainly: one file, or two. -/
import Derived.Test.YtafeealbdpmdkaaGreatDoorDyY
set_option linter.unusedSimpArgs false
set_option linter.unusedVariables false
set_option linter.unusedSectionVars false
-- squeezed
namespace Go.Proofs.YtafeealbdpmdkaaGreatDoor
open Go Go.RowKit
namespace Plk
def H.tick (s : H) : H := { s with ops := s.ops + 1 }
def H.more (s : H) (n : Int) : H := { s with used := s.used + n }
/-- the next operation goes well -/
def Free (s : H) : Prop := s.off = false ∧ (s.ak = 0 ∨ s.ops + 1 < s.af ∨ s.al < s.ops + 1)
def d1 (l : List UInt8) (k : Nat) : List F := [⟨nD, l, k⟩]
def d2 (l : List UInt8) (k : Nat) (m : List UInt8) (j : Nat) : List F := [⟨nD, l, k⟩, ⟨nN, m, j⟩]
theorem nameD : isName nD = true := by decide
theorem nameN : isName nN = true := by decide
theorem begin_free {s : H} (h : Free s) {ns : List (List UInt8)} (hn : ∀ n ∈ ns, isName n = true) : s.begin ns = (0, s.tick) := by
 obtain ⟨room, used, ops, off, ak, af, al⟩ := s
 obtain ⟨h1, h2⟩ := h
 dsimp only at h1 h2
 subst h1
 unfold H.begin
 rw [if_neg (by simp; exact hn), if_neg Bool.false_ne_true, if_pos h2]
 rfl
theorem ns1 {n : List UInt8} (h : isName n = true) : ∀ m ∈ [n], isName m = true := fun m hm => by rw [List.mem_singleton.1 hm]; exact h
theorem nsR : ∀ m ∈ [nN, nD], isName m = true := fun m hm => by
 rcases List.mem_cons.1 hm with rfl | hm
 ·exact nameN
 ·exact ns1 nameD m hm
section
variable {s : H} (h : Free s) (l m t : List UInt8) (k j : Nat)
include h
theorem find_d1 : (P.find ⟨d1 l k, s⟩ nD) = (0, s.tick, some ⟨nD, l, k⟩) := by
 unfold P.find
 rw [begin_free h (ns1 nameD)]; rfl
theorem find_d2 : (P.find ⟨d2 l k m j, s⟩ nN) = (0, s.tick, some ⟨nN, m, j⟩) := by
 unfold P.find
 rw [begin_free h (ns1 nameN)]; rfl
theorem sync_d1 : P.sync ⟨d1 l k, s⟩ nD = (0, ⟨d1 l l.length, s.tick⟩) := by unfold P.sync; rw [find_d1 h]; rfl
theorem sync_d2 : P.sync ⟨d2 l k m j, s⟩ nN = (0, ⟨d2 l k m m.length, s.tick⟩) := by unfold P.sync; rw [find_d2 h]; rfl
theorem append_d1 (hr : (t.length : Int) ≤ s.room - s.used) : P.append ⟨d1 l k, s⟩ nD t = (0, ⟨d1 (l ++ t) k, s.tick.more t.length⟩) := by
 unfold P.append; rw [find_d1 h]; dsimp only; rw [if_neg (by omega)]; rfl
theorem append_d2 (hr : (t.length : Int) ≤ s.room - s.used) : P.append ⟨d2 l k m j, s⟩ nN t = (0, ⟨d2 l k (m ++ t) j, s.tick.more t.length⟩) := by
 unfold P.append; rw [find_d2 h]; dsimp only; rw [if_neg (by omega)]; rfl
theorem create_d1 : P.create ⟨d1 l k, s⟩ nN = (0, ⟨d2 l k [] 0, s.tick⟩) := by
 unfold P.create; rw [begin_free h (ns1 nameN)]; rfl
theorem create_d0 : P.create ⟨[], s⟩ nD = (0, ⟨d1 [] 0, s.tick⟩) := by
 unfold P.create; rw [begin_free h (ns1 nameD)]; rfl
theorem rename_d2 : P.rename ⟨d2 l k m j, s⟩ nN nD = (0, ⟨d1 m j, s.tick.more (-(l.length : Int))⟩) := by
 unfold P.rename; rw [begin_free h nsR]; rfl
theorem read_d1 : P.read ⟨d1 l k, s⟩ nD 0 l.length = (l, 0, ⟨d1 l k, s.tick⟩) := by
 unfold P.read; rw [find_d1 h, if_neg (by omega)]; dsimp only; rw [if_neg (by omega)]
 unfold rd
 rw [Int.toNat_natCast, Int.toNat_zero, Nat.sub_zero, Nat.min_self]
 simp
end
end Plk
end Go.Proofs.YtafeealbdpmdkaaGreatDoor

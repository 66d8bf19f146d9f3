/- Words and small lemmas of my own: bytes, strings, blocks. No program in sight. -/
import Derived.WalkKit
import Derived.WalkSpells
import Derived.WalkLawsBesides
import Derived.Laws.BytesArg
import Derived.Lib.Hide
set_option linter.unusedSimpArgs false
set_option linter.unusedVariables false
set_option linter.unusedSectionVars false
-- squeezed
namespace Go.Proofs.YtafeealbdpmdkaaGreatDoor
open Go Go.RowKit

def byteV (c : UInt8) : Value := .int .u8 (c.toNat : Int)

theorem strOfNums_map (l : List UInt8) : strOfNums (l.map fun c => (c.toNat : Int)) = ⟨l.toArray⟩ := by
 unfold strOfNums
 congr 1
 rw [List.map_map]
 have : l.map ((fun n : Int => UInt8.ofNat n.toNat) ∘ fun c : UInt8 => (c.toNat : Int)) = l := by
  conv => rhs; rw [← List.map_id l]
  apply List.map_congr_left
  intro c _
  simp
 rw [this]

theorem conv_bytes {P : Program} (w : World) (src dst e : TypeId) (hs : P.underlying src = some (.slice e)) (he : P.underlying e = some (.int .u8)) (hd : P.underlying dst = some .string)
  (b off len cap : Nat) (l : List UInt8) (hl : l.length = len) (hc : ∀ j (h : j < l.length), w.cell? ⟨b, off + j, none⟩ = some (byteV l[j])) :
  (convert src dst (.slice (some ⟨b, off, none⟩) len cap)).run P w = .ok (.string ⟨l.toArray⟩) w := by
 have := run_convert_bytes_arg (P := P) w src e hs he b off len cap (l.map fun c => (c.toNat : Int)) (by simpa using hl) (fun i hi => by
  have h : i < l.length := by omega
  rw [hc i h]
  simp [List.getD, h, byteV]) dst hd
 rw [strOfNums_map] at this
 exact this

theorem ba_data (s : ByteArray) : (⟨s.data.toList.toArray⟩ : ByteArray) = s := by cases s; simp
theorem ba_ext {s t : ByteArray} (h : s.data.toList = t.data.toList) : s = t := by
 rw [← ba_data s, ← ba_data t, h]

/-- a slice reads as a list of one-cell values; nil let in -/
def Rd (w : World) (A : Option Addr) (xs : List Value) : Prop :=
 ∀ k (h : k < xs.length), ∃ ad, A = some ad ∧ ad.block < w.heap.size ∧ w.cell? (ad.add k) = some xs[k]
theorem Rd.nil_ (w : World) (A : Option Addr) : Rd w A [] := fun k h => by simp at h
theorem Rd.below {w w' : World} {A : Option Addr} {xs : List Value} (h : Rd w A xs) (hb : Below w.heap.size w w') : Rd w' A xs := fun k hk => by
 obtain ⟨ad, e, hlt, hc⟩ := h k hk
 refine ⟨ad, e, Nat.lt_of_lt_of_le hlt hb.size, ?_⟩
 have : (ad.add k).block < w.heap.size := by unfold Addr.add; split <;> simpa using hlt
 rw [hb.cell this]; exact hc
/-- a row just made -/
theorem Rd.made {w : World} {b : Nat} {cs : Array Value} {t : TypeId} {fr : Nat × Nat} (h : w.heap[b]? = some (.cells cs t fr)) : Rd w (some ⟨b, 0, none⟩) cs.toList := fun k hk => by
 refine ⟨⟨b, 0, none⟩, rfl, ?_, ?_⟩
 ·rcases Nat.lt_or_ge b w.heap.size with hlt | hge
  ·exact hlt
  ·rw [Array.getElem?_eq_none hge] at h; cases h
 ·have e : (⟨b, 0, none⟩ : Addr).add k = ⟨b, k, none⟩ := by unfold Addr.add; split <;> simp_all
  rw [e]
  have hk' : k < cs.size := by simpa using hk
  simp [World.cell?, h, hk']
theorem Rd.new (w : World) (t : TypeId) (cs : Array Value) : Rd (w.alloc (.cells cs t)) (some ⟨w.heap.size, 0, none⟩) cs.toList := Rd.made (fr := (0, 0)) (t := t) (heap_alloc_new w _)
def strV (s : ByteArray) : Value := .string s

theorem len_data (s : ByteArray) : s.data.toList.length = s.size := by rw [Array.length_toList]; rfl
theorem ext_data (s : ByteArray) (a b : Nat) : (s.extract a b).data.toList = (s.data.toList.drop a).take (b - a) := by
 have h : s = ⟨s.data.toList.toArray⟩ := (ba_data s).symm
 conv => lhs; rw [h]
 rw [ByteArray.extract_mk]
theorem ext_to (s : ByteArray) (b : Nat) : (s.extract 0 b).data.toList = s.data.toList.take b := by rw [ext_data]; simp
theorem ext_from (s : ByteArray) (a : Nat) : (s.extract a s.size).data.toList = s.data.toList.drop a := by
 rw [ext_data, List.take_of_length_le (by rw [List.length_drop, len_data]; exact Nat.le_refl _)]
theorem ret_int {k : IntKind} {a b : Int} (h : a = b) : Ending.returned (.int k a) = .returned (.int k b) := by rw [h]
theorem ext_le (s : ByteArray) (a b : Nat) {m : Nat} (h : s.size ≤ m) : (s.extract a b).size ≤ m := by
 rw [ByteArray.size_extract]; omega
theorem maxLen_of {n : Nat} (h : n ≤ 9223372036854775807) : n ≤ maxLen := h
theorem add_plain (p o k : Nat) : (⟨p, o, none⟩ : Addr).add k = ⟨p, o + k, none⟩ := by unfold Addr.add; split <;> simp_all
/-- the head of a row just made -/
theorem Rd.head {w : World} {b : Nat} {t : TypeId} {fr : Nat × Nat} (xs : List Value) (ys : Array Value) (h : w.heap[b]? = some (.cells (xs.toArray ++ ys) t fr)) : Rd w (some ⟨b, 0, none⟩) xs := fun k hk => by
 refine ⟨⟨b, 0, none⟩, rfl, (Array.getElem?_eq_some_iff.1 h).1, ?_⟩
 have e : (⟨b, 0, none⟩ : Addr).add k = ⟨b, k, none⟩ := by unfold Addr.add; split <;> simp_all
 rw [e]
 unfold World.cell?
 rw [h]
 simp [Array.getElem?_append, hk]
end Go.Proofs.YtafeealbdpmdkaaGreatDoor

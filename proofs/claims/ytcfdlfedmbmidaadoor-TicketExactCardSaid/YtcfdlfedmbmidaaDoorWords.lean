/- Words and small lemmas of my own: bytes, strings, blocks. No program in sight. -/
import Derived.WalkKit
import Derived.WalkSpells
import Derived.WalkLawsBesides
import Derived.Laws.BytesArg
import Derived.Lib.Hide
set_option linter.unusedSimpArgs false
set_option linter.unusedVariables false
set_option linter.unusedSectionVars false
namespace Go.Proofs.YtcfdlfedmbmidaaDoor
open Go Go.RowKit

def byteV (c : UInt8) : Value := .int .u8 (c.toNat : Int)

theorem strOfNums_map (l : List UInt8) : strOfNums (l.map fun c => (c.toNat : Int)) = ⟨l.toArray⟩ := by
  unfold strOfNums
  congr 1
  rw [List.map_map]
  have : l.map ((fun n : Int => UInt8.ofNat n.toNat) ∘ fun c : UInt8 => (c.toNat : Int)) = l := by
    conv => rhs; rw [← List.map_id l]
    apply List.map_congr_left
    intro c _
    simp
  rw [this]

theorem conv_bytes {P : Program} (w : World) (src dst e : TypeId) (hs : P.underlying src = some (.slice e)) (he : P.underlying e = some (.int .u8)) (hd : P.underlying dst = some .string)
    (b off len cap : Nat) (l : List UInt8) (hl : l.length = len) (hc : ∀ j (h : j < l.length), w.cell? ⟨b, off + j, none⟩ = some (byteV l[j])) :
    (convert src dst (.slice (some ⟨b, off, none⟩) len cap)).run P w = .ok (.string ⟨l.toArray⟩) w := by
  have := run_convert_bytes_arg (P := P) w src e hs he b off len cap (l.map fun c => (c.toNat : Int)) (by simpa using hl) (fun i hi => by
    have h : i < l.length := by omega
    rw [hc i h]
    simp [List.getD, h, byteV]) dst hd
  rw [strOfNums_map] at this
  exact this

theorem ba_data (s : ByteArray) : (⟨s.data.toList.toArray⟩ : ByteArray) = s := by cases s; simp
theorem ba_ext {s t : ByteArray} (h : s.data.toList = t.data.toList) : s = t := by
  rw [← ba_data s, ← ba_data t, h]

/-- a slice reads as a list of one-cell values; nil let in -/
def Rd (w : World) (A : Option Addr) (xs : List Value) : Prop :=
  ∀ k (h : k < xs.length), ∃ ad, A = some ad ∧ ad.block < w.heap.size ∧ w.cell? (ad.add k) = some xs[k]
theorem Rd.nil_ (w : World) (A : Option Addr) : Rd w A [] := fun k h => by simp at h
theorem Rd.below {w w' : World} {A : Option Addr} {xs : List Value} (h : Rd w A xs) (hb : Below w.heap.size w w') : Rd w' A xs := fun k hk => by
  obtain ⟨ad, e, hlt, hc⟩ := h k hk
  refine ⟨ad, e, Nat.lt_of_lt_of_le hlt hb.size, ?_⟩
  have : (ad.add k).block < w.heap.size := by unfold Addr.add; split <;> simpa using hlt
  rw [hb.cell this]; exact hc
/-- a row just made -/
theorem Rd.made {w : World} {b : Nat} {cs : Array Value} {t : TypeId} {fr : Nat × Nat} (h : w.heap[b]? = some (.cells cs t fr)) : Rd w (some ⟨b, 0, none⟩) cs.toList := fun k hk => by
  refine ⟨⟨b, 0, none⟩, rfl, ?_, ?_⟩
  · rcases Nat.lt_or_ge b w.heap.size with hlt | hge
    · exact hlt
    · rw [Array.getElem?_eq_none hge] at h; cases h
  · have e : (⟨b, 0, none⟩ : Addr).add k = ⟨b, k, none⟩ := by unfold Addr.add; split <;> simp_all
    rw [e]
    have hk' : k < cs.size := by simpa using hk
    simp [World.cell?, h, hk']
theorem Rd.new (w : World) (t : TypeId) (cs : Array Value) : Rd (w.alloc (.cells cs t)) (some ⟨w.heap.size, 0, none⟩) cs.toList := Rd.made (fr := (0, 0)) (t := t) (heap_alloc_new w _)
def strV (s : ByteArray) : Value := .string s

theorem len_data (s : ByteArray) : s.data.toList.length = s.size := by rw [Array.length_toList]; rfl
theorem ext_data (s : ByteArray) (a b : Nat) : (s.extract a b).data.toList = (s.data.toList.drop a).take (b - a) := by
  have h : s = ⟨s.data.toList.toArray⟩ := (ba_data s).symm
  conv => lhs; rw [h]
  rw [ByteArray.extract_mk]
theorem ext_to (s : ByteArray) (b : Nat) : (s.extract 0 b).data.toList = s.data.toList.take b := by rw [ext_data]; simp
theorem ext_from (s : ByteArray) (a : Nat) : (s.extract a s.size).data.toList = s.data.toList.drop a := by
  rw [ext_data, List.take_of_length_le (by rw [List.length_drop, len_data]; exact Nat.le_refl _)]
theorem ret_bool {a b : Bool} (h : a = b) : Ending.returned (.bool a) = .returned (.bool b) := by rw [h]
theorem ret_int {k : IntKind} {a b : Int} (h : a = b) : Ending.returned (.int k a) = .returned (.int k b) := by rw [h]
theorem ret_str {a b : ByteArray} (h : a = b) : Ending.returned (.string a) = .returned (.string b) := by rw [h]

/-- int(uint(at) % uint(n + 1)) -/
theorem umod (a : Int) (n : Nat) (hn : n < 9223372036854775807) : ∃ k : Nat, k ≤ n ∧ wrap64 ((IntKind.u64.wrap a).tmod ((n : Int) + 1)) = (k : Int) := by
  refine ⟨((IntKind.u64.wrap a).tmod ((n : Int) + 1)).toNat, ?_, ?_⟩
  · rw [IntKind.wrap_u64, tmod_of_emod]
    have h1 := Int.emod_lt_of_pos (a % 18446744073709551616) (show (0 : Int) < (n : Int) + 1 by omega)
    have h2 := Int.emod_nonneg (a % 18446744073709551616) (show (n : Int) + 1 ≠ 0 by omega)
    omega
  · rw [IntKind.wrap_u64, tmod_of_emod]
    have h1 := Int.emod_lt_of_pos (a % 18446744073709551616) (show (0 : Int) < (n : Int) + 1 by omega)
    have h2 := Int.emod_nonneg (a % 18446744073709551616) (show (n : Int) + 1 ≠ 0 by omega)
    rw [IntWalk.wrap64_in _ ⟨by omega, by omega⟩]
    omega
theorem ext_le (s : ByteArray) (a b : Nat) {m : Nat} (h : s.size ≤ m) : (s.extract a b).size ≤ m := by
  rw [ByteArray.size_extract]; omega
theorem maxLen_of {n : Nat} (h : n ≤ 9223372036854775807) : n ≤ maxLen := h
theorem add_plain (p o k : Nat) : (⟨p, o, none⟩ : Addr).add k = ⟨p, o + k, none⟩ := by unfold Addr.add; split <;> simp_all
/-- b[l:h] of an array behind a pointer, elements of one cell -/
theorem run_slice_arr {P : Program} (t n e : Nat) (ht : P.underlying t = some (.array n e)) (hs1 : (P.info? e).map (·.size) = some 1) (p o l h : Nat) (kl kh : IntKind) (hlh : l ≤ h) (hh : h ≤ n) (hln : l < n) (w : World) :
    (Instr.sliceAt t (.pointer (some ⟨p, o, none⟩)) (some (.int kl (l : Int))) (some (.int kh (h : Int))) none).run P w = .ok (.slice (some ⟨p, o + l, none⟩) (h - l) (n - l)) w := by
  obtain ⟨i, hi, hs⟩ := Option.map_eq_some_iff.1 hs1
  have ha : P.arrayLen t = n := by unfold Program.arrayLen; rw [ht]
  have he : P.elem t = e := by unfold Program.elem; rw [ht]
  have hz : ((sizeOf e).run P w) = .ok 1 w := by simp [sizeOf, typeInfo, hi, hs, go_sem]
  rw [run_sliceAt_array_lh w t ⟨p, o, none⟩ (by rw [ha, he]; exact ht) kl kh (l : Int) (h : Int) (by omega) (by omega) (by rw [ha]; omega), he, hz, ha]
  simp only [Result.andThen, slicedAt, Int.toNat_natCast]
  rw [if_neg (by omega), add_plain, Nat.mul_one]
theorem run_slice_arr_from {P : Program} (t n e : Nat) (ht : P.underlying t = some (.array n e)) (hs1 : (P.info? e).map (·.size) = some 1) (p o l : Nat) (kl : IntKind) (hln : l < n) (w : World) :
    (Instr.sliceAt t (.pointer (some ⟨p, o, none⟩)) (some (.int kl (l : Int))) none none).run P w = .ok (.slice (some ⟨p, o + l, none⟩) (n - l) (n - l)) w := by
  obtain ⟨i, hi, hs⟩ := Option.map_eq_some_iff.1 hs1
  have ha : P.arrayLen t = n := by unfold Program.arrayLen; rw [ht]
  have he : P.elem t = e := by unfold Program.elem; rw [ht]
  have hz : ((sizeOf e).run P w) = .ok 1 w := by simp [sizeOf, typeInfo, hi, hs, go_sem]
  rw [run_sliceAt_array_l w t ⟨p, o, none⟩ (by rw [ha, he]; exact ht) kl (l : Int) (by omega) (by rw [ha]; omega), he, hz, ha]
  simp only [Result.andThen, slicedAt, Int.toNat_natCast]
  rw [if_neg (by omega), add_plain, Nat.mul_one]
/-- the head of a row just made -/
theorem Rd.head {w : World} {b : Nat} {t : TypeId} {fr : Nat × Nat} (xs : List Value) (ys : Array Value) (h : w.heap[b]? = some (.cells (xs.toArray ++ ys) t fr)) : Rd w (some ⟨b, 0, none⟩) xs := fun k hk => by
  refine ⟨⟨b, 0, none⟩, rfl, (Array.getElem?_eq_some_iff.1 h).1, ?_⟩
  have e : (⟨b, 0, none⟩ : Addr).add k = ⟨b, k, none⟩ := by unfold Addr.add; split <;> simp_all
  rw [e]
  unfold World.cell?
  rw [h]
  simp [Array.getElem?_append, hk]
/-- the first byte of a text -/
theorem first_of (s : ByteArray) (h : 0 < s.size) : ∃ l, s.data.toList = s[0] :: l := by
  match hl : s.data.toList with
  | [] => have := len_data s; rw [hl] at this; simp at this; omega
  | c :: l =>
    refine ⟨l, ?_⟩
    have : s[0] = s.data.toList[0]'(by rw [len_data]; exact h) := rfl
    rw [this]
    simp [hl]
theorem empty_of (s : ByteArray) (h : s.size = 0) : s.data.toList = [] ∧ s.toList = [] ∧ s.toList.isEmpty = true := by
  have e : s.data.toList = [] := List.eq_nil_of_length_eq_zero (by rw [len_data]; exact h)
  exact ⟨e, by rw [ByteArray.toList_eq, e], by rw [ByteArray.toList_eq, e]; rfl⟩
theorem full_of (s : ByteArray) (h : 0 < s.size) : s.toList.isEmpty = false ∧ (s.toList == []) = false := by
  obtain ⟨l, hl⟩ := first_of s h
  exact ⟨by rw [ByteArray.toList_eq, hl]; rfl, by rw [ByteArray.toList_eq, hl]; rfl⟩
end Go.Proofs.YtcfdlfedmbmidaaDoor

/- A body that is written: page.text, page.number. -/
import Derived.Test.YtbeghdoffiidoaaDoorBld
import Derived.StillTailTactics
set_option linter.unusedSimpArgs false
set_option linter.unusedVariables false
set_option linter.unusedSectionVars false
namespace Go.Proofs.YtbeghdoffiidoaaDoor
open Go.RowKit
namespace Bld
theorem Is.byte {B b : Nat} {l : List UInt8} {w : World} (h : Is B b l w) (c : UInt8) (m : Int) (hm : m = (c.toNat : Int)) (hl : l.length + 1 ≤ 140737488355328) (hBw : B ≤ w.heap.size) :
    Calls Tryd.prog 19 #[.pointer (some ⟨b, 0, none⟩), .int .u8 m] w fun e w' => e = .returned .nilIface ∧ Is B b (l ++ [c]) w' ∧ Below B w w' := by
  subst hm
  refine (byte_any B b _ (c.toNat : Int) w h (by rw [List.length_map]; exact hl) hBw).mono ?_
  rintro e w' ⟨rfl, h1, h2⟩
  refine ⟨rfl, .inr ?_, h2⟩
  rw [List.map_append]
  exact h1
theorem strCells_map (s : ByteArray) : Lib.strCells s = s.data.toList.map byteV := rfl
theorem Is.str {B b : Nat} {l : List UInt8} {w : World} (h : Is B b l w) (s : ByteArray) (hl : l.length + s.size ≤ 140737488355328) (hBw : B ≤ w.heap.size) :
    Calls Tryd.prog 21 #[.pointer (some ⟨b, 0, none⟩), .string s] w fun e w' => e = .returned (.tuple #[.int .i64 s.size, .nilIface]) ∧ Is B b (l ++ s.data.toList) w' ∧ Below B w w' := by
  refine (string_any B b _ s w h (by rw [List.length_map]; exact hl) hBw).mono ?_
  rintro e w' ⟨rfl, h1, h2⟩
  refine ⟨rfl, .inr ?_, h2⟩
  rw [List.map_append, ← strCells_map]
  exact h1
theorem Is.out {B b : Nat} {l : List UInt8} {w : World} (h : Is B b l w) (h0 : l ≠ []) :
    Calls Tryd.prog 24 #[.pointer (some ⟨b, 0, none⟩)] w fun e w' => e = .returned (.string ⟨l.toArray⟩) ∧ Below B w w' := str_any B b l w h h0
def len1 (s : ByteArray) : UInt8 := UInt8.ofNat (s.size % 256)
theorem len1_nat (s : ByteArray) : (len1 s).toNat = s.size % 256 := UInt8.toNat_ofNat_of_lt' (by show _ < 256; omega)
def be (n i : Nat) : UInt8 := UInt8.ofNat (n / 256 ^ (7 - i) % 256)
def be8 (n : Nat) : List UInt8 := (List.range 8).map (be n)
set_option maxHeartbeats 2000000 in
theorem text_any (B b : Nat) (l : List UInt8) (s : ByteArray) (w : World) (h : Is B b l w) (hl : l.length + s.size + 1 ≤ 1099511627776) (hBw : B ≤ w.heap.size) :
    Calls Tryd.prog 20 #[.pointer (some ⟨b, 0, none⟩), .string s] w fun e w' => e = .returned (.tuple #[]) ∧ Is B b (l ++ len1 s :: s.data.toList) w' ∧ Below B w w' := by
  have H := Lib.hid h
  clear h
  go_enter Tryd.func20, Tryd.ntmps20
  go_wp2_with fail
  refine (H.out.byte (len1 s) _ (by rw [len1_nat]; omega) (by omega) hBw).mono ?_
  rintro e w1 ⟨rfl, h1, b1⟩
  have H1 := Lib.hid h1
  have B1 := Lib.hid b1
  have hB1 : B ≤ w1.heap.size := Nat.le_trans hBw b1.size
  clear h1 b1 H
  go_wp2_with fail
  refine (H1.out.str s (by simp; omega) hB1).mono ?_
  rintro e w2 ⟨rfl, h2, b2⟩
  have H2 := Lib.hid h2
  have B2 := Lib.hid (B1.out.trans b2)
  clear h2 b2 H1 B1
  go_wp2_with fail
  go_end0
  refine ⟨rfl, ?_, B2.out⟩
  have := H2.out
  rw [List.append_assoc] at this
  exact this
set_option maxHeartbeats 4000000 in
theorem number_any (B b : Nat) (l : List UInt8) (n : Nat) (w : World) (h : Is B b l w) (hn : n < 9223372036854775808) (hl : l.length ≤ 1099511627776) (hBw : B ≤ w.heap.size) :
    Calls Tryd.prog 22 #[.pointer (some ⟨b, 0, none⟩), .int .i64 (n : Int)] w fun e w' => e = .returned (.tuple #[]) ∧ Is B b (l ++ be8 n) w' ∧ Below B w w' := by
  have H : Hid (Is B b (l ++ (be8 n).take 0) w) := by
    show Is _ _ _ _
    rw [List.take_zero, List.append_nil]; exact h
  clear h
  go_enter Tryd.func22, Tryd.ntmps22
  go_wp2_with fail
  go_loopw [4] (fun i wr => ∃ k : Nat, k ≤ 8 ∧ i = .int .i64 (7 - (k : Int)) ∧ Hid (Is B b (l ++ (be8 n).take k) wr) ∧ Hid (Below B w wr)) (fun i _ => (intOf i + 1).toNat)
  case atStart => exact ⟨0, by omega, by simp, H, Below.refl _ _⟩
  case round =>
    obtain ⟨k, hk, hi, HB, HW⟩ := hrel
    clear H
    by_cases hk8 : k < 8
    · rcases (by omega : k = 0 ∨ k = 1 ∨ k = 2 ∨ k = 3 ∨ k = 4 ∨ k = 5 ∨ k = 6 ∨ k = 7) with rfl | rfl | rfl | rfl | rfl | rfl | rfl | rfl
      · have hi' := hi
        rw [show (7 - ((0 : Nat) : Int)) = 7 by decide] at hi'
        subst hi'
        have HE := Lib.hid (show (l ++ (be8 n).take 0) ++ [UInt8.ofNat (n / 72057594037927936 % 256)] = l ++ (be8 n).take (0 + 1) by rw [List.append_assoc]; rfl)
        have hlb : (l ++ (be8 n).take 0).length + 1 ≤ 140737488355328 := by rw [List.length_append, List.length_take]; omega
        generalize (l ++ (be8 n).take 0) = ll at *
        go_wp2_with fail
        have hwr : IntKind.i64.wrap 56 = 56 := by decide
        go_still_tail 8, (by kernel_rfl)
        change wpList _ _ _ _ _ wr.drew
        repeat go_step
        refine ((show Is B b ll wr.drew from HB.out).byte (UInt8.ofNat (n / 72057594037927936 % 256)) _ (by rw [UInt8.toNat_ofNat_of_lt' (by show _ < 256; omega)]; omega) hlb (Nat.le_trans hBw HW.out.size)).mono ?_
        rintro e w2 ⟨rfl, h2, b2⟩
        rw [HE.out] at h2
        have HB2 := Lib.hid h2
        have HW2 := Lib.hid ((HW.out.drew).trans b2)
        clear h2 b2 HB HE
        go_wp2_with fail
        exact ⟨⟨0 + 1, by omega, by simp, HB2, HW2⟩, by simp [intOf]⟩
      · have hi' := hi
        rw [show (7 - ((1 : Nat) : Int)) = 6 by decide] at hi'
        subst hi'
        have HE := Lib.hid (show (l ++ (be8 n).take 1) ++ [UInt8.ofNat (n / 281474976710656 % 256)] = l ++ (be8 n).take (1 + 1) by rw [List.append_assoc]; rfl)
        have hlb : (l ++ (be8 n).take 1).length + 1 ≤ 140737488355328 := by rw [List.length_append, List.length_take]; omega
        generalize (l ++ (be8 n).take 1) = ll at *
        go_wp2_with fail
        have hwr : IntKind.i64.wrap 48 = 48 := by decide
        go_still_tail 8, (by kernel_rfl)
        change wpList _ _ _ _ _ wr.drew
        repeat go_step
        refine ((show Is B b ll wr.drew from HB.out).byte (UInt8.ofNat (n / 281474976710656 % 256)) _ (by rw [UInt8.toNat_ofNat_of_lt' (by show _ < 256; omega)]; omega) hlb (Nat.le_trans hBw HW.out.size)).mono ?_
        rintro e w2 ⟨rfl, h2, b2⟩
        rw [HE.out] at h2
        have HB2 := Lib.hid h2
        have HW2 := Lib.hid ((HW.out.drew).trans b2)
        clear h2 b2 HB HE
        go_wp2_with fail
        exact ⟨⟨1 + 1, by omega, by simp, HB2, HW2⟩, by simp [intOf]⟩
      · have hi' := hi
        rw [show (7 - ((2 : Nat) : Int)) = 5 by decide] at hi'
        subst hi'
        have HE := Lib.hid (show (l ++ (be8 n).take 2) ++ [UInt8.ofNat (n / 1099511627776 % 256)] = l ++ (be8 n).take (2 + 1) by rw [List.append_assoc]; rfl)
        have hlb : (l ++ (be8 n).take 2).length + 1 ≤ 140737488355328 := by rw [List.length_append, List.length_take]; omega
        generalize (l ++ (be8 n).take 2) = ll at *
        go_wp2_with fail
        have hwr : IntKind.i64.wrap 40 = 40 := by decide
        go_still_tail 8, (by kernel_rfl)
        change wpList _ _ _ _ _ wr.drew
        repeat go_step
        refine ((show Is B b ll wr.drew from HB.out).byte (UInt8.ofNat (n / 1099511627776 % 256)) _ (by rw [UInt8.toNat_ofNat_of_lt' (by show _ < 256; omega)]; omega) hlb (Nat.le_trans hBw HW.out.size)).mono ?_
        rintro e w2 ⟨rfl, h2, b2⟩
        rw [HE.out] at h2
        have HB2 := Lib.hid h2
        have HW2 := Lib.hid ((HW.out.drew).trans b2)
        clear h2 b2 HB HE
        go_wp2_with fail
        exact ⟨⟨2 + 1, by omega, by simp, HB2, HW2⟩, by simp [intOf]⟩
      · have hi' := hi
        rw [show (7 - ((3 : Nat) : Int)) = 4 by decide] at hi'
        subst hi'
        have HE := Lib.hid (show (l ++ (be8 n).take 3) ++ [UInt8.ofNat (n / 4294967296 % 256)] = l ++ (be8 n).take (3 + 1) by rw [List.append_assoc]; rfl)
        have hlb : (l ++ (be8 n).take 3).length + 1 ≤ 140737488355328 := by rw [List.length_append, List.length_take]; omega
        generalize (l ++ (be8 n).take 3) = ll at *
        go_wp2_with fail
        have hwr : IntKind.i64.wrap 32 = 32 := by decide
        go_still_tail 8, (by kernel_rfl)
        change wpList _ _ _ _ _ wr.drew
        repeat go_step
        refine ((show Is B b ll wr.drew from HB.out).byte (UInt8.ofNat (n / 4294967296 % 256)) _ (by rw [UInt8.toNat_ofNat_of_lt' (by show _ < 256; omega)]; omega) hlb (Nat.le_trans hBw HW.out.size)).mono ?_
        rintro e w2 ⟨rfl, h2, b2⟩
        rw [HE.out] at h2
        have HB2 := Lib.hid h2
        have HW2 := Lib.hid ((HW.out.drew).trans b2)
        clear h2 b2 HB HE
        go_wp2_with fail
        exact ⟨⟨3 + 1, by omega, by simp, HB2, HW2⟩, by simp [intOf]⟩
      · have hi' := hi
        rw [show (7 - ((4 : Nat) : Int)) = 3 by decide] at hi'
        subst hi'
        have HE := Lib.hid (show (l ++ (be8 n).take 4) ++ [UInt8.ofNat (n / 16777216 % 256)] = l ++ (be8 n).take (4 + 1) by rw [List.append_assoc]; rfl)
        have hlb : (l ++ (be8 n).take 4).length + 1 ≤ 140737488355328 := by rw [List.length_append, List.length_take]; omega
        generalize (l ++ (be8 n).take 4) = ll at *
        go_wp2_with fail
        have hwr : IntKind.i64.wrap 24 = 24 := by decide
        go_still_tail 8, (by kernel_rfl)
        change wpList _ _ _ _ _ wr.drew
        repeat go_step
        refine ((show Is B b ll wr.drew from HB.out).byte (UInt8.ofNat (n / 16777216 % 256)) _ (by rw [UInt8.toNat_ofNat_of_lt' (by show _ < 256; omega)]; omega) hlb (Nat.le_trans hBw HW.out.size)).mono ?_
        rintro e w2 ⟨rfl, h2, b2⟩
        rw [HE.out] at h2
        have HB2 := Lib.hid h2
        have HW2 := Lib.hid ((HW.out.drew).trans b2)
        clear h2 b2 HB HE
        go_wp2_with fail
        exact ⟨⟨4 + 1, by omega, by simp, HB2, HW2⟩, by simp [intOf]⟩
      · have hi' := hi
        rw [show (7 - ((5 : Nat) : Int)) = 2 by decide] at hi'
        subst hi'
        have HE := Lib.hid (show (l ++ (be8 n).take 5) ++ [UInt8.ofNat (n / 65536 % 256)] = l ++ (be8 n).take (5 + 1) by rw [List.append_assoc]; rfl)
        have hlb : (l ++ (be8 n).take 5).length + 1 ≤ 140737488355328 := by rw [List.length_append, List.length_take]; omega
        generalize (l ++ (be8 n).take 5) = ll at *
        go_wp2_with fail
        have hwr : IntKind.i64.wrap 16 = 16 := by decide
        go_still_tail 8, (by kernel_rfl)
        change wpList _ _ _ _ _ wr.drew
        repeat go_step
        refine ((show Is B b ll wr.drew from HB.out).byte (UInt8.ofNat (n / 65536 % 256)) _ (by rw [UInt8.toNat_ofNat_of_lt' (by show _ < 256; omega)]; omega) hlb (Nat.le_trans hBw HW.out.size)).mono ?_
        rintro e w2 ⟨rfl, h2, b2⟩
        rw [HE.out] at h2
        have HB2 := Lib.hid h2
        have HW2 := Lib.hid ((HW.out.drew).trans b2)
        clear h2 b2 HB HE
        go_wp2_with fail
        exact ⟨⟨5 + 1, by omega, by simp, HB2, HW2⟩, by simp [intOf]⟩
      · have hi' := hi
        rw [show (7 - ((6 : Nat) : Int)) = 1 by decide] at hi'
        subst hi'
        have HE := Lib.hid (show (l ++ (be8 n).take 6) ++ [UInt8.ofNat (n / 256 % 256)] = l ++ (be8 n).take (6 + 1) by rw [List.append_assoc]; rfl)
        have hlb : (l ++ (be8 n).take 6).length + 1 ≤ 140737488355328 := by rw [List.length_append, List.length_take]; omega
        generalize (l ++ (be8 n).take 6) = ll at *
        go_wp2_with fail
        have hwr : IntKind.i64.wrap 8 = 8 := by decide
        go_still_tail 8, (by kernel_rfl)
        change wpList _ _ _ _ _ wr.drew
        repeat go_step
        refine ((show Is B b ll wr.drew from HB.out).byte (UInt8.ofNat (n / 256 % 256)) _ (by rw [UInt8.toNat_ofNat_of_lt' (by show _ < 256; omega)]; omega) hlb (Nat.le_trans hBw HW.out.size)).mono ?_
        rintro e w2 ⟨rfl, h2, b2⟩
        rw [HE.out] at h2
        have HB2 := Lib.hid h2
        have HW2 := Lib.hid ((HW.out.drew).trans b2)
        clear h2 b2 HB HE
        go_wp2_with fail
        exact ⟨⟨6 + 1, by omega, by simp, HB2, HW2⟩, by simp [intOf]⟩
      · have hi' := hi
        rw [show (7 - ((7 : Nat) : Int)) = 0 by decide] at hi'
        subst hi'
        have HE := Lib.hid (show (l ++ (be8 n).take 7) ++ [UInt8.ofNat (n / 1 % 256)] = l ++ (be8 n).take (7 + 1) by rw [List.append_assoc]; rfl)
        have hlb : (l ++ (be8 n).take 7).length + 1 ≤ 140737488355328 := by rw [List.length_append, List.length_take]; omega
        generalize (l ++ (be8 n).take 7) = ll at *
        go_wp2_with fail
        have hwr : IntKind.i64.wrap 0 = 0 := by decide
        go_still_tail 8, (by kernel_rfl)
        change wpList _ _ _ _ _ wr.drew
        repeat go_step
        refine ((show Is B b ll wr.drew from HB.out).byte (UInt8.ofNat (n / 1 % 256)) _ (by rw [UInt8.toNat_ofNat_of_lt' (by show _ < 256; omega)]; omega) hlb (Nat.le_trans hBw HW.out.size)).mono ?_
        rintro e w2 ⟨rfl, h2, b2⟩
        rw [HE.out] at h2
        have HB2 := Lib.hid h2
        have HW2 := Lib.hid ((HW.out.drew).trans b2)
        clear h2 b2 HB HE
        go_wp2_with fail
        exact ⟨⟨7 + 1, by omega, by simp, HB2, HW2⟩, by simp [intOf]⟩
    · have hk' : k = 8 := by omega
      subst hk'
      have hi' := hi
      rw [show (7 - ((8 : Nat) : Int)) = -1 by decide] at hi'
      subst hi'
      have he : (be8 n).take 8 = be8 n := List.take_of_length_le (by simp [be8])
      have hb := HB.out
      rw [he] at hb
      have HN := Lib.hid hb
      clear hb HB he
      go_wp2_with fail
      go_end0
      exact ⟨rfl, HN.out, HW.out⟩
end Bld
end Go.Proofs.YtbeghdoffiidoaaDoor

/- Made by merge.py from: Bld SlipPage CrcPlain CrcWalks SlipFrame SlipWrite SlipNum SlipWrite2. -/
import Derived.Test.YtafeealbdpmdkaaGreatDoorRows
import Derived.Test.YtafeealbdpmdkaaGreatDoorReg
import Derived.Test.YtafeealbdpmdkaaGreatDoorWords
import Derived.Test.YtafeealbdpmdkaaGreatDoorBuf
import Derived.Lib.Builder
import Derived.Lib.AppendStr
import Derived.Lib.UnsafeStr
import Derived.WalkKit
import Derived.WalkSpells
import Derived.WalkLawsBesides
import Derived.Laws.Externs
import Derived.BigQuiet
import Derived.BigRegion
import Derived.Deep.DeepCutAuto
import Derived.Lib.Hide
import Derived.StillTailTactics
import Derived.Laws.BitsAllLaws
import Derived.Laws.ShiftsVar
import Derived.Test.YtafeealbdpmdkaaGreatDoorSpA
set_option linter.unusedSimpArgs false
set_option linter.unusedVariables false
set_option linter.unusedSectionVars false
set_option maxRecDepth 100000
/- strings.Builder, embedded as the first field of the struct slip.page: copyCheck, WriteByte, WriteString, String. -/
open Go.Act renaming put → z_1, eval → z_2
open List renaming setIfInBounds_toArray → z_3, set_cons_zero → z_4, set_cons_succ → z_5, getElem?_toArray → z_7, getElem?_cons_succ → z_8, getElem?_cons_zero → z_9
open Array renaming getD_eq_getD_getElem? → z_6
open Option renaming getD_some → z_0
open Go.Lib renaming hid → y_
open List renaming size_toArray → z_a
open Nat renaming reduceAdd → z_b
-- squeezed
namespace Go.Proofs.YtafeealbdpmdkaaGreatDoor
open Go.RowKit
namespace Bld
/-- a page that holds just these bytes, made since block B -/
def Is (B b : Nat) (l : List UInt8) (w : World) : Prop := Lib.IsBuilder 122 5 B b (l.map byteV) w
theorem sizeBuilder : (Tryz.prog.info? 120).map (·.size) = some 2 := by kernel_rfl
theorem lies : liesAt Tryz.prog Tryz.prog.depth 122 (2 / Tryz.prog.cellsOf 122) 0 120 1 = true := by kernel_rfl
theorem ne5 : 122 ≠ 5 := by decide
set_option maxHeartbeats 1000000 in
theorem copy_used (b : Nat) (w : World) (h0 : w.cell? ⟨b, 0, none⟩ = some (.pointer (some ⟨b, 0, none⟩))) :
  Calls Tryz.prog 94 #[.pointer (some ⟨b, 0, none⟩)] w fun e w' => e = .returned (.tuple #[]) ∧ w' = w := by
 obtain ⟨j, hj, _⟩ := Option.map_eq_some_iff.1 sizeBuilder
 go_enter Tryz.func94, Tryz.ntmps94
 go_wp2
 rw [Lib.run_neq_ptr_same w _ Tryz.underlying118 hj]
 go_wp2
 go_end0
 exact ⟨rfl, rfl⟩
set_option maxHeartbeats 1000000 in
theorem copy_fresh (b : Nat) (w : World) (h0 : w.cell? ⟨b, 0, none⟩ = some (.pointer none)) (hsh : w.shape? b = some (122, 2)) (hfz : w.frozen? ⟨b, 0, none⟩ = false) :
  Calls Tryz.prog 94 #[.pointer (some ⟨b, 0, none⟩)] w fun e w' => e = .returned (.tuple #[]) ∧ w' = w.setCell ⟨b, 0, none⟩ (.pointer (some ⟨b, 0, none⟩)) := by
 obtain ⟨j, hj, hjs⟩ := Option.map_eq_some_iff.1 sizeBuilder
 go_enter Tryz.func94, Tryz.ntmps94
 go_wp2
 rw [Lib.run_to_unsafe w ⟨b, 0, none⟩ Tryz.underlying118 Tryz.underlying156 hj (by rw [hjs]; decide) hsh (Nat.zero_lt_succ 1)]
 simp only [Result.andThen]
 rw [Oper.upon_value]
 go_wp2
 rw [run_callFunc_extern Tryz.func108 (by kernel_rfl) (by kernel_rfl) (by kernel_rfl) (e := Extern.AbiNoEscape.same) (by kernel_rfl)]
 rw [Lib.run_noEscape]
 simp only [Result.andThen]
 rw [Oper.upon_value]
 go_wp2
 rw [Lib.run_from_unsafe w ⟨b, 0, none⟩ Tryz.underlying156 Tryz.underlying118 hj hsh lies]
 simp only [Result.andThen]
 rw [Oper.upon_value]
 go_wp2
 go_end0
 exact ⟨rfl, rfl⟩
theorem copy_any (B b : Nat) (bs : List Value) (w : World) (h : Lib.IsBuilder 122 5 B b bs w) :
  Calls Tryz.prog 94 #[.pointer (some ⟨b, 0, none⟩)] w fun e w' => e = .returned (.tuple #[]) ∧ (Lib.BuilderAt 122 5 B b (.pointer (some ⟨b, 0, none⟩)) bs w' ∧ Below B w w') := by
 rcases h with h | h
 ·refine (copy_fresh b w h.cell0 h.shape h.frozen0).mono ?_
  rintro e w' ⟨rfl, rfl⟩
  exact ⟨rfl, h.used _, (Below.refl B w).setCell (p := ⟨b, 0, none⟩) h.1 _⟩
 ·refine (copy_used b w h.cell0).mono ?_
  rintro e w' ⟨rfl, rfl⟩
  exact ⟨rfl, h, Below.refl B _⟩
set_option maxHeartbeats 2000000 in
theorem byte_any (B b : Nat) (bs : List Value) (c : Int) (w : World) (h : Lib.IsBuilder 122 5 B b bs w) (hlen : bs.length + 1 ≤ 140737488355328) (hBw : B ≤ w.heap.size) :
  Calls Tryz.prog 71 #[.pointer (some ⟨b, 0, none⟩), .int .u8 c] w fun e w' => e = .returned .nilIface ∧ (Lib.BuilderAt 122 5 B b (.pointer (some ⟨b, 0, none⟩)) (bs ++ [.int .u8 c]) w' ∧ Below B w w') := by
 obtain ⟨i0, hi, hz0, hz1, hz2⟩ := byteInfo_of
 go_enter Tryz.func71, Tryz.ntmps71
 go_wp2_with fail
 refine (copy_any B b bs _ h).mono ?_
 rintro e w1 ⟨rfl, h1, hb1⟩
 obtain ⟨hB, v, hbk, hown, hne⟩ := h1
 have c0 : w1.cell? ⟨b, 0, none⟩ = some (.pointer (some ⟨b, 0, none⟩)) := by rw [Lib.cell_of_heap hbk]; rfl
 have c1 : w1.cell? ⟨b, 1, none⟩ = some v := by rw [Lib.cell_of_heap hbk]; rfl
 go_upto_region 2 with (fail)
 refine wp_region_lit ?_
 iterate 21 go_step
 refine wpList_append_own _ rfl _ _ 84 rfl B 5 i0 (.int .u8 0) 1 1 Tryz.underlying84 hi hz0 hz1 hz2 rfl (by decide) v bs.length bs rfl (hown.alloc _) ⟨w1.heap.size, 0, none⟩ 1 1 [.int .u8 c] rfl rfl ?c1 ?c2 ?c3 ?c4 ?c5 ?_
 case c1 =>
  intro j u hj
  match j, hj with
  | 0, hj => simp at hj; subst hj; simp [Addr.add]
 case c2 => intro u hu; simp at hu; subst hu; rfl
 case c3 => unfold maxLen; omega
 case c4 => omega
 case c5 => have := hb1.size; simp; omega
 intro v' w2 hown' hgrow _
 have hb2 : w2.heap[b]? = some (.cells #[.pointer (some ⟨b, 0, none⟩), v] 122 (0, 0)) := by
  have hlt : b < w1.heap.size := by
   rcases Nat.lt_or_ge b w1.heap.size with h' | h'
   ·exact h'
   ·simp [Array.getElem?_eq_none h'] at hbk
  rw [hgrow.block b (by simp; omega) (fun e => hne e.symm), Lib.alloc_old w1 _ b hlt]
  exact hbk
 have hlt : b < w1.heap.size := by
  rcases Nat.lt_or_ge b w1.heap.size with h' | h'
  ·exact h'
  ·simp [Array.getElem?_eq_none h'] at hbk
 have d0 : w2.cell? ⟨b, 0, none⟩ = some (.pointer (some ⟨b, 0, none⟩)) := by rw [Lib.cell_of_heap hb2]; rfl
 have d1 : w2.cell? ⟨b, 1, none⟩ = some v := by rw [Lib.cell_of_heap hb2]; rfl
 have f1 : w2.frozen? ⟨b, 1, none⟩ = false := Lib.frozen_of_heap hb2 1
 obtain ⟨g, cap, rfl⟩ : ∃ g cap, v' = .slice (some ⟨g, 0, none⟩) (bs.length + 1) cap := by
  rcases hown'.2 with ⟨_, h0⟩ | ⟨g, cap, cur, hv, _⟩
  ·omega
  ·exact ⟨g, cap, hv⟩
 simp only [z_1, z_2, z_3, z_4, z_5, z_b, z_6, z_7, z_8, z_9, z_0]
 go_wp2
 go_ret
 refine ⟨rfl, ?_, ?_⟩
 ·exact Lib.BuilderAt.put hB hb2 (bs' := bs ++ [.int .u8 c]) (by simpa using hown') ne5
 ·exact ((hb1.alloc (by have := hb1.size; omega) _).grown hgrow (by have := hb1.size; simp; omega) (fun k hk => (hown.lt k hk).1)).setCell (p := ⟨b, 1, none⟩) hB _
set_option maxHeartbeats 2000000 in
theorem string_any (B b : Nat) (bs : List Value) (s : ByteArray) (w : World) (h : Lib.IsBuilder 122 5 B b bs w) (hlen : bs.length + s.size ≤ 140737488355328) (hBw : B ≤ w.heap.size) :
  Calls Tryz.prog 73 #[.pointer (some ⟨b, 0, none⟩), .string s] w fun e w' => e = .returned (.tuple #[.int .i64 s.size, .nilIface]) ∧ (Lib.BuilderAt 122 5 B b (.pointer (some ⟨b, 0, none⟩)) (bs ++ Lib.strCells s) w' ∧ Below B w w') := by
 obtain ⟨i0, hi, hz0, hz1, hz2⟩ := byteInfo_of
 go_enter Tryz.func73, Tryz.ntmps73
 go_wp2_with fail
 refine (copy_any B b bs _ h).mono ?_
 rintro e w1 ⟨rfl, h1, hb1⟩
 obtain ⟨hB, v, hbk, hown, hne⟩ := h1
 have c0 : w1.cell? ⟨b, 0, none⟩ = some (.pointer (some ⟨b, 0, none⟩)) := by rw [Lib.cell_of_heap hbk]; rfl
 have c1 : w1.cell? ⟨b, 1, none⟩ = some v := by rw [Lib.cell_of_heap hbk]; rfl
 go_upto_region 2 with (fail)
 refine wp_region_lit ?_
 iterate 18 go_step
 refine Lib.wpList_append_own_string _ rfl _ _ 84 9 rfl B 5 i0 Tryz.underlying84 Tryz.underlying9 hi hz0 hz1 hz2 v bs.length bs rfl hown s rfl ?c3 ?c4 ?c5 ?_
 case c3 => unfold maxLen; omega
 case c4 => omega
 case c5 => have := hb1.size; omega
 intro v' w2 hown' hgrow _
 have hb2 : w2.heap[b]? = some (.cells #[.pointer (some ⟨b, 0, none⟩), v] 122 (0, 0)) := by
  have hlt : b < w1.heap.size := by
   rcases Nat.lt_or_ge b w1.heap.size with h' | h'
   ·exact h'
   ·simp [Array.getElem?_eq_none h'] at hbk
  rw [hgrow.block b hlt (fun e => hne e.symm)]
  exact hbk
 have hlt : b < w1.heap.size := by
  rcases Nat.lt_or_ge b w1.heap.size with h' | h'
  ·exact h'
  ·simp [Array.getElem?_eq_none h'] at hbk
 have d0 : w2.cell? ⟨b, 0, none⟩ = some (.pointer (some ⟨b, 0, none⟩)) := by rw [Lib.cell_of_heap hb2]; rfl
 have d1 : w2.cell? ⟨b, 1, none⟩ = some v := by rw [Lib.cell_of_heap hb2]; rfl
 have f1 : w2.frozen? ⟨b, 1, none⟩ = false := Lib.frozen_of_heap hb2 1
 obtain ⟨ao, n', cap, rfl⟩ : ∃ ao n' cap, v' = .slice ao n' cap := by
  rcases hown'.2 with ⟨hv, _⟩ | ⟨g, cap, cur, hv, _⟩
  ·exact ⟨_, _, _, hv⟩
  ·exact ⟨_, _, _, hv⟩
 simp only [z_1, z_2, z_3, z_4, z_5, z_b, z_6, z_7, z_8, z_9, z_0]
 go_wp2
 go_ret2
 refine ⟨rfl, ?_, ?_⟩
 ·exact Lib.BuilderAt.put hB hb2 (bs' := bs ++ Lib.strCells s) (by simpa [Lib.strCells_length] using hown') ne5
 ·exact (hb1.grown hgrow (by have := hb1.size; omega) (fun k hk => (hown.lt k hk).1)).setCell (p := ⟨b, 1, none⟩) hB _
set_option maxHeartbeats 2000000 in
theorem str_any (B b : Nat) (l : List UInt8) (w : World) (h : Lib.IsBuilder 122 5 B b (Lib.byteCells l) w) (h0 : l ≠ []) :
  Calls Tryz.prog 76 #[.pointer (some ⟨b, 0, none⟩)] w fun e w' => e = .returned (.string ⟨l.toArray⟩) ∧ Below B w w' := by
 obtain ⟨p, hB, v, hbk, hown, hne⟩ : ∃ p, Lib.BuilderAt 122 5 B b p (Lib.byteCells l) w := by
  rcases h with h | h
  ·exact ⟨_, h⟩
  ·exact ⟨_, h⟩
 have hl0 : l.length ≠ 0 := by simpa using h0
 rw [Lib.byteCells_length] at hown
 obtain ⟨g, cap, cur, rfl, hbg, hg, hnc, hcm, hcs, htake⟩ : ∃ g cap cur, v = .slice (some ⟨g, 0, none⟩) l.length cap ∧ B ≤ g ∧ w.heap[g]? = some (.cells cur 5 (0, 0)) ∧ l.length ≤ cap ∧ cap ≤ maxLen ∧ cur.size = cap * 1 ∧ cur.toList.take (l.length * 1) = Lib.byteCells l := by
  rcases hown.2 with ⟨_, hz⟩ | ⟨g, cap, cur, hv, r⟩
  ·exact absurd hz hl0
  ·exact ⟨g, cap, cur, hv, r⟩
 have c1 : w.drew.cell? ⟨b, 1, none⟩ = some (.slice (some ⟨g, 0, none⟩) l.length cap) := by
  have : w.drew.heap[b]? = some (.cells #[p, .slice (some ⟨g, 0, none⟩) l.length cap] 122 (0, 0)) := hbk
  rw [Lib.cell_of_heap this]; rfl
 have hSD : (Builtin.unsafeSliceData_ #[84] 144 #[.slice (some ⟨g, 0, none⟩) l.length cap]).run Tryz.prog w.drew = .ok (.pointer (some ⟨g, 0, none⟩)) w.drew :=
  Lib.run_unsafeSliceData_row _ _ _ _ _ _ (by omega)
 have hUS : (Builtin.unsafeString_ #[144, 3] 9 #[.pointer (some ⟨g, 0, none⟩), .int .i64 l.length]).run Tryz.prog w.drew = .ok (.string ⟨l.toArray⟩) (w.drew.freeze ⟨g, 0, none⟩ l.length) := by
  refine Lib.run_unsafeString_row w.drew 144 3 9 5 Tryz.underlying144 (by kernel_rfl) g cur.size (by have hg' : w.drew.heap[g]? = some (.cells cur 5 (0, 0)) := hg; simp [World.shape?, hg']) l h0 (by omega) (by unfold maxLen at hcm; omega) ?_
  intro j x hx
  have := hown.cells (g := g) rfl j (.int .u8 x.toNat) (by simp [Lib.byteCells, hx])
  exact this
 go_enter Tryz.func76, Tryz.ntmps76
 go_wp2
 go_region
 all_goals
  go_wp2
  go_ret
  exact ⟨rfl, Lib.below_freeze (Below.drew (Below.refl B w)) (p := ⟨g, 0, none⟩) hbg _⟩
end Bld
end Go.Proofs.YtafeealbdpmdkaaGreatDoor
/- A body that is written: page.text, page.number. -/
namespace Go.Proofs.YtafeealbdpmdkaaGreatDoor
open Go.RowKit
namespace Bld
theorem Is.byte {B b : Nat} {l : List UInt8} {w : World} (h : Is B b l w) (c : UInt8) (m : Int) (hm : m = (c.toNat : Int)) (hl : l.length + 1 ≤ 140737488355328) (hBw : B ≤ w.heap.size) :
  Calls Tryz.prog 71 #[.pointer (some ⟨b, 0, none⟩), .int .u8 m] w fun e w' => e = .returned .nilIface ∧ Is B b (l ++ [c]) w' ∧ Below B w w' := by
 subst hm
 refine (byte_any B b _ (c.toNat : Int) w h (by rw [List.length_map]; exact hl) hBw).mono ?_
 rintro e w' ⟨rfl, h1, h2⟩
 refine ⟨rfl, .inr ?_, h2⟩
 rw [List.map_append]
 exact h1
theorem strCells_map (s : ByteArray) : Lib.strCells s = s.data.toList.map byteV := rfl
theorem Is.str {B b : Nat} {l : List UInt8} {w : World} (h : Is B b l w) (s : ByteArray) (hl : l.length + s.size ≤ 140737488355328) (hBw : B ≤ w.heap.size) :
  Calls Tryz.prog 73 #[.pointer (some ⟨b, 0, none⟩), .string s] w fun e w' => e = .returned (.tuple #[.int .i64 s.size, .nilIface]) ∧ Is B b (l ++ s.data.toList) w' ∧ Below B w w' := by
 refine (string_any B b _ s w h (by rw [List.length_map]; exact hl) hBw).mono ?_
 rintro e w' ⟨rfl, h1, h2⟩
 refine ⟨rfl, .inr ?_, h2⟩
 rw [List.map_append, ← strCells_map]
 exact h1
theorem Is.out {B b : Nat} {l : List UInt8} {w : World} (h : Is B b l w) (h0 : l ≠ []) :
  Calls Tryz.prog 76 #[.pointer (some ⟨b, 0, none⟩)] w fun e w' => e = .returned (.string ⟨l.toArray⟩) ∧ Below B w w' := str_any B b l w h h0
def len1 (s : ByteArray) : UInt8 := UInt8.ofNat (s.size % 256)
theorem len1_nat (s : ByteArray) : (len1 s).toNat = s.size % 256 := UInt8.toNat_ofNat_of_lt' (by show _ < 256; omega)
def be (n i : Nat) : UInt8 := UInt8.ofNat (n / 256 ^ (7 - i) % 256)
def be8 (n : Nat) : List UInt8 := (List.range 8).map (be n)
set_option maxHeartbeats 2000000 in
theorem text_any (B b : Nat) (l : List UInt8) (s : ByteArray) (w : World) (h : Is B b l w) (hl : l.length + s.size + 1 ≤ 1099511627776) (hBw : B ≤ w.heap.size) :
  Calls Tryz.prog 72 #[.pointer (some ⟨b, 0, none⟩), .string s] w fun e w' => e = .returned (.tuple #[]) ∧ Is B b (l ++ len1 s :: s.data.toList) w' ∧ Below B w w' := by
 have H := y_ h
 clear h
 go_enter Tryz.func72, Tryz.ntmps72
 go_wp2_with fail
 refine (H.out.byte (len1 s) _ (by rw [len1_nat]; omega) (by omega) hBw).mono ?_
 rintro e w1 ⟨rfl, h1, b1⟩
 have H1 := y_ h1
 have B1 := y_ b1
 have hB1 : B ≤ w1.heap.size := Nat.le_trans hBw b1.size
 clear h1 b1 H
 go_wp2_with fail
 refine (H1.out.str s (by simp; omega) hB1).mono ?_
 rintro e w2 ⟨rfl, h2, b2⟩
 have H2 := y_ h2
 have B2 := y_ (B1.out.trans b2)
 clear h2 b2 H1 B1
 go_wp2_with fail
 go_end0
 refine ⟨rfl, ?_, B2.out⟩
 have := H2.out
 rw [List.append_assoc] at this
 exact this
set_option maxHeartbeats 4000000 in
theorem number_any (B b : Nat) (l : List UInt8) (n : Nat) (w : World) (h : Is B b l w) (hn : n < 9223372036854775808) (hl : l.length ≤ 1099511627776) (hBw : B ≤ w.heap.size) :
  Calls Tryz.prog 74 #[.pointer (some ⟨b, 0, none⟩), .int .i64 (n : Int)] w fun e w' => e = .returned (.tuple #[]) ∧ Is B b (l ++ be8 n) w' ∧ Below B w w' := by
 have H : Hid (Is B b (l ++ (be8 n).take 0) w) := by
  show Is _ _ _ _
  rw [List.take_zero, List.append_nil]; exact h
 clear h
 go_enter Tryz.func74, Tryz.ntmps74
 go_wp2_with fail
 go_loopw [4] (fun i wr => ∃ k : Nat, k ≤ 8 ∧ i = .int .i64 (7 - (k : Int)) ∧ Hid (Is B b (l ++ (be8 n).take k) wr) ∧ Hid (Below B w wr)) (fun i _ => (intOf i + 1).toNat)
 case atStart => exact ⟨0, by omega, by simp, H, Below.refl _ _⟩
 case round =>
  obtain ⟨k, hk, hi, HB, HW⟩ := hrel
  clear H
  by_cases hk8 : k < 8
  ·rcases (by omega : k = 0 ∨ k = 1 ∨ k = 2 ∨ k = 3 ∨ k = 4 ∨ k = 5 ∨ k = 6 ∨ k = 7) with rfl | rfl | rfl | rfl | rfl | rfl | rfl | rfl
   ·have hi' := hi
    rw [show (7 - ((0 : Nat) : Int)) = 7 by decide] at hi'
    subst hi'
    have HE := y_ (show (l ++ (be8 n).take 0) ++ [UInt8.ofNat (n / 72057594037927936 % 256)] = l ++ (be8 n).take (0 + 1) by rw [List.append_assoc]; rfl)
    have hlb : (l ++ (be8 n).take 0).length + 1 ≤ 140737488355328 := by rw [List.length_append, List.length_take]; omega
    generalize (l ++ (be8 n).take 0) = ll at *
    go_wp2_with fail
    have hwr : IntKind.i64.wrap 56 = 56 := by decide
    go_still_tail 8, (by kernel_rfl)
    change wpList _ _ _ _ _ wr.drew
    repeat go_step
    refine ((show Is B b ll wr.drew from HB.out).byte (UInt8.ofNat (n / 72057594037927936 % 256)) _ (by rw [UInt8.toNat_ofNat_of_lt' (by show _ < 256; omega)]; omega) hlb (Nat.le_trans hBw HW.out.size)).mono ?_
    rintro e w2 ⟨rfl, h2, b2⟩
    rw [HE.out] at h2
    have HB2 := y_ h2
    have HW2 := y_ ((HW.out.drew).trans b2)
    clear h2 b2 HB HE
    go_wp2_with fail
    exact ⟨⟨0 + 1, by omega, by simp, HB2, HW2⟩, by simp [intOf]⟩
   ·have hi' := hi
    rw [show (7 - ((1 : Nat) : Int)) = 6 by decide] at hi'
    subst hi'
    have HE := y_ (show (l ++ (be8 n).take 1) ++ [UInt8.ofNat (n / 281474976710656 % 256)] = l ++ (be8 n).take (1 + 1) by rw [List.append_assoc]; rfl)
    have hlb : (l ++ (be8 n).take 1).length + 1 ≤ 140737488355328 := by rw [List.length_append, List.length_take]; omega
    generalize (l ++ (be8 n).take 1) = ll at *
    go_wp2_with fail
    have hwr : IntKind.i64.wrap 48 = 48 := by decide
    go_still_tail 8, (by kernel_rfl)
    change wpList _ _ _ _ _ wr.drew
    repeat go_step
    refine ((show Is B b ll wr.drew from HB.out).byte (UInt8.ofNat (n / 281474976710656 % 256)) _ (by rw [UInt8.toNat_ofNat_of_lt' (by show _ < 256; omega)]; omega) hlb (Nat.le_trans hBw HW.out.size)).mono ?_
    rintro e w2 ⟨rfl, h2, b2⟩
    rw [HE.out] at h2
    have HB2 := y_ h2
    have HW2 := y_ ((HW.out.drew).trans b2)
    clear h2 b2 HB HE
    go_wp2_with fail
    exact ⟨⟨1 + 1, by omega, by simp, HB2, HW2⟩, by simp [intOf]⟩
   ·have hi' := hi
    rw [show (7 - ((2 : Nat) : Int)) = 5 by decide] at hi'
    subst hi'
    have HE := y_ (show (l ++ (be8 n).take 2) ++ [UInt8.ofNat (n / 1099511627776 % 256)] = l ++ (be8 n).take (2 + 1) by rw [List.append_assoc]; rfl)
    have hlb : (l ++ (be8 n).take 2).length + 1 ≤ 140737488355328 := by rw [List.length_append, List.length_take]; omega
    generalize (l ++ (be8 n).take 2) = ll at *
    go_wp2_with fail
    have hwr : IntKind.i64.wrap 40 = 40 := by decide
    go_still_tail 8, (by kernel_rfl)
    change wpList _ _ _ _ _ wr.drew
    repeat go_step
    refine ((show Is B b ll wr.drew from HB.out).byte (UInt8.ofNat (n / 1099511627776 % 256)) _ (by rw [UInt8.toNat_ofNat_of_lt' (by show _ < 256; omega)]; omega) hlb (Nat.le_trans hBw HW.out.size)).mono ?_
    rintro e w2 ⟨rfl, h2, b2⟩
    rw [HE.out] at h2
    have HB2 := y_ h2
    have HW2 := y_ ((HW.out.drew).trans b2)
    clear h2 b2 HB HE
    go_wp2_with fail
    exact ⟨⟨2 + 1, by omega, by simp, HB2, HW2⟩, by simp [intOf]⟩
   ·have hi' := hi
    rw [show (7 - ((3 : Nat) : Int)) = 4 by decide] at hi'
    subst hi'
    have HE := y_ (show (l ++ (be8 n).take 3) ++ [UInt8.ofNat (n / 4294967296 % 256)] = l ++ (be8 n).take (3 + 1) by rw [List.append_assoc]; rfl)
    have hlb : (l ++ (be8 n).take 3).length + 1 ≤ 140737488355328 := by rw [List.length_append, List.length_take]; omega
    generalize (l ++ (be8 n).take 3) = ll at *
    go_wp2_with fail
    have hwr : IntKind.i64.wrap 32 = 32 := by decide
    go_still_tail 8, (by kernel_rfl)
    change wpList _ _ _ _ _ wr.drew
    repeat go_step
    refine ((show Is B b ll wr.drew from HB.out).byte (UInt8.ofNat (n / 4294967296 % 256)) _ (by rw [UInt8.toNat_ofNat_of_lt' (by show _ < 256; omega)]; omega) hlb (Nat.le_trans hBw HW.out.size)).mono ?_
    rintro e w2 ⟨rfl, h2, b2⟩
    rw [HE.out] at h2
    have HB2 := y_ h2
    have HW2 := y_ ((HW.out.drew).trans b2)
    clear h2 b2 HB HE
    go_wp2_with fail
    exact ⟨⟨3 + 1, by omega, by simp, HB2, HW2⟩, by simp [intOf]⟩
   ·have hi' := hi
    rw [show (7 - ((4 : Nat) : Int)) = 3 by decide] at hi'
    subst hi'
    have HE := y_ (show (l ++ (be8 n).take 4) ++ [UInt8.ofNat (n / 16777216 % 256)] = l ++ (be8 n).take (4 + 1) by rw [List.append_assoc]; rfl)
    have hlb : (l ++ (be8 n).take 4).length + 1 ≤ 140737488355328 := by rw [List.length_append, List.length_take]; omega
    generalize (l ++ (be8 n).take 4) = ll at *
    go_wp2_with fail
    have hwr : IntKind.i64.wrap 24 = 24 := by decide
    go_still_tail 8, (by kernel_rfl)
    change wpList _ _ _ _ _ wr.drew
    repeat go_step
    refine ((show Is B b ll wr.drew from HB.out).byte (UInt8.ofNat (n / 16777216 % 256)) _ (by rw [UInt8.toNat_ofNat_of_lt' (by show _ < 256; omega)]; omega) hlb (Nat.le_trans hBw HW.out.size)).mono ?_
    rintro e w2 ⟨rfl, h2, b2⟩
    rw [HE.out] at h2
    have HB2 := y_ h2
    have HW2 := y_ ((HW.out.drew).trans b2)
    clear h2 b2 HB HE
    go_wp2_with fail
    exact ⟨⟨4 + 1, by omega, by simp, HB2, HW2⟩, by simp [intOf]⟩
   ·have hi' := hi
    rw [show (7 - ((5 : Nat) : Int)) = 2 by decide] at hi'
    subst hi'
    have HE := y_ (show (l ++ (be8 n).take 5) ++ [UInt8.ofNat (n / 65536 % 256)] = l ++ (be8 n).take (5 + 1) by rw [List.append_assoc]; rfl)
    have hlb : (l ++ (be8 n).take 5).length + 1 ≤ 140737488355328 := by rw [List.length_append, List.length_take]; omega
    generalize (l ++ (be8 n).take 5) = ll at *
    go_wp2_with fail
    have hwr : IntKind.i64.wrap 16 = 16 := by decide
    go_still_tail 8, (by kernel_rfl)
    change wpList _ _ _ _ _ wr.drew
    repeat go_step
    refine ((show Is B b ll wr.drew from HB.out).byte (UInt8.ofNat (n / 65536 % 256)) _ (by rw [UInt8.toNat_ofNat_of_lt' (by show _ < 256; omega)]; omega) hlb (Nat.le_trans hBw HW.out.size)).mono ?_
    rintro e w2 ⟨rfl, h2, b2⟩
    rw [HE.out] at h2
    have HB2 := y_ h2
    have HW2 := y_ ((HW.out.drew).trans b2)
    clear h2 b2 HB HE
    go_wp2_with fail
    exact ⟨⟨5 + 1, by omega, by simp, HB2, HW2⟩, by simp [intOf]⟩
   ·have hi' := hi
    rw [show (7 - ((6 : Nat) : Int)) = 1 by decide] at hi'
    subst hi'
    have HE := y_ (show (l ++ (be8 n).take 6) ++ [UInt8.ofNat (n / 256 % 256)] = l ++ (be8 n).take (6 + 1) by rw [List.append_assoc]; rfl)
    have hlb : (l ++ (be8 n).take 6).length + 1 ≤ 140737488355328 := by rw [List.length_append, List.length_take]; omega
    generalize (l ++ (be8 n).take 6) = ll at *
    go_wp2_with fail
    have hwr : IntKind.i64.wrap 8 = 8 := by decide
    go_still_tail 8, (by kernel_rfl)
    change wpList _ _ _ _ _ wr.drew
    repeat go_step
    refine ((show Is B b ll wr.drew from HB.out).byte (UInt8.ofNat (n / 256 % 256)) _ (by rw [UInt8.toNat_ofNat_of_lt' (by show _ < 256; omega)]; omega) hlb (Nat.le_trans hBw HW.out.size)).mono ?_
    rintro e w2 ⟨rfl, h2, b2⟩
    rw [HE.out] at h2
    have HB2 := y_ h2
    have HW2 := y_ ((HW.out.drew).trans b2)
    clear h2 b2 HB HE
    go_wp2_with fail
    exact ⟨⟨6 + 1, by omega, by simp, HB2, HW2⟩, by simp [intOf]⟩
   ·have hi' := hi
    rw [show (7 - ((7 : Nat) : Int)) = 0 by decide] at hi'
    subst hi'
    have HE := y_ (show (l ++ (be8 n).take 7) ++ [UInt8.ofNat (n / 1 % 256)] = l ++ (be8 n).take (7 + 1) by rw [List.append_assoc]; rfl)
    have hlb : (l ++ (be8 n).take 7).length + 1 ≤ 140737488355328 := by rw [List.length_append, List.length_take]; omega
    generalize (l ++ (be8 n).take 7) = ll at *
    go_wp2_with fail
    have hwr : IntKind.i64.wrap 0 = 0 := by decide
    go_still_tail 8, (by kernel_rfl)
    change wpList _ _ _ _ _ wr.drew
    repeat go_step
    refine ((show Is B b ll wr.drew from HB.out).byte (UInt8.ofNat (n / 1 % 256)) _ (by rw [UInt8.toNat_ofNat_of_lt' (by show _ < 256; omega)]; omega) hlb (Nat.le_trans hBw HW.out.size)).mono ?_
    rintro e w2 ⟨rfl, h2, b2⟩
    rw [HE.out] at h2
    have HB2 := y_ h2
    have HW2 := y_ ((HW.out.drew).trans b2)
    clear h2 b2 HB HE
    go_wp2_with fail
    exact ⟨⟨7 + 1, by omega, by simp, HB2, HW2⟩, by simp [intOf]⟩
  ·have hk' : k = 8 := by omega
   subst hk'
   have hi' := hi
   rw [show (7 - ((8 : Nat) : Int)) = -1 by decide] at hi'
   subst hi'
   have he : (be8 n).take 8 = be8 n := List.take_of_length_le (by simp [be8])
   have hb := HB.out
   rw [he] at hb
   have HN := y_ hb
   clear hb HB he
   go_wp2_with fail
   go_end0
   exact ⟨rfl, HN.out, HW.out⟩
end Bld
end Go.Proofs.YtafeealbdpmdkaaGreatDoor
/- CRC-32 on natural numbers: what the program's functions compute, and the laws of it. No program in sight. -/
namespace Go.Proofs.YtafeealbdpmdkaaGreatDoor
namespace CrcP

def nibs : List Nat := [0x00000000, 0x1db71064, 0x3b6e20c8, 0x26d930ac, 0x76dc4190, 0x6b6b51f4, 0x4db26158, 0x5005713c,
 0xedb88320, 0xf00f9344, 0xd6d6a3e8, 0xcb61b38c, 0x9b64c2b0, 0x86d3d2d4, 0xa00ae278, 0xbdbdf21c]
def nib (i : Nat) : Nat := nibs.getD i 0
def half (x : Nat) : Nat := x / 16 ^^^ nib (x % 16)
def step (x b : Nat) : Nat := half (half (x ^^^ b))
def flip (x : Nat) : Nat := 4294967295 - x
def poly : Nat := 3988292384
def bit (x : Nat) : Nat := if x % 2 = 1 then x / 2 ^^^ poly else x / 2
def bits : Nat → Nat → Nat
 | 0, x => x
 | n + 1, x => bits n (bit x)
def run (x : Nat) (l : List UInt8) : Nat := l.foldl (fun x c => step x c.toNat) x
def runR (x : Nat) (l : List UInt8) : Nat := l.foldl (fun x c => bits 8 (x ^^^ c.toNat)) x
def more (s : Nat) (l : List UInt8) : Nat := flip (run (flip s) l)
def moreR (s : Nat) (l : List UInt8) : Nat := flip (runR (flip s) l)
def ofParts (ps : List (List UInt8)) : Nat := ps.foldl more 0
def tail (n : Nat) : List UInt8 := [UInt8.ofNat (n % 256), UInt8.ofNat (n / 256 % 256), UInt8.ofNat (n / 65536 % 256), UInt8.ofNat (n / 16777216 % 256)]
def ends (l : List UInt8) : Bool := decide (4 ≤ l.length) && (tail (more 0 (l.take (l.length - 4))) == l.drop (l.length - 4))

theorem nib_lt (i : Nat) : nib i < 4294967296 := by
 unfold nib
 rcases Nat.lt_or_ge i 16 with h | h
 ·have : ∀ i, i < 16 → nibs.getD i 0 < 4294967296 := by decide
  exact this i h
 ·simp [nibs, List.getD, h]
theorem half_lt {x : Nat} (h : x < 4294967296) : half x < 4294967296 := Nat.xor_lt_two_pow (n := 32) (by omega) (nib_lt _)
theorem xor_lt {x b : Nat} (hx : x < 4294967296) (hb : b < 4294967296) : x ^^^ b < 4294967296 := Nat.xor_lt_two_pow (n := 32) hx hb
theorem step_lt {x b : Nat} (hx : x < 4294967296) (hb : b < 256) : step x b < 4294967296 := half_lt (half_lt (xor_lt hx (by omega)))
theorem flip_lt (x : Nat) : flip x < 4294967296 := by unfold flip; omega
theorem flip_flip {x : Nat} (h : x < 4294967296) : flip (flip x) = x := by unfold flip; omega
theorem run_lt {x : Nat} (l : List UInt8) (h : x < 4294967296) : run x l < 4294967296 := by
 induction l generalizing x with
 | nil => exact h
 | cons c l ih => exact ih (step_lt h c.toNat_lt)
theorem more_lt (s : Nat) (l : List UInt8) : more s l < 4294967296 := flip_lt _
theorem run_snoc (x : Nat) (l : List UInt8) (c : UInt8) : run x (l ++ [c]) = step (run x l) c.toNat := by simp [run]
theorem runR_snoc (x : Nat) (l : List UInt8) (c : UInt8) : runR x (l ++ [c]) = bits 8 (runR x l ^^^ c.toNat) := by simp [runR]

/-! ### one bit is linear, on all numbers -/
theorem xor_half (x y : Nat) : (x ^^^ y) / 2 = x / 2 ^^^ y / 2 := by
 have := Nat.shiftRight_xor_distrib (a := x) (b := y) (i := 1)
 simpa [Nat.shiftRight_eq_div_pow] using this
theorem xor_mod2 (x y : Nat) : (x ^^^ y) % 2 = (x % 2 + y % 2) % 2 := by
 have h := Nat.xor_mod_two_pow (a := x) (b := y) (n := 1)
 simp only [Nat.pow_one] at h
 rw [h]
 rcases Nat.mod_two_eq_zero_or_one x with a | a <;> rcases Nat.mod_two_eq_zero_or_one y with b | b <;> rw [a, b] <;> rfl
theorem bit_xor (x y : Nat) : bit (x ^^^ y) = bit x ^^^ bit y := by
 unfold bit
 rw [xor_mod2, xor_half]
 rcases Nat.mod_two_eq_zero_or_one x with a | a <;> rcases Nat.mod_two_eq_zero_or_one y with b | b <;> rw [a, b] <;> simp only [Nat.zero_add, z_b, Nat.reduceMod, if_true, if_false, Nat.reduceEqDiff, Nat.zero_ne_one]
 ·exact (Nat.xor_assoc _ _ _)
 ·rw [Nat.xor_assoc, Nat.xor_comm (y / 2) poly, ← Nat.xor_assoc]
 ·rw [Nat.xor_assoc, ← Nat.xor_assoc poly, Nat.xor_comm poly (y / 2), Nat.xor_assoc, Nat.xor_self, Nat.xor_zero]
theorem bits_xor (n x y : Nat) : bits n (x ^^^ y) = bits n x ^^^ bits n y := by
 induction n generalizing x y with
 | zero => rfl
 | succ n ih => simp only [bits]; rw [bit_xor, ih]
theorem bits_add (m n x : Nat) : bits (m + n) x = bits n (bits m x) := by
 induction m generalizing x with
 | zero => simp [bits]
 | succ m ih => rw [Nat.succ_add]; simp only [bits]; exact ih _
theorem bit_double (x : Nat) : bit (2 * x) = x := by
 unfold bit
 rw [if_neg (by omega)]; omega
theorem bits_pow (n x : Nat) : bits n (2 ^ n * x) = x := by
 induction n with
 | zero => simp [bits]
 | succ n ih =>
   simp only [bits]
   rw [Nat.pow_succ, Nat.mul_comm (2 ^ n) 2, Nat.mul_assoc, bit_double]
   exact ih
theorem bit_lt {x : Nat} (h : x < 4294967296) : bit x < 4294967296 := by
 unfold bit
 split
 ·exact Nat.xor_lt_two_pow (n := 32) (by omega) (by decide)
 ·omega
theorem bits_lt (n : Nat) {x : Nat} (h : x < 4294967296) : bits n x < 4294967296 := by
 induction n generalizing x with
 | zero => exact h
 | succ n ih => exact ih (bit_lt h)
theorem nib_bits (r : Nat) (h : r < 16) : bits 4 r = nib r := by
 have : ∀ r, r < 16 → bits 4 r = nib r := by decide
 exact this r h
theorem split_xor (n x : Nat) : x = 2 ^ n * (x / 2 ^ n) ^^^ x % 2 ^ n := by
 apply Nat.eq_of_testBit_eq
 intro i
 rw [Nat.testBit_xor, Nat.testBit_mod_two_pow, Nat.mul_comm, Nat.testBit_mul_two_pow, Nat.testBit_div_two_pow]
 by_cases h : i < n
 ·simp [h, Nat.not_le.2 h]
 ·have h' : n ≤ i := by omega
  simp [h, h']
theorem half_bits (x : Nat) : half x = bits 4 x := by
 have h := split_xor 4 x
 have e : bits 4 x = bits 4 (2 ^ 4 * (x / 2 ^ 4) ^^^ x % 2 ^ 4) := congrArg _ h
 rw [e, bits_xor, bits_pow, nib_bits _ (Nat.mod_lt _ (by decide))]
 rfl
theorem step_bits (x b : Nat) : step x b = bits 8 (x ^^^ b) := by
 unfold step
 rw [half_bits, half_bits]
 rfl
theorem run_runR (x : Nat) (l : List UInt8) : run x l = runR x l := by
 unfold run runR
 congr 1
 funext x c
 exact step_bits _ _
theorem more_moreR (s : Nat) (l : List UInt8) : more s l = moreR s l := by unfold more moreR; rw [run_runR]

/-! ### a text as one number -/
def le : List UInt8 → Nat
 | [] => 0
 | c :: l => c.toNat + 256 * le l
theorem run_le (x : Nat) (l : List UInt8) : run x l = bits (8 * l.length) (x ^^^ le l) := by
 induction l generalizing x with
 | nil => simp [run, le, bits]
 | cons c l ih =>
   have e : run x (c :: l) = run (step x c.toNat) l := rfl
   rw [e, ih, step_bits, show 8 * (c :: l).length = 8 + 8 * l.length from by simp; omega, bits_add]
   congr 1
   have h : le (c :: l) = 2 ^ 8 * le l ^^^ c.toNat := by
    have h1 := split_xor 8 (le (c :: l))
    have hc := c.toNat_lt
    have e1 : le (c :: l) / 2 ^ 8 = le l := by simp only [le]; omega
    have e2 : le (c :: l) % 2 ^ 8 = c.toNat := by simp only [le]; omega
    rw [e1, e2] at h1
    exact h1
   rw [h, Nat.xor_comm (2 ^ 8 * le l), ← Nat.xor_assoc, bits_xor 8 (x ^^^ c.toNat) (2 ^ 8 * le l), bits_pow]
theorem xor_cancel (x a b : Nat) : (x ^^^ a) ^^^ (x ^^^ b) = a ^^^ b := by
 apply Nat.eq_of_testBit_eq
 intro i
 simp only [Nat.testBit_xor]
 cases x.testBit i <;> cases a.testBit i <;> cases b.testBit i <;> rfl
theorem flip_eq {x : Nat} (h : x < 4294967296) : flip x = x ^^^ 4294967295 := by
 have h1 : (BitVec.ofNat 32 x ^^^ BitVec.allOnes 32) = ~~~ (BitVec.ofNat 32 x) := BitVec.xor_allOnes
 have h2 := congrArg BitVec.toNat h1
 simp only [BitVec.toNat_xor, BitVec.toNat_not, BitVec.toNat_ofNat, BitVec.toNat_allOnes, Nat.mod_eq_of_lt h] at h2
 unfold flip
 exact h2.symm

/-! ### CrcParts -/
theorem more_append (s : Nat) (l m : List UInt8) : more s (l ++ m) = more (more s l) m := by
 unfold more
 rw [flip_flip (run_lt l (flip_lt _))]
 simp [run]
theorem tail_length (n : Nat) : (tail n).length = 4 := rfl
/-! ### CrcLinear -/
def xor3 (a b c : List UInt8) : List UInt8 := List.zipWith (fun x y => x ^^^ y) (List.zipWith (fun x y => x ^^^ y) a b) c
theorem le_zip (a b : List UInt8) (h : a.length = b.length) : le (List.zipWith (fun x y => x ^^^ y) a b) = le a ^^^ le b := by
 induction a generalizing b with
 | nil => cases b <;> simp_all [le]
 | cons x a ih =>
   cases b with
   | nil => simp at h
   | cons y b =>
     simp only [List.zipWith_cons_cons, le, UInt8.toNat_xor]
     rw [ih b (by simpa using h)]
     have hx := x.toNat_lt
     have hy := y.toNat_lt
     have e : ∀ (u v : Nat), u < 256 → u + 256 * v = 2 ^ 8 * v ^^^ u := fun u v hu => by
      have h1 := split_xor 8 (u + 256 * v)
      have e1 : (u + 256 * v) / 2 ^ 8 = v := by omega
      have e2 : (u + 256 * v) % 2 ^ 8 = u := by omega
      rw [e1, e2] at h1
      exact h1
     rw [e _ _ (Nat.xor_lt_two_pow (n := 8) hx hy), e _ _ hx, e _ _ hy]
     have m : 2 ^ 8 * (le a ^^^ le b) = 2 ^ 8 * le a ^^^ 2 ^ 8 * le b := by
      have := Nat.shiftLeft_xor_distrib (a := le a) (b := le b) (i := 8)
      simpa [Nat.shiftLeft_eq, Nat.mul_comm] using this
     rw [m]
     apply Nat.eq_of_testBit_eq
     intro i
     simp only [Nat.testBit_xor]
     generalize (2 ^ 8 * le a).testBit i = p1
     generalize (2 ^ 8 * le b).testBit i = p2
     cases p1 <;> cases p2 <;> cases x.toNat.testBit i <;> cases y.toNat.testBit i <;> rfl
theorem run_three (x : Nat) (a b c : List UInt8) (h1 : a.length = b.length) (h2 : a.length = c.length) : run x a ^^^ run x b ^^^ run x c = run x (xor3 a b c) := by
 have hz : (List.zipWith (fun x y => x ^^^ y) a b).length = a.length := by simp [h1]
 have hz3 : (xor3 a b c).length = a.length := by simp [xor3, h1, ← h2]
 rw [run_le, run_le, run_le, run_le, hz3, ← h1, ← h2, ← bits_xor, ← bits_xor]
 congr 1
 unfold xor3
 rw [le_zip _ _ (by rw [hz, h2]), le_zip _ _ h1, xor_cancel]
 apply Nat.eq_of_testBit_eq
 intro i
 simp only [Nat.testBit_xor]
 cases (le a).testBit i <;> cases (le b).testBit i <;> cases (le c).testBit i <;> cases x.testBit i <;> rfl
theorem linear (a b c : List UInt8) (h1 : a.length = b.length) (h2 : a.length = c.length) : more 0 a ^^^ more 0 b ^^^ more 0 c = more 0 (xor3 a b c) := by
 unfold more
 have r : ∀ l, run (flip 0) l < 4294967296 := fun l => run_lt l (flip_lt _)
 rw [flip_eq (r a), flip_eq (r b), flip_eq (r c), flip_eq (r _), ← run_three _ a b c h1 h2]
 apply Nat.eq_of_testBit_eq
 intro i
 simp only [Nat.testBit_xor]
 generalize (run (flip 0) a).testBit i = p1
 generalize (run (flip 0) b).testBit i = p2
 generalize (run (flip 0) c).testBit i = p3
 generalize (4294967295 : Nat).testBit i = p4
 cases p1 <;> cases p2 <;> cases p3 <;> cases p4 <;> rfl

/-! ### CrcTells -/
end CrcP
end Go.Proofs.YtafeealbdpmdkaaGreatDoor
/- The walks of the package crc and of its reference: each function returns what CrcPlain says. -/
namespace Go.Proofs.YtafeealbdpmdkaaGreatDoor
open Go.RowKit
namespace Crc
open CrcP

theorem unary_not_u32 (n : Int) : Op.unary .xor (.int .u32 n) = Op.intBits .xor .u32 4294967295 n := rfl
attribute [local go_sem high] unary_not_u32

/-- the table lies in memory -/
def Tab (w : World) : Prop := ∀ i : Nat, i < 16 → w.cell? ⟨0, i, none⟩ = some (.int .u32 (nib i))

theorem u32_xor (a b : Nat) (ha : a < 4294967296) (hb : b < 4294967296) : Go.bits .xor .u32 (a : Int) (b : Int) = ((a ^^^ b : Nat) : Int) := u32_xor_nat a b ha hb

set_option maxHeartbeats 400000 in
theorem step_any (x b : Nat) (w : World) (hx : x < 4294967296) (hb : b < 256) (hT : Tab w) :
  Calls Tryz.prog 121 #[.int .u32 (x : Int), .int .u8 (b : Int)] w fun e w' => e = .returned (.int .u32 (CrcP.step x b : Nat)) ∧ w = w' := by
 have e1 := u32_xor x b hx (by omega)
 have hy : x ^^^ b < 4294967296 := xor_lt hx (by omega)
 have hs : CrcP.step x b = CrcP.half (CrcP.half (x ^^^ b)) := rfl
 have HS := y_ hs
 clear hs
 generalize x ^^^ b = y at *
 have e2 : Go.bits .and .u32 (y : Int) 15 = ((y % 16 : Nat) : Int) := by
  have := u32_and_nat y 15 hy (by decide); rw [nat_mask4] at this; exact this
 have c1 := hT (y % 16) (by omega)
 have e3 : Go.bits .xor .u32 ((y : Int) / 16) (nib (y % 16) : Nat) = (CrcP.half y : Nat) := by
  have := u32_xor (y / 16) (nib (y % 16)) (by omega) (nib_lt _)
  simpa [CrcP.half] using this
 have hz := half_lt hy
 generalize hyz : CrcP.half y = z at *
 have HZ := y_ hyz
 clear hyz
 have e4 : Go.bits .and .u32 (z : Int) 15 = ((z % 16 : Nat) : Int) := by
  have := u32_and_nat z 15 hz (by decide); rw [nat_mask4] at this; exact this
 have c2 := hT (z % 16) (by omega)
 have e5 : Go.bits .xor .u32 ((z : Int) / 16) (nib (z % 16) : Nat) = (CrcP.half z : Nat) := by
  have := u32_xor (z / 16) (nib (z % 16)) (by omega) (nib_lt _)
  simpa [CrcP.half] using this
 generalize hzz : CrcP.half z = z2 at *
 have HZ2 := y_ hzz
 clear hzz
 generalize nib (y % 16) = n1 at *
 generalize nib (z % 16) = n2 at *
 clear hT
 go_enter Tryz.func121, Tryz.ntmps121
 go_wp2
 go_ret
 exact ⟨by rw [HS.out]; rfl, rfl⟩

theorem not_eq (x : Nat) (hx : x < 4294967296) : Go.bits .xor .u32 4294967295 (x : Int) = (flip x : Nat) := by
 have := u32_xor 4294967295 x (by decide) hx
 rw [flip_eq hx, Nat.xor_comm]
 exact this

set_option maxHeartbeats 400000 in
theorem more_any (x : Nat) (s : ByteArray) (w : World) (hx : x < 4294967296) (hs : s.size ≤ maxLen) (hT : Tab w) :
  Calls Tryz.prog 109 #[.int .u32 (x : Int), .string s] w fun e w' => e = .returned (.int .u32 (more x s.data.toList : Nat)) ∧ w = w' := by
 unfold maxLen at hs
 have HT := y_ hT
 clear hT
 have e1 := not_eq x hx
 have hfl := flip_lt x
 generalize hf : flip x = f at *
 have HF := y_ hf
 clear hf
 go_enter Tryz.func109, Tryz.ntmps109
 go_wp2
 go_loop [5, 6, 11] (fun v _ i => ∃ k : Nat, k ≤ s.size ∧ i = .int .i64 k ∧ v = .int .u32 (run f (s.data.toList.take k) : Nat)) (fun _ _ i => s.size - (intOf i).toNat)
 case atStart => exact ⟨0, Nat.zero_le _, rfl, rfl⟩
 case round =>
  obtain ⟨k, hk, rfl, rfl⟩ := hrel
  have hlt := run_lt (s.data.toList.take k) hfl
  by_cases hks : k < s.size
  ·have hsn : run f (s.data.toList.take (k + 1)) = CrcP.step (run f (s.data.toList.take k)) (s[k]).toNat := by
    rw [List.take_succ_eq_append_getElem (by simpa using hks), run_snoc]; rfl
   have HS := y_ hsn
   clear hsn
   have hb := (s[k]).toNat_lt
   generalize run f (s.data.toList.take k) = r at *
   go_wp2_with (go_at_call 121; refine (step_any _ _ _ hlt hb HT.out).mono ?_; rintro e w' ⟨rfl, rfl⟩)
   go_round
   case rel => exact ⟨k + 1, by omega, by go_num, by rw [HS.out]⟩
   case measure => simp [intOf]; omega
  ·have hke : k = s.size := by omega
   have e2 := not_eq _ hlt
   have hall : s.data.toList.take k = s.data.toList := List.take_of_length_le (by simp; omega)
   rw [hall] at e2
   have hm : more x s.data.toList = flip (run f s.data.toList) := by rw [← HF.out]; rfl
   have HM := y_ hm
   have HA := y_ hall
   clear hm
   rw [hall]
   clear hall hlt
   generalize run f s.data.toList = r at *
   go_wp2
   go_ret
   exact ⟨by rw [HM.out]; rfl, rfl⟩

set_option maxHeartbeats 400000 in
theorem moreR_any (x : Nat) (s : ByteArray) (w : World) (hx : x < 4294967296) (hs : s.size ≤ maxLen) :
  Calls Tryz.prog 79 #[.int .u32 (x : Int), .string s] w fun e w' => e = .returned (.int .u32 (moreR x s.data.toList : Nat)) ∧ w = w' := by
 unfold maxLen at hs
 have e1 := not_eq x hx
 have hfl := flip_lt x
 generalize hf : flip x = f at *
 have HF := y_ hf
 clear hf
 have h0 : runR f (s.data.toList.take 0) < 4294967296 := hfl
 go_enter Tryz.func79, Tryz.ntmps79
 go_wp2
 go_loop [5, 6, 7] (fun v i _ => ∃ k : Nat, k ≤ s.size ∧ i = .int .i64 k ∧ v = .int .u32 (runR f (s.data.toList.take k) : Nat)) (fun _ i _ => s.size - (intOf i).toNat)
 case atStart => exact ⟨0, Nat.zero_le _, rfl, rfl⟩
 case round =>
  obtain ⟨k, hk, rfl, rfl⟩ := hrel
  have hlt : runR f (s.data.toList.take k) < 4294967296 := by rw [← run_runR]; exact run_lt _ hfl
  by_cases hks : k < s.size
  ·have hsn : runR f (s.data.toList.take (k + 1)) = CrcP.bits 8 (runR f (s.data.toList.take k) ^^^ (s[k]).toNat) := by
    rw [List.take_succ_eq_append_getElem (by simpa using hks), runR_snoc]; rfl
   have HS := y_ hsn
   clear hsn
   have hb := (s[k]).toNat_lt
   generalize runR f (s.data.toList.take k) = r at *
   have e2 := u32_xor r (s[k]).toNat hlt (by omega)
   have hy : r ^^^ (s[k]).toNat < 4294967296 := xor_lt hlt (by omega)
   generalize r ^^^ (s[k]).toNat = y at *
   go_wp2
   go_loop [5, 7] (fun v i => ∃ j : Nat, j ≤ 8 ∧ i = .int .i64 j ∧ v = .int .u32 (CrcP.bits j y : Nat)) (fun _ i => 8 - (intOf i).toNat)
   case atStart => exact ⟨0, by omega, rfl, rfl⟩
   case round =>
    obtain ⟨j, hj, rfl, rfl⟩ := hrel
    by_cases hj8 : j < 8
    ·have hs1 : CrcP.bits (j + 1) y = bit (CrcP.bits j y) := by rw [bits_add]; rfl
     have hlj := bits_lt j hy
     have HS1 := y_ hs1
     clear hs1
     generalize CrcP.bits j y = u at *
     have e3 : Go.bits .and .u32 (u : Int) 1 = ((u % 2 : Nat) : Int) := by
      have := u32_and_nat u 1 hlj (by decide); rw [nat_mask1] at this; exact this
     have e4 : Go.bits .xor .u32 ((u : Int) / 2) 3988292384 = ((u / 2 ^^^ poly : Nat) : Int) := by
      have := u32_xor (u / 2) poly (by omega) (by decide)
      simpa [show poly = 3988292384 from rfl] using this
     have hb1 : bit u = if u % 2 = 1 then u / 2 ^^^ poly else u / 2 := rfl
     have HB := y_ hb1
     clear hb1
     by_cases hu : u % 2 = 1
     ·have t1 : (((u % 2 : Nat) : Int) == 1) = true := by rw [hu]; rfl
      have HU := y_ hu
      clear hu
      generalize u / 2 ^^^ poly = p1 at *
      go_wp2
      go_round
      case rel => exact ⟨j + 1, by omega, by go_num, by rw [HS1.out, HB.out, if_pos HU.out]⟩
      case measure => simp [intOf]; omega
     ·have t1 : (((u % 2 : Nat) : Int) == 1) = false := by
       have : u % 2 = 0 := by omega
       rw [this]; rfl
      have HU := y_ hu
      clear hu
      generalize u / 2 ^^^ poly = p1 at *
      go_wp2
      go_round
      case rel => exact ⟨j + 1, by omega, by go_num, by rw [HS1.out, HB.out, if_neg HU.out]; rfl⟩
      case measure => simp [intOf]; omega
    ·have hj9 : j = 8 := by omega
     subst hj9
     have e8 := HS.out
     generalize CrcP.bits 8 y = u at *
     have HS2 := y_ e8
     clear e8 HS
     go_wp2
     go_round
     case rel => exact ⟨k + 1, by omega, by go_num, by rw [HS2.out]⟩
     case measure => simp [intOf]; omega
  ·have hke : k = s.size := by omega
   have e2 := not_eq _ hlt
   have hall : s.data.toList.take k = s.data.toList := List.take_of_length_le (by simp; omega)
   rw [hall] at e2
   have hm : moreR x s.data.toList = flip (runR f s.data.toList) := by rw [← HF.out]; rfl
   have HM := y_ hm
   have HA := y_ hall
   clear hm
   rw [hall]
   clear hall hlt
   generalize runR f s.data.toList = r at *
   go_wp2
   go_ret
   exact ⟨by rw [HM.out]; rfl, rfl⟩

set_option maxHeartbeats 400000 in
theorem tailR_any (n : Nat) (w : World) (hn : n < 4294967296) :
  Calls Tryz.prog 78 #[.int .u32 (n : Int)] w fun e w' => e = .returned (.string ⟨(tail n).toArray⟩) ∧ Reg.Ext w w' := by
 go_enter Tryz.func78, Tryz.ntmps78
 go_wp2
 rw [conv_bytes _ _ _ 5 Tryz.underlying84 Tryz.underlying5 Tryz.underlying9 _ _ 4 _ (tail n) rfl]
 ·go_wp2
  go_ret
  exact ⟨rfl, (Below.refl _ _).alloc (Nat.le_refl _) _⟩
 ·intro j hj
  have hj' : j < 4 := hj
  rcases (by omega : j = 0 ∨ j = 1 ∨ j = 2 ∨ j = 3) with rfl | rfl | rfl | rfl <;> simp [tail, byteV, go_sem] <;> omega
def tcells (n : Nat) : Nat → Array Value
 | 0 => #[.int .u8 0, .int .u8 0, .int .u8 0, .int .u8 0]
 | 1 => #[.int .u8 ((n : Int) % 256), .int .u8 0, .int .u8 0, .int .u8 0]
 | 2 => #[.int .u8 ((n : Int) % 256), .int .u8 ((n : Int) / 256 % 256), .int .u8 0, .int .u8 0]
 | 3 => #[.int .u8 ((n : Int) % 256), .int .u8 ((n : Int) / 256 % 256), .int .u8 ((n : Int) / 65536 % 256), .int .u8 0]
 | _ => #[.int .u8 ((n : Int) % 256), .int .u8 ((n : Int) / 256 % 256), .int .u8 ((n : Int) / 65536 % 256), .int .u8 ((n : Int) / 16777216)]
set_option maxHeartbeats 400000 in
theorem tail_any (n : Nat) (w : World) (hn : n < 4294967296) :
  Calls Tryz.prog 95 #[.int .u32 (n : Int)] w fun e w' => e = .returned (.string ⟨(tail n).toArray⟩) ∧ Reg.Ext w w' := by
 have hmk : ∀ w, (Instr.makeSlice 84 (.int .i64 4) (.int .i64 4)).run Tryz.prog w = .ok (.slice (some ⟨w.heap.size, 0, none⟩) 4 4) (w.alloc (.cells #[.int .u8 0, .int .u8 0, .int .u8 0, .int .u8 0] 5)) := fun _ => by kernel_rfl
 go_enter Tryz.func95, Tryz.ntmps95
 go_wp2
 go_loopw [4, 8] (fun _ i wr => ∃ k : Nat, k ≤ 4 ∧ i = .int .i64 k ∧ wr = w.alloc (.cells (tcells n k) 5)) (fun _ i _ => 4 - (intOf i).toNat)
 case atStart => exact ⟨0, by omega, rfl, rfl⟩
 case round =>
  obtain ⟨k, hk, rfl, rfl⟩ := hrel
  rcases (by omega : k = 0 ∨ k = 1 ∨ k = 2 ∨ k = 3 ∨ k = 4) with rfl | rfl | rfl | rfl | rfl
  ·unfold tcells
   go_wp2
   go_roundw
   case rel => exact ⟨1, by omega, rfl, rfl⟩
   case measure => simp [intOf]
  ·unfold tcells
   go_wp2
   go_roundw
   case rel => exact ⟨2, by omega, rfl, rfl⟩
   case measure => simp [intOf]
  ·unfold tcells
   go_wp2
   go_roundw
   case rel => exact ⟨3, by omega, rfl, rfl⟩
   case measure => simp [intOf]
  ·unfold tcells
   go_wp2
   go_roundw
   case rel => exact ⟨4, by omega, rfl, rfl⟩
   case measure => simp [intOf]
  ·unfold tcells
   go_wp2
   rw [conv_bytes _ _ _ 5 Tryz.underlying84 Tryz.underlying5 Tryz.underlying9 _ _ 4 _ (tail n) rfl]
   ·go_wp2
    go_ret
    exact ⟨rfl, (Below.refl _ _).alloc (Nat.le_refl _) _⟩
   ·intro j hj
    have hj' : j < 4 := hj
    rcases (by omega : j = 0 ∨ j = 1 ∨ j = 2 ∨ j = 3) with rfl | rfl | rfl | rfl <;> simp [tail, byteV, go_sem] <;> omega

theorem Tab.lt {w : World} (h : Tab w) : 0 < w.heap.size := World.block_lt_of_cell? w _ (h 0 (by omega))
theorem Tab.below {w w' : World} (h : Tab w) (hb : Below w.heap.size w w') : Tab w' := fun i hi => by
 rw [hb.cell (p := ⟨0, i, none⟩) h.lt]; exact h i hi

def ofS (ss : List ByteArray) : Nat := ofParts (ss.map (·.data.toList))
theorem ofS_snoc (ss : List ByteArray) (s : ByteArray) : ofS (ss ++ [s]) = more (ofS ss) s.data.toList := by simp [ofS, ofParts]
theorem ofS_lt (ss : List ByteArray) : ofS ss < 4294967296 := by
 rcases List.eq_nil_or_concat ss with rfl | ⟨l, a, rfl⟩
 ·decide
 ·rw [List.concat_eq_append, ofS_snoc]; exact more_lt _ _

set_option maxHeartbeats 400000 in
theorem of_any (A : Option Addr) (n c : Nat) (ss : List ByteArray) (w : World) (hn : ss.length = n) (hm : n ≤ maxLen) (hr : Rd w A (ss.map strV)) (hz : ∀ s ∈ ss, s.size ≤ maxLen) (hT : Tab w) :
  Calls Tryz.prog 96 #[.slice A n c] w fun e w' => e = .returned (.int .u32 (ofS ss : Nat)) ∧ w = w' := by
 unfold maxLen at hm
 have HT := y_ hT
 have HR := y_ hr
 have HN := y_ hn
 have HZ := y_ hz
 clear hT hr hn hz
 go_enter Tryz.func96, Tryz.ntmps96
 go_wp2
 go_loop [2, 4, 7] (fun v _ i => ∃ k : Nat, k ≤ n ∧ i = .int .i64 k ∧ v = .int .u32 (ofS (ss.take k) : Nat)) (fun _ _ i => n - (intOf i).toNat)
 case atStart => exact ⟨0, Nat.zero_le _, rfl, rfl⟩
 case round =>
  obtain ⟨k, hk, rfl, rfl⟩ := hrel
  have hlt := ofS_lt (ss.take k)
  by_cases hkn : k < n
  ·have hkl : k < ss.length := by rw [HN.out]; exact hkn
   obtain ⟨ad, rfl, hb, hc⟩ := HR.out k (by simpa using hkl)
   have hc' : w.cell? (ad.add k) = some (.string ss[k]) := by simpa [strV] using hc
   have hsz : ss[k].size ≤ maxLen := HZ.out _ (List.getElem_mem hkl)
   have hsn : ofS (ss.take (k + 1)) = more (ofS (ss.take k)) (ss[k]).data.toList := by
    rw [List.take_succ_eq_append_getElem hkl, ofS_snoc]
   have HS := y_ hsn
   clear hsn hc hb
   generalize ss[k] = s at *
   generalize ofS (ss.take k) = r at *
   go_wp2_with (go_at_call 109; refine (more_any _ _ _ hlt hsz HT.out).mono ?_; rintro e w' ⟨rfl, rfl⟩)
   go_round
   case rel => exact ⟨k + 1, by omega, by go_num, by rw [HS.out]⟩
   case measure => simp [intOf]; omega
  ·have hke : ofS (ss.take k) = ofS ss := by rw [List.take_of_length_le (by rw [HN.out]; omega)]
   rw [hke]
   clear hke hlt
   go_wp2
   go_ret
   exact ⟨rfl, rfl⟩

end Crc
end Go.Proofs.YtafeealbdpmdkaaGreatDoor
/- A body's record: slip.framed; slip.within, slip.of. -/
namespace Go.Proofs.YtafeealbdpmdkaaGreatDoor
open Go.RowKit
namespace Slp
open CrcP (more tail)
def headB (n : Nat) : List UInt8 := [UInt8.ofNat (n / 256 % 256), UInt8.ofNat (n % 256)]
def frame (l : List UInt8) : List UInt8 := headB l.length ++ tail (more 0 (headB l.length ++ l)) ++ l
theorem lst (l : List UInt8) : (⟨l.toArray⟩ : ByteArray).data.toList = l := by simp
theorem siz (l : List UInt8) : (⟨l.toArray⟩ : ByteArray).size = l.length := by rw [← len_data, lst]
theorem of_pair (a b : ByteArray) : Crc.ofS [a, b] = more 0 (a.data.toList ++ b.data.toList) := by
 simp [Crc.ofS, CrcP.ofParts, CrcP.more_append]
set_option maxHeartbeats 2000000 in
theorem framed_any (s : ByteArray) (w : World) (hs : s.size ≤ 1048576) (hT : Crc.Tab w) :
  Calls Tryz.prog 75 #[.string s] w fun e w' => e = .returned (.string ⟨(frame s.data.toList).toArray⟩) ∧ Reg.Ext w w' := by
 have HT := y_ hT
 clear hT
 obtain ⟨h0, hh0⟩ : ∃ h, h = headB s.size := ⟨_, rfl⟩
 have hx1 := Reg.Ext.alloc w (Obj.cells #[Value.int .u8 ((s.size : Int) / 256 % 256), Value.int .u8 ((s.size : Int) % 256)] 5)
 have hk1 := Blk.new w 5 #[Value.int .u8 ((s.size : Int) / 256 % 256), Value.int .u8 ((s.size : Int) % 256)]
 have ha : (UInt8.ofNat (s.size / 256 % 256)).toNat = s.size / 256 % 256 := UInt8.toNat_ofNat_of_lt' (by show _ < 256; omega)
 have hb : (UInt8.ofNat (s.size % 256)).toNat = s.size % 256 := UInt8.toNat_ofNat_of_lt' (by show _ < 256; omega)
 have hcv := conv_bytes (P := Tryz.prog) (w.alloc (Obj.cells #[Value.int .u8 ((s.size : Int) / 256 % 256), Value.int .u8 ((s.size : Int) % 256)] 5)) 84 9 5 Tryz.underlying84 Tryz.underlying5 Tryz.underlying9 w.heap.size 0 2 2 h0 (by rw [hh0]; rfl) (by
  intro j hj
  rw [hh0] at hj
  subst hh0
  match j, hj with
  | 0, _ => rw [hk1.cell]; simp [headB, byteV, ha]
  | 1, _ => rw [hk1.cell]; simp [headB, byteV, hb])
 have HX1 := y_ hx1
 clear hx1 hk1 ha hb
 go_enter Tryz.func75, Tryz.ntmps75
 go_wp2_with fail
 clear hcv
 have hs1 : (w.alloc (Obj.cells #[Value.int .u8 ((s.size : Int) / 256 % 256), Value.int .u8 ((s.size : Int) % 256)] 5)).heap.size = w.heap.size + 1 := Array.size_push _
 generalize w.alloc (Obj.cells #[Value.int .u8 ((s.size : Int) / 256 % 256), Value.int .u8 ((s.size : Int) % 256)] 5) = w1 at *
 obtain ⟨H0, hH0⟩ : ∃ H0 : ByteArray, H0 = ⟨(headB s.size).toArray⟩ := ⟨_, rfl⟩
 have hHs : H0.size = 2 := by rw [hH0, siz]; rfl
 have HHL := y_ (show H0.data.toList = headB s.size by rw [hH0])
 rw [← hH0]
 clear hH0 hh0
 have hr := Rd.new w1 9 #[strV H0, strV s]
 rw [hs1] at hr
 have HX2 := y_ (HX1.out.trans (Reg.Ext.alloc w1 (Obj.cells #[Value.string H0, Value.string s] 9)))
 have hT2 := HT.out.below HX2.out
 clear HX1 hs1
 have hv := of_pair H0 s
 have hlt : more 0 (H0.data.toList ++ s.data.toList) < 4294967296 := CrcP.more_lt _ _
 refine (Crc.of_any _ 2 2 [H0, s] _ rfl (by decide) hr (fun x hx => by
  rcases List.mem_cons.1 hx with rfl | hx
  ·exact maxLen_of (by omega)
  ·rw [List.mem_singleton.1 hx]; exact maxLen_of (by omega)) hT2).mono ?_
 rintro e w2 ⟨rfl, rfl⟩
 rw [hv]
 have HV : Hid (frame s.data.toList = H0.data.toList ++ tail (more 0 (H0.data.toList ++ s.data.toList)) ++ s.data.toList) := by
  show frame _ = _
  unfold frame
  rw [len_data, HHL.out]
 generalize more 0 (H0.data.toList ++ s.data.toList) = m at *
 clear hr hv HT hT2
 go_wp2_with fail
 refine (Crc.tail_any m _ hlt).mono ?_
 rintro e w3 ⟨rfl, x3⟩
 have HX3 := y_ (HX2.out.trans x3)
 clear x3 HX2
 obtain ⟨T4, hT4⟩ : ∃ T4 : ByteArray, T4 = ⟨(tail m).toArray⟩ := ⟨_, rfl⟩
 have hTs : T4.size = 4 := by rw [hT4, siz]; rfl
 have HTL := y_ (show T4.data.toList = tail m by rw [hT4])
 rw [← hT4]
 have HW : Hid ((⟨(frame s.data.toList).toArray⟩ : ByteArray) = H0 ++ T4 ++ s) := by
  show _ = _
  exact ba_ext (by rw [lst, HV.out, ← HTL.out]; simp)
 clear hT4
 go_wp2_with fail
 go_ret
 exact ⟨by rw [HW.out]; rfl, HX3.out⟩
end Slp
end Go.Proofs.YtafeealbdpmdkaaGreatDoor
/- The walk of slip.Write. -/
namespace Go.Proofs.YtafeealbdpmdkaaGreatDoor
open Go.RowKit
namespace Slp
open Bld (Is be8 len1)
def body (x : S) : List UInt8 := [UInt8.ofNat x.k.toNat] ++ (if (flds x.k).names then (len1 x.repo :: x.repo.data.toList) ++ (len1 x.tag :: x.tag.data.toList) else []) ++ (if (flds x.k).digest then x.dig else [])
 ++ (if (flds x.k).thing then (len1 x.typ :: x.typ.data.toList) ++ be8 x.size.toNat else []) ++ (if (flds x.k).at_ then be8 x.at_.toNat else [])
theorem good_bounds {x : S} (h : good x = true) : known x.k = true ∧ ((flds x.k).names = true → x.repo.size ≤ 128 ∧ x.tag.size ≤ 128) ∧ x.typ.size ≤ 100 ∧ 0 ≤ x.size ∧ x.size ≤ 1048576 ∧ 0 ≤ x.at_ ∧ x.at_ ≤ 1099511627776 := by
 unfold good bounds names128 at h
 simp only [Bool.and_eq_true, Bool.or_eq_true, Bool.not_eq_true', decide_eq_true_eq] at h
 obtain ⟨h1, -, h3, h4, h5, h6⟩ := h
 refine ⟨h1, fun hn => ?_, h4, h5.1, h5.2, h6.1, h6.2⟩
 rcases h3 with h3 | h3
 ·rw [hn] at h3; cases h3
 ·exact ⟨h3.1.2, h3.2.2⟩
set_option maxRecDepth 100000 in
set_option maxHeartbeats 4000000 in
theorem write_bad (x : S) (hx : x.dig.length = 32) (hg : good x = false) (w : World) :
  Calls Tryz.prog 50 #[.agg x.cells.toArray] w fun e w' => e = .returned (.tuple #[.string ⟨#[]⟩, .int .i64 1]) ∧ Reg.Ext w w' := by
 have hb1 := boxS w x
 have hx1 := Reg.Ext.alloc w (Obj.cells x.cells.toArray 39)
 have CG := y_ (good_any x hx)
 rw [hg] at CG
 go_enter Tryz.func50, Tryz.ntmps50
 go_upto_region 1 with (fail)
 generalize w.alloc (Obj.cells x.cells.toArray 39) = w1 at *
 refine wp_region_lit ?_
 refine wpList_load_row rfl 39 _ rfl w.heap.size rfl 39 x.cells.toArray (0, 0) _ hb1 undS rfl (by rw [z_a, cells_length x hx]; exact size38) ?_
 simp only [z_1, z_2, z_3, z_4, z_5, z_b, z_6, z_7, z_8, z_9, z_0]
 clear hb1
 go_wp2_with fail
 refine (CG.out _).mono ?_
 rintro e w2 ⟨rfl, x2⟩
 have X := y_ (hx1.trans x2)
 clear x2 hx1
 go_wp2_with fail
 go_ret2
 exact ⟨rfl, X.out⟩
end Slp
end Go.Proofs.YtafeealbdpmdkaaGreatDoor
/- Numbers of bytes, the highest byte first; what a scan takes, as plain Lean. -/
namespace Go.Proofs.YtafeealbdpmdkaaGreatDoor
open Go.RowKit
namespace Slp
def fromB (m : List UInt8) : Nat := m.foldl (fun n c => n * 256 + c.toNat) 0
theorem fromB_snoc (m : List UInt8) (c : UInt8) : fromB (m ++ [c]) = fromB m * 256 + c.toNat := by simp [fromB]
theorem fromB_lt (m : List UInt8) : fromB m < 256 ^ m.length := by
 suffices ∀ r : List UInt8, fromB r.reverse < 256 ^ r.length by simpa using this m.reverse
 intro r
 induction r with
 | nil => exact Nat.one_pos
 | cons c r ih =>
   rw [List.reverse_cons, fromB_snoc, List.length_cons, Nat.pow_succ]
   have := c.toNat_lt
   omega
theorem or_low (n c : Nat) (hn : n < 72057594037927936) (hc : c < 256) : Go.bits .or .u64 ((n : Int) * 256) (c : Int) = (n : Int) * 256 + (c : Int) := by
 have h := u64_or_nat (n * 256) c (by omega) (by omega)
 have e : n * 256 ||| c = n * 256 + c := by
  have := Nat.shiftLeft_add_eq_or_of_lt (show c < 2 ^ 8 by omega) n
  rw [Nat.shiftLeft_eq, show (2 : Nat) ^ 8 = 256 from rfl] at this
  exact this.symm
 rw [e] at h
 simpa using h
/-- what is still to be read; none: the body is bad -/
abbrev Sc := Option (List UInt8)
def take (n : Nat) : Sc → List UInt8 × Sc
 | none => ([], none)
 | some l => if n ≤ l.length then (l.take n, some (l.drop n)) else ([], none)
def nextB (s : Sc) : Nat × Sc := ((take 1 s).1.headD 0 |>.toNat, (take 1 s).2)
def textS (s : Sc) : List UInt8 × Sc := take (nextB s).1 (nextB s).2
def numS (s : Sc) : Nat × Sc := if fromB (take 8 s).1 ≤ 1099511627776 then (fromB (take 8 s).1, (take 8 s).2) else (0, none)
theorem take_ok {n : Nat} {l : List UInt8} (h : n ≤ l.length) : take n (some l) = (l.take n, some (l.drop n)) := by simp [take, h]
theorem take_no {n : Nat} {l : List UInt8} (h : ¬ n ≤ l.length) : take n (some l) = ([], none) := by simp [take, h]
theorem take_len (n : Nat) (s : Sc) : (take n s).1.length = n ∨ (take n s).1 = [] := by
 cases s with
 | none => right; rfl
 | some l => by_cases h : n ≤ l.length
             ·left; rw [take_ok h]; simp; omega
             ·right; rw [take_no h]
theorem nextB_lt (s : Sc) : (nextB s).1 < 256 := UInt8.toNat_lt _
end Slp
end Go.Proofs.YtafeealbdpmdkaaGreatDoor
/- The walk of slip.Write, of a slip that can be. -/
namespace Go.Proofs.YtafeealbdpmdkaaGreatDoor
open Go.RowKit
namespace Slp
open Bld (Is be8 len1)
theorem Is_drew {B b : Nat} {l : List UInt8} {w : World} (h : Is B b l w) : Is B b l w.drew := h
theorem kind_byte {k : Int} (h : known k = true) : k % 256 = ((UInt8.ofNat k.toNat).toNat : Int) ∧ k % 256 = k := by
 unfold known at h
 rw [decide_eq_true_iff] at h
 rcases (by omega : k = 1 ∨ k = 2 ∨ k = 3 ∨ k = 4 ∨ k = 5 ∨ k = 6) with rfl | rfl | rfl | rfl | rfl | rfl <;> decide
theorem be8_len (n : Nat) : (be8 n).length = 8 := by simp [be8]
set_option maxRecDepth 100000 in
set_option maxHeartbeats 1000000 in
theorem write_ok (x : S) (hx : x.dig.length = 32) (hg : good x = true) (w : World) (hT : Crc.Tab w) :
  Calls Tryz.prog 50 #[.agg x.cells.toArray] w fun e w' => e = .returned (.tuple #[.string ⟨(frame (body x)).toArray⟩, .int .i64 0]) ∧ Reg.Ext w w' := by
 have HT := y_ hT
 obtain ⟨hk, hnm, ht100, hs0, hs1, ha0, ha1⟩ := good_bounds hg
 have hb1 := boxS w x
 have hx1 := Reg.Ext.alloc w (Obj.cells x.cells.toArray 39)
 have CG := y_ (good_any x hx)
 rw [hg] at CG
 have CO := y_ (of_any x.k)
 rw [hk] at CO
 have hkb := kind_byte hk
 have hfk := flds_known hk
 have HBD := y_ (show body x = body x from rfl)
 go_enter Tryz.func50, Tryz.ntmps50
 go_upto_region 1 with (fail)
 generalize w.alloc (Obj.cells x.cells.toArray 39) = w1 at *
 generalize hg1 : w.heap.size = g1 at *
 refine wp_region_lit ?_
 refine wpList_load_row rfl 39 _ rfl g1 rfl 39 x.cells.toArray (0, 0) _ hb1 undS rfl (by rw [z_a, cells_length x hx]; exact size38) ?_
 simp only [z_1, z_2, z_3, z_4, z_5, z_b, z_6, z_7, z_8, z_9, z_0]
 have H1 := y_ hb1
 have X := y_ hx1
 clear hb1 hx1 hT hg
 go_wp2_with fail
 refine (CG.out _).mono ?_
 rintro e w2 ⟨rfl, x2⟩
 have X := y_ (X.out.trans x2)
 have H1 := y_ (H1.out.ext x2)
 have c0 : w2.cell? ⟨g1, 0, none⟩ = some (.int .i64 x.k) := H1.out.cell 0
 clear x2 CG
 go_wp2_with fail
 refine (CO.out _).mono ?_
 rintro e w3 ⟨rfl, x3⟩
 have X := y_ (X.out.trans x3)
 have H1 := y_ (H1.out.ext x3)
 have c0 : w3.cell? ⟨g1, 0, none⟩ = some (.int .i64 x.k) := H1.out.cell 0
 clear x3 CO
 obtain ⟨f, hf⟩ : ∃ f, f = flds x.k := ⟨_, rfl⟩
 rw [← hf] at hfk hnm ⊢
 have HFL := y_ hf
 clear hf
 rcases hfk with rfl | rfl | rfl | rfl | rfl
 ·have hnm' := hnm rfl
  rw [show (F.cells ⟨true, true, true, true⟩) = [.bool true, .bool true, .bool true, .bool true] from rfl]
  go_wp2_with fail
  have hb4 : Blk (w3.alloc (Obj.cells #[Value.bool true, Value.bool true, Value.bool true, Value.bool true] 114)) w3.heap.size 114 [.bool true, .bool true, .bool true, .bool true] := Blk.new w3 114 #[Value.bool true, Value.bool true, Value.bool true, Value.bool true]
  have hx4 := Reg.Ext.alloc w3 (Obj.cells #[Value.bool true, Value.bool true, Value.bool true, Value.bool true] 114)
  have hs4 : (w3.alloc (Obj.cells #[Value.bool true, Value.bool true, Value.bool true, Value.bool true] 114)).heap.size = w3.heap.size + 1 := Array.size_push _
  have lt1 := H1.out.lt
  have ltx := X.out.size
  generalize w3.alloc (Obj.cells #[Value.bool true, Value.bool true, Value.bool true, Value.bool true] 114) = w4 at *
  have hp := Lib.fresh_isBuilder 122 5 w4
  have hx5 := Reg.Ext.alloc w4 (Obj.cells #[Value.pointer none, Value.slice none 0 0] 122)
  generalize w4.alloc (Obj.cells #[Value.pointer none, Value.slice none 0 0] 122) = w5 at *
  rw [hs4] at hp
  have hbw := hx5.size
  rw [hs4] at hbw
  have H1 := y_ ((H1.out.ext hx4).ext hx5)
  have H4 := y_ (hb4.ext hx5)
  have X := y_ ((X.out.trans hx4).trans hx5)
  have c0 : w5.cell? ⟨g1, 0, none⟩ = some (.int .i64 x.k) := H1.out.cell 0
  clear hb4 hx4 hs4 hx5
  generalize hg4 : w3.heap.size = g4 at *
  generalize hg6 : g4 + 1 = g6 at *
  have l16 : g1 < g6 := by omega
  have l46 : g4 < g6 := by omega
  have lw6 : w.heap.size ≤ g6 := by omega
  clear hg4 hg6 lt1 ltx
  have hkm := hkb.2
  go_still_tail 6, (by kernel_rfl)
  change wpList _ _ _ _ _ w5.drew
  repeat go_step
  refine ((show Is g6 g6 [] w5.drew from hp).byte (UInt8.ofNat x.k.toNat) _ (by first | exact hkb.1 | (rw [hkb.2]; exact hkb.2.symm.trans hkb.1) | (rw [← hkb.1, hkb.2])) (by simp) hbw).mono ?_
  rintro e wi ⟨rfl, hj, bj⟩
  have HP := y_ hj
  have HW : Hid (Below g6 w5 wi) := ((Below.refl g6 w5).drew).trans bj
  clear hj bj hp hkm c0
  rw [List.nil_append] at HP
  have hX := H1.out.below HW.out l16
  have hF := H4.out.below HW.out l46
  have p0 : wi.cell? ⟨g4, 0, none⟩ = some (.bool true) := hF.cell 0
  have p1 : wi.cell? ⟨g4, 1, none⟩ = some (.bool true) := hF.cell 1
  have p2 : wi.cell? ⟨g4, 2, none⟩ = some (.bool true) := hF.cell 2
  have p3 : wi.cell? ⟨g4, 3, none⟩ = some (.bool true) := hF.cell 3
  have q1 : wi.cell? ⟨g1, 1, none⟩ = some (.string x.repo) := hX.cell 1
  have q2 : wi.cell? ⟨g1, 2, none⟩ = some (.string x.tag) := hX.cell 2
  have q35 : wi.cell? ⟨g1, 35, none⟩ = some (.string x.typ) := by rw [hX.cell, at35 x hx]
  have q36 : wi.cell? ⟨g1, 36, none⟩ = some (.int .i64 x.size) := by rw [hX.cell, at36 x hx]
  have q37 : wi.cell? ⟨g1, 37, none⟩ = some (.int .i64 x.at_) := by rw [hX.cell, at37 x hx]
  have hB := HW.out.size
  clear hX hF
  go_wp2_with fail
  refine (Bld.text_any g6 g6 _ x.repo wi HP.out (by simp only [List.length_append, List.length_cons, List.length_nil, len_data, hx, be8_len]; omega) (Nat.le_trans hbw hB)).mono ?_
  rintro e wj ⟨rfl, hj, bj⟩
  have HPn := y_ hj
  have HWn := y_ (HW.out.trans bj)
  clear hj bj HP HW p0 p1 p2 p3 q1 q2 q35 q36 q37 hB
  clear wi
  have HP := HPn
  have HW := HWn
  clear HPn HWn
  generalize wj = wi at *
  have hX := H1.out.below HW.out l16
  have hF := H4.out.below HW.out l46
  have p0 : wi.cell? ⟨g4, 0, none⟩ = some (.bool true) := hF.cell 0
  have p1 : wi.cell? ⟨g4, 1, none⟩ = some (.bool true) := hF.cell 1
  have p2 : wi.cell? ⟨g4, 2, none⟩ = some (.bool true) := hF.cell 2
  have p3 : wi.cell? ⟨g4, 3, none⟩ = some (.bool true) := hF.cell 3
  have q1 : wi.cell? ⟨g1, 1, none⟩ = some (.string x.repo) := hX.cell 1
  have q2 : wi.cell? ⟨g1, 2, none⟩ = some (.string x.tag) := hX.cell 2
  have q35 : wi.cell? ⟨g1, 35, none⟩ = some (.string x.typ) := by rw [hX.cell, at35 x hx]
  have q36 : wi.cell? ⟨g1, 36, none⟩ = some (.int .i64 x.size) := by rw [hX.cell, at36 x hx]
  have q37 : wi.cell? ⟨g1, 37, none⟩ = some (.int .i64 x.at_) := by rw [hX.cell, at37 x hx]
  have hB := HW.out.size
  clear hX hF
  go_wp2_with fail
  refine (Bld.text_any g6 g6 _ x.tag wi HP.out (by simp only [List.length_append, List.length_cons, List.length_nil, len_data, hx, be8_len]; omega) (Nat.le_trans hbw hB)).mono ?_
  rintro e wj ⟨rfl, hj, bj⟩
  have HPn := y_ hj
  have HWn := y_ (HW.out.trans bj)
  clear hj bj HP HW p0 p1 p2 p3 q1 q2 q35 q36 q37 hB
  clear wi
  have HP := HPn
  have HW := HWn
  clear HPn HWn
  generalize wj = wi at *
  have hX := H1.out.below HW.out l16
  have hF := H4.out.below HW.out l46
  have p0 : wi.cell? ⟨g4, 0, none⟩ = some (.bool true) := hF.cell 0
  have p1 : wi.cell? ⟨g4, 1, none⟩ = some (.bool true) := hF.cell 1
  have p2 : wi.cell? ⟨g4, 2, none⟩ = some (.bool true) := hF.cell 2
  have p3 : wi.cell? ⟨g4, 3, none⟩ = some (.bool true) := hF.cell 3
  have q1 : wi.cell? ⟨g1, 1, none⟩ = some (.string x.repo) := hX.cell 1
  have q2 : wi.cell? ⟨g1, 2, none⟩ = some (.string x.tag) := hX.cell 2
  have q35 : wi.cell? ⟨g1, 35, none⟩ = some (.string x.typ) := by rw [hX.cell, at35 x hx]
  have q36 : wi.cell? ⟨g1, 36, none⟩ = some (.int .i64 x.size) := by rw [hX.cell, at36 x hx]
  have q37 : wi.cell? ⟨g1, 37, none⟩ = some (.int .i64 x.at_) := by rw [hX.cell, at37 x hx]
  have hB := HW.out.size
  clear hX hF
  have hcv : (convert 84 9 (.slice (some ⟨g1, 3, none⟩) 32 32)).run Tryz.prog wi.drew = .ok (.string ⟨x.dig.toArray⟩) wi.drew := by
   refine conv_bytes wi.drew 84 9 5 Tryz.underlying84 Tryz.underlying5 Tryz.underlying9 g1 3 32 32 x.dig hx ?_
   intro j hj
   exact range_dig (H1.out.below HW.out l16) j (byteV x.dig[j]) (by rw [List.getElem?_map, List.getElem?_eq_getElem hj]; rfl)
  go_wp2_with fail
  have hal : Tryz.prog.arrayLen 37 = 32 := by as_aux_lemma => kernel_rfl
  go_still_tail 6, (by kernel_rfl)
  change wpList _ _ _ _ _ wi.drew
  clear hcv hal
  repeat go_step
  refine ((Is_drew HP.out).str ⟨x.dig.toArray⟩ (by rw [siz]; simp only [List.length_append, List.length_cons, List.length_nil, len_data, hx, be8_len]; omega) (Nat.le_trans hbw hB)).mono ?_
  rintro e wj ⟨rfl, hj, bj⟩
  rw [lst x.dig] at hj
  have HPn := y_ hj
  have HWn := y_ ((HW.out.drew).trans bj)
  clear hj bj HP HW p0 p1 p2 p3 q1 q2 q35 q36 q37 hB
  clear wi
  have HP := HPn
  have HW := HWn
  clear HPn HWn
  generalize wj = wi at *
  have hX := H1.out.below HW.out l16
  have hF := H4.out.below HW.out l46
  have p0 : wi.cell? ⟨g4, 0, none⟩ = some (.bool true) := hF.cell 0
  have p1 : wi.cell? ⟨g4, 1, none⟩ = some (.bool true) := hF.cell 1
  have p2 : wi.cell? ⟨g4, 2, none⟩ = some (.bool true) := hF.cell 2
  have p3 : wi.cell? ⟨g4, 3, none⟩ = some (.bool true) := hF.cell 3
  have q1 : wi.cell? ⟨g1, 1, none⟩ = some (.string x.repo) := hX.cell 1
  have q2 : wi.cell? ⟨g1, 2, none⟩ = some (.string x.tag) := hX.cell 2
  have q35 : wi.cell? ⟨g1, 35, none⟩ = some (.string x.typ) := by rw [hX.cell, at35 x hx]
  have q36 : wi.cell? ⟨g1, 36, none⟩ = some (.int .i64 x.size) := by rw [hX.cell, at36 x hx]
  have q37 : wi.cell? ⟨g1, 37, none⟩ = some (.int .i64 x.at_) := by rw [hX.cell, at37 x hx]
  have hB := HW.out.size
  clear hX hF
  go_wp2_with fail
  refine (Bld.text_any g6 g6 _ x.typ wi HP.out (by simp only [List.length_append, List.length_cons, List.length_nil, len_data, hx, be8_len]; omega) (Nat.le_trans hbw hB)).mono ?_
  rintro e wj ⟨rfl, hj, bj⟩
  have HPn := y_ hj
  have HWn := y_ (HW.out.trans bj)
  clear hj bj HP HW p0 p1 p2 p3 q1 q2 q35 q36 q37 hB
  clear wi
  have HP := HPn
  have HW := HWn
  clear HPn HWn
  generalize wj = wi at *
  have hX := H1.out.below HW.out l16
  have hF := H4.out.below HW.out l46
  have p0 : wi.cell? ⟨g4, 0, none⟩ = some (.bool true) := hF.cell 0
  have p1 : wi.cell? ⟨g4, 1, none⟩ = some (.bool true) := hF.cell 1
  have p2 : wi.cell? ⟨g4, 2, none⟩ = some (.bool true) := hF.cell 2
  have p3 : wi.cell? ⟨g4, 3, none⟩ = some (.bool true) := hF.cell 3
  have q1 : wi.cell? ⟨g1, 1, none⟩ = some (.string x.repo) := hX.cell 1
  have q2 : wi.cell? ⟨g1, 2, none⟩ = some (.string x.tag) := hX.cell 2
  have q35 : wi.cell? ⟨g1, 35, none⟩ = some (.string x.typ) := by rw [hX.cell, at35 x hx]
  have q36 : wi.cell? ⟨g1, 36, none⟩ = some (.int .i64 x.size) := by rw [hX.cell, at36 x hx]
  have q37 : wi.cell? ⟨g1, 37, none⟩ = some (.int .i64 x.at_) := by rw [hX.cell, at37 x hx]
  have hB := HW.out.size
  clear hX hF
  obtain ⟨nn, hnn⟩ : ∃ nn : Nat, x.size = (nn : Int) := ⟨(x.size).toNat, by omega⟩
  rw [hnn] at q36
  go_wp2_with fail
  refine (Bld.number_any g6 g6 _ nn wi HP.out (by omega) (by simp only [List.length_append, List.length_cons, List.length_nil, len_data, hx, be8_len]; omega) (Nat.le_trans hbw hB)).mono ?_
  rintro e wj ⟨rfl, hj, bj⟩
  rw [show be8 nn = be8 (x.size).toNat by rw [hnn]; rfl] at hj
  have HPn := y_ hj
  have HWn := y_ (HW.out.trans bj)
  clear hj bj HP HW p0 p1 p2 p3 q1 q2 q35 q36 q37 hB hnn
  clear wi
  have HP := HPn
  have HW := HWn
  clear HPn HWn
  generalize wj = wi at *
  have hX := H1.out.below HW.out l16
  have hF := H4.out.below HW.out l46
  have p0 : wi.cell? ⟨g4, 0, none⟩ = some (.bool true) := hF.cell 0
  have p1 : wi.cell? ⟨g4, 1, none⟩ = some (.bool true) := hF.cell 1
  have p2 : wi.cell? ⟨g4, 2, none⟩ = some (.bool true) := hF.cell 2
  have p3 : wi.cell? ⟨g4, 3, none⟩ = some (.bool true) := hF.cell 3
  have q1 : wi.cell? ⟨g1, 1, none⟩ = some (.string x.repo) := hX.cell 1
  have q2 : wi.cell? ⟨g1, 2, none⟩ = some (.string x.tag) := hX.cell 2
  have q35 : wi.cell? ⟨g1, 35, none⟩ = some (.string x.typ) := by rw [hX.cell, at35 x hx]
  have q36 : wi.cell? ⟨g1, 36, none⟩ = some (.int .i64 x.size) := by rw [hX.cell, at36 x hx]
  have q37 : wi.cell? ⟨g1, 37, none⟩ = some (.int .i64 x.at_) := by rw [hX.cell, at37 x hx]
  have hB := HW.out.size
  clear hX hF
  obtain ⟨nn, hnn⟩ : ∃ nn : Nat, x.at_ = (nn : Int) := ⟨(x.at_).toNat, by omega⟩
  rw [hnn] at q37
  go_wp2_with fail
  refine (Bld.number_any g6 g6 _ nn wi HP.out (by omega) (by simp only [List.length_append, List.length_cons, List.length_nil, len_data, hx, be8_len]; omega) (Nat.le_trans hbw hB)).mono ?_
  rintro e wj ⟨rfl, hj, bj⟩
  rw [show be8 nn = be8 (x.at_).toNat by rw [hnn]; rfl] at hj
  have HPn := y_ hj
  have HWn := y_ (HW.out.trans bj)
  clear hj bj HP HW p0 p1 p2 p3 q1 q2 q35 q36 q37 hB hnn
  clear wi
  have HP := HPn
  have HW := HWn
  clear HPn HWn
  generalize wj = wi at *
  have hX := H1.out.below HW.out l16
  have hF := H4.out.below HW.out l46
  have p0 : wi.cell? ⟨g4, 0, none⟩ = some (.bool true) := hF.cell 0
  have p1 : wi.cell? ⟨g4, 1, none⟩ = some (.bool true) := hF.cell 1
  have p2 : wi.cell? ⟨g4, 2, none⟩ = some (.bool true) := hF.cell 2
  have p3 : wi.cell? ⟨g4, 3, none⟩ = some (.bool true) := hF.cell 3
  have q1 : wi.cell? ⟨g1, 1, none⟩ = some (.string x.repo) := hX.cell 1
  have q2 : wi.cell? ⟨g1, 2, none⟩ = some (.string x.tag) := hX.cell 2
  have q35 : wi.cell? ⟨g1, 35, none⟩ = some (.string x.typ) := by rw [hX.cell, at35 x hx]
  have q36 : wi.cell? ⟨g1, 36, none⟩ = some (.int .i64 x.size) := by rw [hX.cell, at36 x hx]
  have q37 : wi.cell? ⟨g1, 37, none⟩ = some (.int .i64 x.at_) := by rw [hX.cell, at37 x hx]
  have hB := HW.out.size
  clear hX hF
  go_wp2_with fail
  refine (HP.out.out (by simp)).mono ?_
  rintro e wj ⟨rfl, bj⟩
  have XJ := y_ (Below.trans X.out (Below.mono (HW.out.trans bj) lw6))
  clear bj p0 p1 p2 p3 q1 q2 q35 q36 q37 hB HW HP H1 H4 X
  have hT := HT.out.below XJ.out
  have hbody : body x = (UInt8.ofNat x.k.toNat :: len1 x.repo :: (x.repo.data.toList ++ len1 x.tag :: (x.tag.data.toList ++ (x.dig ++ len1 x.typ :: (x.typ.data.toList ++ (be8 x.size.toNat ++ be8 x.at_.toNat)))))) := by unfold body; rw [← HFL.out]; simp
  have CF : Hid (Calls Tryz.prog 75 #[.string ⟨((UInt8.ofNat x.k.toNat :: len1 x.repo :: (x.repo.data.toList ++ len1 x.tag :: (x.tag.data.toList ++ (x.dig ++ len1 x.typ :: (x.typ.data.toList ++ (be8 x.size.toNat ++ be8 x.at_.toNat))))))).toArray⟩] wj fun e w' => e = .returned (.string ⟨(frame (body x)).toArray⟩) ∧ Reg.Ext wj w') := by
   have h := framed_any ⟨((UInt8.ofNat x.k.toNat :: len1 x.repo :: (x.repo.data.toList ++ len1 x.tag :: (x.tag.data.toList ++ (x.dig ++ len1 x.typ :: (x.typ.data.toList ++ (be8 x.size.toNat ++ be8 x.at_.toNat))))))).toArray⟩ wj (by rw [siz]; simp only [List.length_append, List.length_cons, List.length_nil, len_data, hx, be8_len]; omega) hT
   rw [lst] at h
   rw [hbody]
   exact h
  clear hbody hT
  go_wp2_with fail
  refine (CF.out).mono ?_
  rintro e wk ⟨rfl, xk⟩
  have XK := y_ ((show Reg.Ext w wj from XJ.out).trans xk)
  clear xk CF XJ
  go_wp2_with fail
  go_ret2
  exact ⟨rfl, XK.out⟩
 ·have hnm' := hnm rfl
  rw [show (F.cells ⟨true, false, false, true⟩) = [.bool true, .bool false, .bool false, .bool true] from rfl]
  go_wp2_with fail
  have hb4 : Blk (w3.alloc (Obj.cells #[Value.bool true, Value.bool false, Value.bool false, Value.bool true] 114)) w3.heap.size 114 [.bool true, .bool false, .bool false, .bool true] := Blk.new w3 114 #[Value.bool true, Value.bool false, Value.bool false, Value.bool true]
  have hx4 := Reg.Ext.alloc w3 (Obj.cells #[Value.bool true, Value.bool false, Value.bool false, Value.bool true] 114)
  have hs4 : (w3.alloc (Obj.cells #[Value.bool true, Value.bool false, Value.bool false, Value.bool true] 114)).heap.size = w3.heap.size + 1 := Array.size_push _
  have lt1 := H1.out.lt
  have ltx := X.out.size
  generalize w3.alloc (Obj.cells #[Value.bool true, Value.bool false, Value.bool false, Value.bool true] 114) = w4 at *
  have hp := Lib.fresh_isBuilder 122 5 w4
  have hx5 := Reg.Ext.alloc w4 (Obj.cells #[Value.pointer none, Value.slice none 0 0] 122)
  generalize w4.alloc (Obj.cells #[Value.pointer none, Value.slice none 0 0] 122) = w5 at *
  rw [hs4] at hp
  have hbw := hx5.size
  rw [hs4] at hbw
  have H1 := y_ ((H1.out.ext hx4).ext hx5)
  have H4 := y_ (hb4.ext hx5)
  have X := y_ ((X.out.trans hx4).trans hx5)
  have c0 : w5.cell? ⟨g1, 0, none⟩ = some (.int .i64 x.k) := H1.out.cell 0
  clear hb4 hx4 hs4 hx5
  generalize hg4 : w3.heap.size = g4 at *
  generalize hg6 : g4 + 1 = g6 at *
  have l16 : g1 < g6 := by omega
  have l46 : g4 < g6 := by omega
  have lw6 : w.heap.size ≤ g6 := by omega
  clear hg4 hg6 lt1 ltx
  have hkm := hkb.2
  go_still_tail 6, (by kernel_rfl)
  change wpList _ _ _ _ _ w5.drew
  repeat go_step
  refine ((show Is g6 g6 [] w5.drew from hp).byte (UInt8.ofNat x.k.toNat) _ (by first | exact hkb.1 | (rw [hkb.2]; exact hkb.2.symm.trans hkb.1) | (rw [← hkb.1, hkb.2])) (by simp) hbw).mono ?_
  rintro e wi ⟨rfl, hj, bj⟩
  have HP := y_ hj
  have HW : Hid (Below g6 w5 wi) := ((Below.refl g6 w5).drew).trans bj
  clear hj bj hp hkm c0
  rw [List.nil_append] at HP
  have hX := H1.out.below HW.out l16
  have hF := H4.out.below HW.out l46
  have p0 : wi.cell? ⟨g4, 0, none⟩ = some (.bool true) := hF.cell 0
  have p1 : wi.cell? ⟨g4, 1, none⟩ = some (.bool false) := hF.cell 1
  have p2 : wi.cell? ⟨g4, 2, none⟩ = some (.bool false) := hF.cell 2
  have p3 : wi.cell? ⟨g4, 3, none⟩ = some (.bool true) := hF.cell 3
  have q1 : wi.cell? ⟨g1, 1, none⟩ = some (.string x.repo) := hX.cell 1
  have q2 : wi.cell? ⟨g1, 2, none⟩ = some (.string x.tag) := hX.cell 2
  have q35 : wi.cell? ⟨g1, 35, none⟩ = some (.string x.typ) := by rw [hX.cell, at35 x hx]
  have q36 : wi.cell? ⟨g1, 36, none⟩ = some (.int .i64 x.size) := by rw [hX.cell, at36 x hx]
  have q37 : wi.cell? ⟨g1, 37, none⟩ = some (.int .i64 x.at_) := by rw [hX.cell, at37 x hx]
  have hB := HW.out.size
  clear hX hF
  go_wp2_with fail
  refine (Bld.text_any g6 g6 _ x.repo wi HP.out (by simp only [List.length_append, List.length_cons, List.length_nil, len_data, hx, be8_len]; omega) (Nat.le_trans hbw hB)).mono ?_
  rintro e wj ⟨rfl, hj, bj⟩
  have HPn := y_ hj
  have HWn := y_ (HW.out.trans bj)
  clear hj bj HP HW p0 p1 p2 p3 q1 q2 q35 q36 q37 hB
  clear wi
  have HP := HPn
  have HW := HWn
  clear HPn HWn
  generalize wj = wi at *
  have hX := H1.out.below HW.out l16
  have hF := H4.out.below HW.out l46
  have p0 : wi.cell? ⟨g4, 0, none⟩ = some (.bool true) := hF.cell 0
  have p1 : wi.cell? ⟨g4, 1, none⟩ = some (.bool false) := hF.cell 1
  have p2 : wi.cell? ⟨g4, 2, none⟩ = some (.bool false) := hF.cell 2
  have p3 : wi.cell? ⟨g4, 3, none⟩ = some (.bool true) := hF.cell 3
  have q1 : wi.cell? ⟨g1, 1, none⟩ = some (.string x.repo) := hX.cell 1
  have q2 : wi.cell? ⟨g1, 2, none⟩ = some (.string x.tag) := hX.cell 2
  have q35 : wi.cell? ⟨g1, 35, none⟩ = some (.string x.typ) := by rw [hX.cell, at35 x hx]
  have q36 : wi.cell? ⟨g1, 36, none⟩ = some (.int .i64 x.size) := by rw [hX.cell, at36 x hx]
  have q37 : wi.cell? ⟨g1, 37, none⟩ = some (.int .i64 x.at_) := by rw [hX.cell, at37 x hx]
  have hB := HW.out.size
  clear hX hF
  go_wp2_with fail
  refine (Bld.text_any g6 g6 _ x.tag wi HP.out (by simp only [List.length_append, List.length_cons, List.length_nil, len_data, hx, be8_len]; omega) (Nat.le_trans hbw hB)).mono ?_
  rintro e wj ⟨rfl, hj, bj⟩
  have HPn := y_ hj
  have HWn := y_ (HW.out.trans bj)
  clear hj bj HP HW p0 p1 p2 p3 q1 q2 q35 q36 q37 hB
  clear wi
  have HP := HPn
  have HW := HWn
  clear HPn HWn
  generalize wj = wi at *
  have hX := H1.out.below HW.out l16
  have hF := H4.out.below HW.out l46
  have p0 : wi.cell? ⟨g4, 0, none⟩ = some (.bool true) := hF.cell 0
  have p1 : wi.cell? ⟨g4, 1, none⟩ = some (.bool false) := hF.cell 1
  have p2 : wi.cell? ⟨g4, 2, none⟩ = some (.bool false) := hF.cell 2
  have p3 : wi.cell? ⟨g4, 3, none⟩ = some (.bool true) := hF.cell 3
  have q1 : wi.cell? ⟨g1, 1, none⟩ = some (.string x.repo) := hX.cell 1
  have q2 : wi.cell? ⟨g1, 2, none⟩ = some (.string x.tag) := hX.cell 2
  have q35 : wi.cell? ⟨g1, 35, none⟩ = some (.string x.typ) := by rw [hX.cell, at35 x hx]
  have q36 : wi.cell? ⟨g1, 36, none⟩ = some (.int .i64 x.size) := by rw [hX.cell, at36 x hx]
  have q37 : wi.cell? ⟨g1, 37, none⟩ = some (.int .i64 x.at_) := by rw [hX.cell, at37 x hx]
  have hB := HW.out.size
  clear hX hF
  obtain ⟨nn, hnn⟩ : ∃ nn : Nat, x.at_ = (nn : Int) := ⟨(x.at_).toNat, by omega⟩
  rw [hnn] at q37
  go_wp2_with fail
  refine (Bld.number_any g6 g6 _ nn wi HP.out (by omega) (by simp only [List.length_append, List.length_cons, List.length_nil, len_data, hx, be8_len]; omega) (Nat.le_trans hbw hB)).mono ?_
  rintro e wj ⟨rfl, hj, bj⟩
  rw [show be8 nn = be8 (x.at_).toNat by rw [hnn]; rfl] at hj
  have HPn := y_ hj
  have HWn := y_ (HW.out.trans bj)
  clear hj bj HP HW p0 p1 p2 p3 q1 q2 q35 q36 q37 hB hnn
  clear wi
  have HP := HPn
  have HW := HWn
  clear HPn HWn
  generalize wj = wi at *
  have hX := H1.out.below HW.out l16
  have hF := H4.out.below HW.out l46
  have p0 : wi.cell? ⟨g4, 0, none⟩ = some (.bool true) := hF.cell 0
  have p1 : wi.cell? ⟨g4, 1, none⟩ = some (.bool false) := hF.cell 1
  have p2 : wi.cell? ⟨g4, 2, none⟩ = some (.bool false) := hF.cell 2
  have p3 : wi.cell? ⟨g4, 3, none⟩ = some (.bool true) := hF.cell 3
  have q1 : wi.cell? ⟨g1, 1, none⟩ = some (.string x.repo) := hX.cell 1
  have q2 : wi.cell? ⟨g1, 2, none⟩ = some (.string x.tag) := hX.cell 2
  have q35 : wi.cell? ⟨g1, 35, none⟩ = some (.string x.typ) := by rw [hX.cell, at35 x hx]
  have q36 : wi.cell? ⟨g1, 36, none⟩ = some (.int .i64 x.size) := by rw [hX.cell, at36 x hx]
  have q37 : wi.cell? ⟨g1, 37, none⟩ = some (.int .i64 x.at_) := by rw [hX.cell, at37 x hx]
  have hB := HW.out.size
  clear hX hF
  go_wp2_with fail
  refine (HP.out.out (by simp)).mono ?_
  rintro e wj ⟨rfl, bj⟩
  have XJ := y_ (Below.trans X.out (Below.mono (HW.out.trans bj) lw6))
  clear bj p0 p1 p2 p3 q1 q2 q35 q36 q37 hB HW HP H1 H4 X
  have hT := HT.out.below XJ.out
  have hbody : body x = (UInt8.ofNat x.k.toNat :: len1 x.repo :: (x.repo.data.toList ++ len1 x.tag :: (x.tag.data.toList ++ be8 x.at_.toNat))) := by unfold body; rw [← HFL.out]; simp
  have CF : Hid (Calls Tryz.prog 75 #[.string ⟨((UInt8.ofNat x.k.toNat :: len1 x.repo :: (x.repo.data.toList ++ len1 x.tag :: (x.tag.data.toList ++ be8 x.at_.toNat)))).toArray⟩] wj fun e w' => e = .returned (.string ⟨(frame (body x)).toArray⟩) ∧ Reg.Ext wj w') := by
   have h := framed_any ⟨((UInt8.ofNat x.k.toNat :: len1 x.repo :: (x.repo.data.toList ++ len1 x.tag :: (x.tag.data.toList ++ be8 x.at_.toNat)))).toArray⟩ wj (by rw [siz]; simp only [List.length_append, List.length_cons, List.length_nil, len_data, hx, be8_len]; omega) hT
   rw [lst] at h
   rw [hbody]
   exact h
  clear hbody hT
  go_wp2_with fail
  refine (CF.out).mono ?_
  rintro e wk ⟨rfl, xk⟩
  have XK := y_ ((show Reg.Ext w wj from XJ.out).trans xk)
  clear xk CF XJ
  go_wp2_with fail
  go_ret2
  exact ⟨rfl, XK.out⟩
 ·have hnm' := hnm rfl
  rw [show (F.cells ⟨true, false, false, false⟩) = [.bool true, .bool false, .bool false, .bool false] from rfl]
  go_wp2_with fail
  have hb4 : Blk (w3.alloc (Obj.cells #[Value.bool true, Value.bool false, Value.bool false, Value.bool false] 114)) w3.heap.size 114 [.bool true, .bool false, .bool false, .bool false] := Blk.new w3 114 #[Value.bool true, Value.bool false, Value.bool false, Value.bool false]
  have hx4 := Reg.Ext.alloc w3 (Obj.cells #[Value.bool true, Value.bool false, Value.bool false, Value.bool false] 114)
  have hs4 : (w3.alloc (Obj.cells #[Value.bool true, Value.bool false, Value.bool false, Value.bool false] 114)).heap.size = w3.heap.size + 1 := Array.size_push _
  have lt1 := H1.out.lt
  have ltx := X.out.size
  generalize w3.alloc (Obj.cells #[Value.bool true, Value.bool false, Value.bool false, Value.bool false] 114) = w4 at *
  have hp := Lib.fresh_isBuilder 122 5 w4
  have hx5 := Reg.Ext.alloc w4 (Obj.cells #[Value.pointer none, Value.slice none 0 0] 122)
  generalize w4.alloc (Obj.cells #[Value.pointer none, Value.slice none 0 0] 122) = w5 at *
  rw [hs4] at hp
  have hbw := hx5.size
  rw [hs4] at hbw
  have H1 := y_ ((H1.out.ext hx4).ext hx5)
  have H4 := y_ (hb4.ext hx5)
  have X := y_ ((X.out.trans hx4).trans hx5)
  have c0 : w5.cell? ⟨g1, 0, none⟩ = some (.int .i64 x.k) := H1.out.cell 0
  clear hb4 hx4 hs4 hx5
  generalize hg4 : w3.heap.size = g4 at *
  generalize hg6 : g4 + 1 = g6 at *
  have l16 : g1 < g6 := by omega
  have l46 : g4 < g6 := by omega
  have lw6 : w.heap.size ≤ g6 := by omega
  clear hg4 hg6 lt1 ltx
  have hkm := hkb.2
  go_still_tail 6, (by kernel_rfl)
  change wpList _ _ _ _ _ w5.drew
  repeat go_step
  refine ((show Is g6 g6 [] w5.drew from hp).byte (UInt8.ofNat x.k.toNat) _ (by first | exact hkb.1 | (rw [hkb.2]; exact hkb.2.symm.trans hkb.1) | (rw [← hkb.1, hkb.2])) (by simp) hbw).mono ?_
  rintro e wi ⟨rfl, hj, bj⟩
  have HP := y_ hj
  have HW : Hid (Below g6 w5 wi) := ((Below.refl g6 w5).drew).trans bj
  clear hj bj hp hkm c0
  rw [List.nil_append] at HP
  have hX := H1.out.below HW.out l16
  have hF := H4.out.below HW.out l46
  have p0 : wi.cell? ⟨g4, 0, none⟩ = some (.bool true) := hF.cell 0
  have p1 : wi.cell? ⟨g4, 1, none⟩ = some (.bool false) := hF.cell 1
  have p2 : wi.cell? ⟨g4, 2, none⟩ = some (.bool false) := hF.cell 2
  have p3 : wi.cell? ⟨g4, 3, none⟩ = some (.bool false) := hF.cell 3
  have q1 : wi.cell? ⟨g1, 1, none⟩ = some (.string x.repo) := hX.cell 1
  have q2 : wi.cell? ⟨g1, 2, none⟩ = some (.string x.tag) := hX.cell 2
  have q35 : wi.cell? ⟨g1, 35, none⟩ = some (.string x.typ) := by rw [hX.cell, at35 x hx]
  have q36 : wi.cell? ⟨g1, 36, none⟩ = some (.int .i64 x.size) := by rw [hX.cell, at36 x hx]
  have q37 : wi.cell? ⟨g1, 37, none⟩ = some (.int .i64 x.at_) := by rw [hX.cell, at37 x hx]
  have hB := HW.out.size
  clear hX hF
  go_wp2_with fail
  refine (Bld.text_any g6 g6 _ x.repo wi HP.out (by simp only [List.length_append, List.length_cons, List.length_nil, len_data, hx, be8_len]; omega) (Nat.le_trans hbw hB)).mono ?_
  rintro e wj ⟨rfl, hj, bj⟩
  have HPn := y_ hj
  have HWn := y_ (HW.out.trans bj)
  clear hj bj HP HW p0 p1 p2 p3 q1 q2 q35 q36 q37 hB
  clear wi
  have HP := HPn
  have HW := HWn
  clear HPn HWn
  generalize wj = wi at *
  have hX := H1.out.below HW.out l16
  have hF := H4.out.below HW.out l46
  have p0 : wi.cell? ⟨g4, 0, none⟩ = some (.bool true) := hF.cell 0
  have p1 : wi.cell? ⟨g4, 1, none⟩ = some (.bool false) := hF.cell 1
  have p2 : wi.cell? ⟨g4, 2, none⟩ = some (.bool false) := hF.cell 2
  have p3 : wi.cell? ⟨g4, 3, none⟩ = some (.bool false) := hF.cell 3
  have q1 : wi.cell? ⟨g1, 1, none⟩ = some (.string x.repo) := hX.cell 1
  have q2 : wi.cell? ⟨g1, 2, none⟩ = some (.string x.tag) := hX.cell 2
  have q35 : wi.cell? ⟨g1, 35, none⟩ = some (.string x.typ) := by rw [hX.cell, at35 x hx]
  have q36 : wi.cell? ⟨g1, 36, none⟩ = some (.int .i64 x.size) := by rw [hX.cell, at36 x hx]
  have q37 : wi.cell? ⟨g1, 37, none⟩ = some (.int .i64 x.at_) := by rw [hX.cell, at37 x hx]
  have hB := HW.out.size
  clear hX hF
  go_wp2_with fail
  refine (Bld.text_any g6 g6 _ x.tag wi HP.out (by simp only [List.length_append, List.length_cons, List.length_nil, len_data, hx, be8_len]; omega) (Nat.le_trans hbw hB)).mono ?_
  rintro e wj ⟨rfl, hj, bj⟩
  have HPn := y_ hj
  have HWn := y_ (HW.out.trans bj)
  clear hj bj HP HW p0 p1 p2 p3 q1 q2 q35 q36 q37 hB
  clear wi
  have HP := HPn
  have HW := HWn
  clear HPn HWn
  generalize wj = wi at *
  have hX := H1.out.below HW.out l16
  have hF := H4.out.below HW.out l46
  have p0 : wi.cell? ⟨g4, 0, none⟩ = some (.bool true) := hF.cell 0
  have p1 : wi.cell? ⟨g4, 1, none⟩ = some (.bool false) := hF.cell 1
  have p2 : wi.cell? ⟨g4, 2, none⟩ = some (.bool false) := hF.cell 2
  have p3 : wi.cell? ⟨g4, 3, none⟩ = some (.bool false) := hF.cell 3
  have q1 : wi.cell? ⟨g1, 1, none⟩ = some (.string x.repo) := hX.cell 1
  have q2 : wi.cell? ⟨g1, 2, none⟩ = some (.string x.tag) := hX.cell 2
  have q35 : wi.cell? ⟨g1, 35, none⟩ = some (.string x.typ) := by rw [hX.cell, at35 x hx]
  have q36 : wi.cell? ⟨g1, 36, none⟩ = some (.int .i64 x.size) := by rw [hX.cell, at36 x hx]
  have q37 : wi.cell? ⟨g1, 37, none⟩ = some (.int .i64 x.at_) := by rw [hX.cell, at37 x hx]
  have hB := HW.out.size
  clear hX hF
  go_wp2_with fail
  refine (HP.out.out (by simp)).mono ?_
  rintro e wj ⟨rfl, bj⟩
  have XJ := y_ (Below.trans X.out (Below.mono (HW.out.trans bj) lw6))
  clear bj p0 p1 p2 p3 q1 q2 q35 q36 q37 hB HW HP H1 H4 X
  have hT := HT.out.below XJ.out
  have hbody : body x = (UInt8.ofNat x.k.toNat :: len1 x.repo :: (x.repo.data.toList ++ len1 x.tag :: x.tag.data.toList)) := by unfold body; rw [← HFL.out]; simp
  have CF : Hid (Calls Tryz.prog 75 #[.string ⟨((UInt8.ofNat x.k.toNat :: len1 x.repo :: (x.repo.data.toList ++ len1 x.tag :: x.tag.data.toList))).toArray⟩] wj fun e w' => e = .returned (.string ⟨(frame (body x)).toArray⟩) ∧ Reg.Ext wj w') := by
   have h := framed_any ⟨((UInt8.ofNat x.k.toNat :: len1 x.repo :: (x.repo.data.toList ++ len1 x.tag :: x.tag.data.toList))).toArray⟩ wj (by rw [siz]; simp only [List.length_append, List.length_cons, List.length_nil, len_data, hx, be8_len]; omega) hT
   rw [lst] at h
   rw [hbody]
   exact h
  clear hbody hT
  go_wp2_with fail
  refine (CF.out).mono ?_
  rintro e wk ⟨rfl, xk⟩
  have XK := y_ ((show Reg.Ext w wj from XJ.out).trans xk)
  clear xk CF XJ
  go_wp2_with fail
  go_ret2
  exact ⟨rfl, XK.out⟩
 ·rw [show (F.cells ⟨false, true, true, false⟩) = [.bool false, .bool true, .bool true, .bool false] from rfl]
  go_wp2_with fail
  have hb4 : Blk (w3.alloc (Obj.cells #[Value.bool false, Value.bool true, Value.bool true, Value.bool false] 114)) w3.heap.size 114 [.bool false, .bool true, .bool true, .bool false] := Blk.new w3 114 #[Value.bool false, Value.bool true, Value.bool true, Value.bool false]
  have hx4 := Reg.Ext.alloc w3 (Obj.cells #[Value.bool false, Value.bool true, Value.bool true, Value.bool false] 114)
  have hs4 : (w3.alloc (Obj.cells #[Value.bool false, Value.bool true, Value.bool true, Value.bool false] 114)).heap.size = w3.heap.size + 1 := Array.size_push _
  have lt1 := H1.out.lt
  have ltx := X.out.size
  generalize w3.alloc (Obj.cells #[Value.bool false, Value.bool true, Value.bool true, Value.bool false] 114) = w4 at *
  have hp := Lib.fresh_isBuilder 122 5 w4
  have hx5 := Reg.Ext.alloc w4 (Obj.cells #[Value.pointer none, Value.slice none 0 0] 122)
  generalize w4.alloc (Obj.cells #[Value.pointer none, Value.slice none 0 0] 122) = w5 at *
  rw [hs4] at hp
  have hbw := hx5.size
  rw [hs4] at hbw
  have H1 := y_ ((H1.out.ext hx4).ext hx5)
  have H4 := y_ (hb4.ext hx5)
  have X := y_ ((X.out.trans hx4).trans hx5)
  have c0 : w5.cell? ⟨g1, 0, none⟩ = some (.int .i64 x.k) := H1.out.cell 0
  clear hb4 hx4 hs4 hx5
  generalize hg4 : w3.heap.size = g4 at *
  generalize hg6 : g4 + 1 = g6 at *
  have l16 : g1 < g6 := by omega
  have l46 : g4 < g6 := by omega
  have lw6 : w.heap.size ≤ g6 := by omega
  clear hg4 hg6 lt1 ltx
  have hkm := hkb.2
  go_still_tail 6, (by kernel_rfl)
  change wpList _ _ _ _ _ w5.drew
  repeat go_step
  refine ((show Is g6 g6 [] w5.drew from hp).byte (UInt8.ofNat x.k.toNat) _ (by first | exact hkb.1 | (rw [hkb.2]; exact hkb.2.symm.trans hkb.1) | (rw [← hkb.1, hkb.2])) (by simp) hbw).mono ?_
  rintro e wi ⟨rfl, hj, bj⟩
  have HP := y_ hj
  have HW : Hid (Below g6 w5 wi) := ((Below.refl g6 w5).drew).trans bj
  clear hj bj hp hkm c0
  rw [List.nil_append] at HP
  have hX := H1.out.below HW.out l16
  have hF := H4.out.below HW.out l46
  have p0 : wi.cell? ⟨g4, 0, none⟩ = some (.bool false) := hF.cell 0
  have p1 : wi.cell? ⟨g4, 1, none⟩ = some (.bool true) := hF.cell 1
  have p2 : wi.cell? ⟨g4, 2, none⟩ = some (.bool true) := hF.cell 2
  have p3 : wi.cell? ⟨g4, 3, none⟩ = some (.bool false) := hF.cell 3
  have q1 : wi.cell? ⟨g1, 1, none⟩ = some (.string x.repo) := hX.cell 1
  have q2 : wi.cell? ⟨g1, 2, none⟩ = some (.string x.tag) := hX.cell 2
  have q35 : wi.cell? ⟨g1, 35, none⟩ = some (.string x.typ) := by rw [hX.cell, at35 x hx]
  have q36 : wi.cell? ⟨g1, 36, none⟩ = some (.int .i64 x.size) := by rw [hX.cell, at36 x hx]
  have q37 : wi.cell? ⟨g1, 37, none⟩ = some (.int .i64 x.at_) := by rw [hX.cell, at37 x hx]
  have hB := HW.out.size
  clear hX hF
  have hcv : (convert 84 9 (.slice (some ⟨g1, 3, none⟩) 32 32)).run Tryz.prog wi.drew = .ok (.string ⟨x.dig.toArray⟩) wi.drew := by
   refine conv_bytes wi.drew 84 9 5 Tryz.underlying84 Tryz.underlying5 Tryz.underlying9 g1 3 32 32 x.dig hx ?_
   intro j hj
   exact range_dig (H1.out.below HW.out l16) j (byteV x.dig[j]) (by rw [List.getElem?_map, List.getElem?_eq_getElem hj]; rfl)
  go_wp2_with fail
  have hal : Tryz.prog.arrayLen 37 = 32 := by as_aux_lemma => kernel_rfl
  go_still_tail 6, (by kernel_rfl)
  change wpList _ _ _ _ _ wi.drew
  clear hcv hal
  repeat go_step
  refine ((Is_drew HP.out).str ⟨x.dig.toArray⟩ (by rw [siz]; simp only [List.length_append, List.length_cons, List.length_nil, len_data, hx, be8_len]; omega) (Nat.le_trans hbw hB)).mono ?_
  rintro e wj ⟨rfl, hj, bj⟩
  rw [lst x.dig] at hj
  have HPn := y_ hj
  have HWn := y_ ((HW.out.drew).trans bj)
  clear hj bj HP HW p0 p1 p2 p3 q1 q2 q35 q36 q37 hB
  clear wi
  have HP := HPn
  have HW := HWn
  clear HPn HWn
  generalize wj = wi at *
  have hX := H1.out.below HW.out l16
  have hF := H4.out.below HW.out l46
  have p0 : wi.cell? ⟨g4, 0, none⟩ = some (.bool false) := hF.cell 0
  have p1 : wi.cell? ⟨g4, 1, none⟩ = some (.bool true) := hF.cell 1
  have p2 : wi.cell? ⟨g4, 2, none⟩ = some (.bool true) := hF.cell 2
  have p3 : wi.cell? ⟨g4, 3, none⟩ = some (.bool false) := hF.cell 3
  have q1 : wi.cell? ⟨g1, 1, none⟩ = some (.string x.repo) := hX.cell 1
  have q2 : wi.cell? ⟨g1, 2, none⟩ = some (.string x.tag) := hX.cell 2
  have q35 : wi.cell? ⟨g1, 35, none⟩ = some (.string x.typ) := by rw [hX.cell, at35 x hx]
  have q36 : wi.cell? ⟨g1, 36, none⟩ = some (.int .i64 x.size) := by rw [hX.cell, at36 x hx]
  have q37 : wi.cell? ⟨g1, 37, none⟩ = some (.int .i64 x.at_) := by rw [hX.cell, at37 x hx]
  have hB := HW.out.size
  clear hX hF
  go_wp2_with fail
  refine (Bld.text_any g6 g6 _ x.typ wi HP.out (by simp only [List.length_append, List.length_cons, List.length_nil, len_data, hx, be8_len]; omega) (Nat.le_trans hbw hB)).mono ?_
  rintro e wj ⟨rfl, hj, bj⟩
  have HPn := y_ hj
  have HWn := y_ (HW.out.trans bj)
  clear hj bj HP HW p0 p1 p2 p3 q1 q2 q35 q36 q37 hB
  clear wi
  have HP := HPn
  have HW := HWn
  clear HPn HWn
  generalize wj = wi at *
  have hX := H1.out.below HW.out l16
  have hF := H4.out.below HW.out l46
  have p0 : wi.cell? ⟨g4, 0, none⟩ = some (.bool false) := hF.cell 0
  have p1 : wi.cell? ⟨g4, 1, none⟩ = some (.bool true) := hF.cell 1
  have p2 : wi.cell? ⟨g4, 2, none⟩ = some (.bool true) := hF.cell 2
  have p3 : wi.cell? ⟨g4, 3, none⟩ = some (.bool false) := hF.cell 3
  have q1 : wi.cell? ⟨g1, 1, none⟩ = some (.string x.repo) := hX.cell 1
  have q2 : wi.cell? ⟨g1, 2, none⟩ = some (.string x.tag) := hX.cell 2
  have q35 : wi.cell? ⟨g1, 35, none⟩ = some (.string x.typ) := by rw [hX.cell, at35 x hx]
  have q36 : wi.cell? ⟨g1, 36, none⟩ = some (.int .i64 x.size) := by rw [hX.cell, at36 x hx]
  have q37 : wi.cell? ⟨g1, 37, none⟩ = some (.int .i64 x.at_) := by rw [hX.cell, at37 x hx]
  have hB := HW.out.size
  clear hX hF
  obtain ⟨nn, hnn⟩ : ∃ nn : Nat, x.size = (nn : Int) := ⟨(x.size).toNat, by omega⟩
  rw [hnn] at q36
  go_wp2_with fail
  refine (Bld.number_any g6 g6 _ nn wi HP.out (by omega) (by simp only [List.length_append, List.length_cons, List.length_nil, len_data, hx, be8_len]; omega) (Nat.le_trans hbw hB)).mono ?_
  rintro e wj ⟨rfl, hj, bj⟩
  rw [show be8 nn = be8 (x.size).toNat by rw [hnn]; rfl] at hj
  have HPn := y_ hj
  have HWn := y_ (HW.out.trans bj)
  clear hj bj HP HW p0 p1 p2 p3 q1 q2 q35 q36 q37 hB hnn
  clear wi
  have HP := HPn
  have HW := HWn
  clear HPn HWn
  generalize wj = wi at *
  have hX := H1.out.below HW.out l16
  have hF := H4.out.below HW.out l46
  have p0 : wi.cell? ⟨g4, 0, none⟩ = some (.bool false) := hF.cell 0
  have p1 : wi.cell? ⟨g4, 1, none⟩ = some (.bool true) := hF.cell 1
  have p2 : wi.cell? ⟨g4, 2, none⟩ = some (.bool true) := hF.cell 2
  have p3 : wi.cell? ⟨g4, 3, none⟩ = some (.bool false) := hF.cell 3
  have q1 : wi.cell? ⟨g1, 1, none⟩ = some (.string x.repo) := hX.cell 1
  have q2 : wi.cell? ⟨g1, 2, none⟩ = some (.string x.tag) := hX.cell 2
  have q35 : wi.cell? ⟨g1, 35, none⟩ = some (.string x.typ) := by rw [hX.cell, at35 x hx]
  have q36 : wi.cell? ⟨g1, 36, none⟩ = some (.int .i64 x.size) := by rw [hX.cell, at36 x hx]
  have q37 : wi.cell? ⟨g1, 37, none⟩ = some (.int .i64 x.at_) := by rw [hX.cell, at37 x hx]
  have hB := HW.out.size
  clear hX hF
  go_wp2_with fail
  refine (HP.out.out (by simp)).mono ?_
  rintro e wj ⟨rfl, bj⟩
  have XJ := y_ (Below.trans X.out (Below.mono (HW.out.trans bj) lw6))
  clear bj p0 p1 p2 p3 q1 q2 q35 q36 q37 hB HW HP H1 H4 X
  have hT := HT.out.below XJ.out
  have hbody : body x = (UInt8.ofNat x.k.toNat :: (x.dig ++ len1 x.typ :: (x.typ.data.toList ++ be8 x.size.toNat))) := by unfold body; rw [← HFL.out]; simp
  have CF : Hid (Calls Tryz.prog 75 #[.string ⟨((UInt8.ofNat x.k.toNat :: (x.dig ++ len1 x.typ :: (x.typ.data.toList ++ be8 x.size.toNat)))).toArray⟩] wj fun e w' => e = .returned (.string ⟨(frame (body x)).toArray⟩) ∧ Reg.Ext wj w') := by
   have h := framed_any ⟨((UInt8.ofNat x.k.toNat :: (x.dig ++ len1 x.typ :: (x.typ.data.toList ++ be8 x.size.toNat)))).toArray⟩ wj (by rw [siz]; simp only [List.length_append, List.length_cons, List.length_nil, len_data, hx, be8_len]; omega) hT
   rw [lst] at h
   rw [hbody]
   exact h
  clear hbody hT
  go_wp2_with fail
  refine (CF.out).mono ?_
  rintro e wk ⟨rfl, xk⟩
  have XK := y_ ((show Reg.Ext w wj from XJ.out).trans xk)
  clear xk CF XJ
  go_wp2_with fail
  go_ret2
  exact ⟨rfl, XK.out⟩
 ·rw [show (F.cells ⟨false, true, false, false⟩) = [.bool false, .bool true, .bool false, .bool false] from rfl]
  go_wp2_with fail
  have hb4 : Blk (w3.alloc (Obj.cells #[Value.bool false, Value.bool true, Value.bool false, Value.bool false] 114)) w3.heap.size 114 [.bool false, .bool true, .bool false, .bool false] := Blk.new w3 114 #[Value.bool false, Value.bool true, Value.bool false, Value.bool false]
  have hx4 := Reg.Ext.alloc w3 (Obj.cells #[Value.bool false, Value.bool true, Value.bool false, Value.bool false] 114)
  have hs4 : (w3.alloc (Obj.cells #[Value.bool false, Value.bool true, Value.bool false, Value.bool false] 114)).heap.size = w3.heap.size + 1 := Array.size_push _
  have lt1 := H1.out.lt
  have ltx := X.out.size
  generalize w3.alloc (Obj.cells #[Value.bool false, Value.bool true, Value.bool false, Value.bool false] 114) = w4 at *
  have hp := Lib.fresh_isBuilder 122 5 w4
  have hx5 := Reg.Ext.alloc w4 (Obj.cells #[Value.pointer none, Value.slice none 0 0] 122)
  generalize w4.alloc (Obj.cells #[Value.pointer none, Value.slice none 0 0] 122) = w5 at *
  rw [hs4] at hp
  have hbw := hx5.size
  rw [hs4] at hbw
  have H1 := y_ ((H1.out.ext hx4).ext hx5)
  have H4 := y_ (hb4.ext hx5)
  have X := y_ ((X.out.trans hx4).trans hx5)
  have c0 : w5.cell? ⟨g1, 0, none⟩ = some (.int .i64 x.k) := H1.out.cell 0
  clear hb4 hx4 hs4 hx5
  generalize hg4 : w3.heap.size = g4 at *
  generalize hg6 : g4 + 1 = g6 at *
  have l16 : g1 < g6 := by omega
  have l46 : g4 < g6 := by omega
  have lw6 : w.heap.size ≤ g6 := by omega
  clear hg4 hg6 lt1 ltx
  have hkm := hkb.2
  go_still_tail 6, (by kernel_rfl)
  change wpList _ _ _ _ _ w5.drew
  repeat go_step
  refine ((show Is g6 g6 [] w5.drew from hp).byte (UInt8.ofNat x.k.toNat) _ (by first | exact hkb.1 | (rw [hkb.2]; exact hkb.2.symm.trans hkb.1) | (rw [← hkb.1, hkb.2])) (by simp) hbw).mono ?_
  rintro e wi ⟨rfl, hj, bj⟩
  have HP := y_ hj
  have HW : Hid (Below g6 w5 wi) := ((Below.refl g6 w5).drew).trans bj
  clear hj bj hp hkm c0
  rw [List.nil_append] at HP
  have hX := H1.out.below HW.out l16
  have hF := H4.out.below HW.out l46
  have p0 : wi.cell? ⟨g4, 0, none⟩ = some (.bool false) := hF.cell 0
  have p1 : wi.cell? ⟨g4, 1, none⟩ = some (.bool true) := hF.cell 1
  have p2 : wi.cell? ⟨g4, 2, none⟩ = some (.bool false) := hF.cell 2
  have p3 : wi.cell? ⟨g4, 3, none⟩ = some (.bool false) := hF.cell 3
  have q1 : wi.cell? ⟨g1, 1, none⟩ = some (.string x.repo) := hX.cell 1
  have q2 : wi.cell? ⟨g1, 2, none⟩ = some (.string x.tag) := hX.cell 2
  have q35 : wi.cell? ⟨g1, 35, none⟩ = some (.string x.typ) := by rw [hX.cell, at35 x hx]
  have q36 : wi.cell? ⟨g1, 36, none⟩ = some (.int .i64 x.size) := by rw [hX.cell, at36 x hx]
  have q37 : wi.cell? ⟨g1, 37, none⟩ = some (.int .i64 x.at_) := by rw [hX.cell, at37 x hx]
  have hB := HW.out.size
  clear hX hF
  have hcv : (convert 84 9 (.slice (some ⟨g1, 3, none⟩) 32 32)).run Tryz.prog wi.drew = .ok (.string ⟨x.dig.toArray⟩) wi.drew := by
   refine conv_bytes wi.drew 84 9 5 Tryz.underlying84 Tryz.underlying5 Tryz.underlying9 g1 3 32 32 x.dig hx ?_
   intro j hj
   exact range_dig (H1.out.below HW.out l16) j (byteV x.dig[j]) (by rw [List.getElem?_map, List.getElem?_eq_getElem hj]; rfl)
  go_wp2_with fail
  have hal : Tryz.prog.arrayLen 37 = 32 := by as_aux_lemma => kernel_rfl
  go_still_tail 6, (by kernel_rfl)
  change wpList _ _ _ _ _ wi.drew
  clear hcv hal
  repeat go_step
  refine ((Is_drew HP.out).str ⟨x.dig.toArray⟩ (by rw [siz]; simp only [List.length_append, List.length_cons, List.length_nil, len_data, hx, be8_len]; omega) (Nat.le_trans hbw hB)).mono ?_
  rintro e wj ⟨rfl, hj, bj⟩
  rw [lst x.dig] at hj
  have HPn := y_ hj
  have HWn := y_ ((HW.out.drew).trans bj)
  clear hj bj HP HW p0 p1 p2 p3 q1 q2 q35 q36 q37 hB
  clear wi
  have HP := HPn
  have HW := HWn
  clear HPn HWn
  generalize wj = wi at *
  have hX := H1.out.below HW.out l16
  have hF := H4.out.below HW.out l46
  have p0 : wi.cell? ⟨g4, 0, none⟩ = some (.bool false) := hF.cell 0
  have p1 : wi.cell? ⟨g4, 1, none⟩ = some (.bool true) := hF.cell 1
  have p2 : wi.cell? ⟨g4, 2, none⟩ = some (.bool false) := hF.cell 2
  have p3 : wi.cell? ⟨g4, 3, none⟩ = some (.bool false) := hF.cell 3
  have q1 : wi.cell? ⟨g1, 1, none⟩ = some (.string x.repo) := hX.cell 1
  have q2 : wi.cell? ⟨g1, 2, none⟩ = some (.string x.tag) := hX.cell 2
  have q35 : wi.cell? ⟨g1, 35, none⟩ = some (.string x.typ) := by rw [hX.cell, at35 x hx]
  have q36 : wi.cell? ⟨g1, 36, none⟩ = some (.int .i64 x.size) := by rw [hX.cell, at36 x hx]
  have q37 : wi.cell? ⟨g1, 37, none⟩ = some (.int .i64 x.at_) := by rw [hX.cell, at37 x hx]
  have hB := HW.out.size
  clear hX hF
  go_wp2_with fail
  refine (HP.out.out (by simp)).mono ?_
  rintro e wj ⟨rfl, bj⟩
  have XJ := y_ (Below.trans X.out (Below.mono (HW.out.trans bj) lw6))
  clear bj p0 p1 p2 p3 q1 q2 q35 q36 q37 hB HW HP H1 H4 X
  have hT := HT.out.below XJ.out
  have hbody : body x = (UInt8.ofNat x.k.toNat :: x.dig) := by unfold body; rw [← HFL.out]; simp
  have CF : Hid (Calls Tryz.prog 75 #[.string ⟨((UInt8.ofNat x.k.toNat :: x.dig)).toArray⟩] wj fun e w' => e = .returned (.string ⟨(frame (body x)).toArray⟩) ∧ Reg.Ext wj w') := by
   have h := framed_any ⟨((UInt8.ofNat x.k.toNat :: x.dig)).toArray⟩ wj (by rw [siz]; simp only [List.length_append, List.length_cons, List.length_nil, len_data, hx, be8_len]; omega) hT
   rw [lst] at h
   rw [hbody]
   exact h
  clear hbody hT
  go_wp2_with fail
  refine (CF.out).mono ?_
  rintro e wk ⟨rfl, xk⟩
  have XK := y_ ((show Reg.Ext w wj from XJ.out).trans xk)
  clear xk CF XJ
  go_wp2_with fail
  go_ret2
  exact ⟨rfl, XK.out⟩
end Slp
end Go.Proofs.YtafeealbdpmdkaaGreatDoor

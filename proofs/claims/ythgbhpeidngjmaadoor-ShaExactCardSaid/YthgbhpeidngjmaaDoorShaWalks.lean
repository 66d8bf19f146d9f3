/- The walks of package sha: each function does what ShaP says. -/
import Derived.Test.YthgbhpeidngjmaaDoorRows
import Derived.Test.YthgbhpeidngjmaaDoorShaPlain
import Derived.Test.YthgbhpeidngjmaaDoorReg
import Derived.Test.YthgbhpeidngjmaaDoorWords
import Derived.Test.YthgbhpeidngjmaaDoorBlk
import Derived.WalkKit
import Derived.WalkSpells
import Derived.WalkLawsBesides
import Derived.BigQuiet
import Derived.BigRegion
import Derived.Deep.DeepCutAuto
import Derived.Deep.WholeRow
import Derived.Lib.Hide
set_option linter.unusedSimpArgs false
set_option linter.unusedVariables false
set_option linter.unusedSectionVars false
namespace Go.Proofs.YthgbhpeidngjmaaDoor
open Go.RowKit
namespace Sha
open ShaP

theorem unary_not_u32 (n : Int) : Op.unary .xor (.int .u32 n) = Op.intBits .xor .u32 4294967295 n := rfl
attribute [local go_sem high] unary_not_u32
/-- a word as a number: a name that simp does not open -/
def nv (x : W) : Nat := x.toNat
theorem nv_lt (x : W) : nv x < 4294967296 := x.isLt
theorem bv_or (x y : W) : Go.bits .or .u32 (nv x : Int) (nv y : Int) = (nv (x ||| y) : Int) := by unfold nv; rw [u32_or_nat _ _ x.isLt y.isLt, BitVec.toNat_or]
theorem bv_and (x y : W) : Go.bits .and .u32 (nv x : Int) (nv y : Int) = (nv (x &&& y) : Int) := by unfold nv; rw [u32_and_nat _ _ x.isLt y.isLt, BitVec.toNat_and]
theorem bv_xor (x y : W) : Go.bits .xor .u32 (nv x : Int) (nv y : Int) = (nv (x ^^^ y) : Int) := by unfold nv; rw [u32_xor_nat _ _ x.isLt y.isLt, BitVec.toNat_xor]
theorem bv_not (x : W) : Go.bits .xor .u32 4294967295 (nv x : Int) = (nv (~~~x) : Int) := by
  have h := bv_xor (BitVec.allOnes 32) x
  rw [BitVec.xor_comm, BitVec.xor_allOnes] at h
  exact h
theorem bv_add (x y : W) : IntKind.u32.wrap ((nv x : Int) + (nv y : Int)) = (nv (x + y) : Int) := by
  unfold nv
  rw [IntKind.wrap_u32', BitVec.toNat_add]; omega
theorem bv_shr (x : W) (n : Nat) : (nv x : Int) / ((2 ^ n : Nat) : Int) = (nv (x >>> n) : Int) := by
  unfold nv
  rw [BitVec.toNat_ushiftRight, Nat.shiftRight_eq_div_pow]; simp
theorem bv_shl (x : W) (n : Nat) : IntKind.u32.wrap ((nv x : Int) * ((2 ^ n : Nat) : Int)) = (nv (x <<< n) : Int) := by
  unfold nv
  rw [IntKind.wrap_u32', BitVec.toNat_shiftLeft, Nat.shiftLeft_eq]
  have : ((x.toNat * 2 ^ n : Nat) : Int) = (x.toNat : Int) * ((2 ^ n : Nat) : Int) := by simp
  rw [← this]; omega
theorem bv_or_byte (x : W) (c : UInt8) : Go.bits .or .u32 (nv x : Int) (c.toNat : Int) = (nv (x ||| BitVec.ofNat 32 c.toNat) : Int) := by
  have hc := c.toNat_lt
  unfold nv
  rw [u32_or_nat _ _ x.isLt (by omega), BitVec.toNat_or, BitVec.toNat_ofNat, Nat.mod_eq_of_lt (show c.toNat < 2 ^ 32 by omega)]
attribute [local go_sem] bv_or bv_and bv_xor bv_not bv_add

def isRot (n : Nat) : Prop := n = 2 ∨ n = 6 ∨ n = 7 ∨ n = 11 ∨ n = 13 ∨ n = 17 ∨ n = 18 ∨ n = 19 ∨ n = 22 ∨ n = 25
set_option maxHeartbeats 1000000 in
theorem right_any (x : W) (n : Nat) (w : World) (hn : isRot n) :
    Calls Tryd.prog 21 #[.int .u32 (nv x : Int), .int .i64 (n : Int)] w fun e w' => e = .returned (.int .u32 (nv (rr x n) : Int)) ∧ w = w' := by
  unfold isRot at hn
  rcases hn with rfl | rfl | rfl | rfl | rfl | rfl | rfl | rfl | rfl | rfl
  · have e0 : Go.bits .and .u64 (IntKind.u64.wrap (-2)) 31 = 30 := by decide
    have e1 := bv_shl x 30
    have e2 := bv_shr x 2
    simp only [Nat.reducePow, Int.cast_ofNat_Int] at e1 e2
    go_enter Tryd.func21, Tryd.ntmps21
    go_wp2
    go_ret
    exact ⟨by rw [rr, BitVec.or_comm]; rfl, rfl⟩
  · have e0 : Go.bits .and .u64 (IntKind.u64.wrap (-6)) 31 = 26 := by decide
    have e1 := bv_shl x 26
    have e2 := bv_shr x 6
    simp only [Nat.reducePow, Int.cast_ofNat_Int] at e1 e2
    go_enter Tryd.func21, Tryd.ntmps21
    go_wp2
    go_ret
    exact ⟨by rw [rr, BitVec.or_comm]; rfl, rfl⟩
  · have e0 : Go.bits .and .u64 (IntKind.u64.wrap (-7)) 31 = 25 := by decide
    have e1 := bv_shl x 25
    have e2 := bv_shr x 7
    simp only [Nat.reducePow, Int.cast_ofNat_Int] at e1 e2
    go_enter Tryd.func21, Tryd.ntmps21
    go_wp2
    go_ret
    exact ⟨by rw [rr, BitVec.or_comm]; rfl, rfl⟩
  · have e0 : Go.bits .and .u64 (IntKind.u64.wrap (-11)) 31 = 21 := by decide
    have e1 := bv_shl x 21
    have e2 := bv_shr x 11
    simp only [Nat.reducePow, Int.cast_ofNat_Int] at e1 e2
    go_enter Tryd.func21, Tryd.ntmps21
    go_wp2
    go_ret
    exact ⟨by rw [rr, BitVec.or_comm]; rfl, rfl⟩
  · have e0 : Go.bits .and .u64 (IntKind.u64.wrap (-13)) 31 = 19 := by decide
    have e1 := bv_shl x 19
    have e2 := bv_shr x 13
    simp only [Nat.reducePow, Int.cast_ofNat_Int] at e1 e2
    go_enter Tryd.func21, Tryd.ntmps21
    go_wp2
    go_ret
    exact ⟨by rw [rr, BitVec.or_comm]; rfl, rfl⟩
  · have e0 : Go.bits .and .u64 (IntKind.u64.wrap (-17)) 31 = 15 := by decide
    have e1 := bv_shl x 15
    have e2 := bv_shr x 17
    simp only [Nat.reducePow, Int.cast_ofNat_Int] at e1 e2
    go_enter Tryd.func21, Tryd.ntmps21
    go_wp2
    go_ret
    exact ⟨by rw [rr, BitVec.or_comm]; rfl, rfl⟩
  · have e0 : Go.bits .and .u64 (IntKind.u64.wrap (-18)) 31 = 14 := by decide
    have e1 := bv_shl x 14
    have e2 := bv_shr x 18
    simp only [Nat.reducePow, Int.cast_ofNat_Int] at e1 e2
    go_enter Tryd.func21, Tryd.ntmps21
    go_wp2
    go_ret
    exact ⟨by rw [rr, BitVec.or_comm]; rfl, rfl⟩
  · have e0 : Go.bits .and .u64 (IntKind.u64.wrap (-19)) 31 = 13 := by decide
    have e1 := bv_shl x 13
    have e2 := bv_shr x 19
    simp only [Nat.reducePow, Int.cast_ofNat_Int] at e1 e2
    go_enter Tryd.func21, Tryd.ntmps21
    go_wp2
    go_ret
    exact ⟨by rw [rr, BitVec.or_comm]; rfl, rfl⟩
  · have e0 : Go.bits .and .u64 (IntKind.u64.wrap (-22)) 31 = 10 := by decide
    have e1 := bv_shl x 10
    have e2 := bv_shr x 22
    simp only [Nat.reducePow, Int.cast_ofNat_Int] at e1 e2
    go_enter Tryd.func21, Tryd.ntmps21
    go_wp2
    go_ret
    exact ⟨by rw [rr, BitVec.or_comm]; rfl, rfl⟩
  · have e0 : Go.bits .and .u64 (IntKind.u64.wrap (-25)) 31 = 7 := by decide
    have e1 := bv_shl x 7
    have e2 := bv_shr x 25
    simp only [Nat.reducePow, Int.cast_ofNat_Int] at e1 e2
    go_enter Tryd.func21, Tryd.ntmps21
    go_wp2
    go_ret
    exact ⟨by rw [rr, BitVec.or_comm]; rfl, rfl⟩

theorem right_at (x : W) (m : Int) (n : Nat) (w : World) (hm : m = (n : Int)) (hn : isRot n) :
    Calls Tryd.prog 21 #[.int .u32 (nv x : Int), .int .i64 m] w fun e w' => e = .returned (.int .u32 (nv (rr x n) : Int)) ∧ w = w' := by
  subst hm; exact right_any x n w hn
def wv (x : W) : Value := .int .u32 (nv x)
set_option maxRecDepth 100000 in
set_option maxHeartbeats 1000000 in
theorem spread_any (p off : Nat) (blk : List UInt8) (w : World) (hl : blk.length = 64) (hc : ∀ j (h : j < blk.length), w.cell? ⟨p, off + j, none⟩ = some (byteV blk[j])) :
    Calls Tryd.prog 20 #[.pointer (some ⟨p, off, none⟩)] w fun e w' => e = .returned (.agg ((spread blk).map wv).toArray) ∧ Reg.Ext w w' := by
  have HC := Lib.hid hc
  have HL := Lib.hid hl
  clear hc hl
  go_enter Tryd.func20, Tryd.ntmps20
  go_wp2
  have hb : Blk (w.alloc (Obj.cells (Array.replicate 64 (Value.int .u32 0)) 46)) w.heap.size 46 ((List.replicate 64 (0#32)).map wv) := Blk.new w 46 (Array.replicate 64 (Value.int .u32 0))
  have hx : Reg.Ext w (w.alloc (Obj.cells (Array.replicate 64 (Value.int .u32 0)) 46)) := Reg.Ext.alloc _ _
  have he : (Array.replicate 64 (Value.int .u32 0)) = #[Value.int .u32 0, Value.int .u32 0, Value.int .u32 0, Value.int .u32 0, Value.int .u32 0, Value.int .u32 0, Value.int .u32 0, Value.int .u32 0, Value.int .u32 0, Value.int .u32 0, Value.int .u32 0, Value.int .u32 0, Value.int .u32 0, Value.int .u32 0, Value.int .u32 0, Value.int .u32 0, Value.int .u32 0, Value.int .u32 0, Value.int .u32 0, Value.int .u32 0, Value.int .u32 0, Value.int .u32 0, Value.int .u32 0, Value.int .u32 0, Value.int .u32 0, Value.int .u32 0, Value.int .u32 0, Value.int .u32 0, Value.int .u32 0, Value.int .u32 0, Value.int .u32 0, Value.int .u32 0, Value.int .u32 0, Value.int .u32 0, Value.int .u32 0, Value.int .u32 0, Value.int .u32 0, Value.int .u32 0, Value.int .u32 0, Value.int .u32 0, Value.int .u32 0, Value.int .u32 0, Value.int .u32 0, Value.int .u32 0, Value.int .u32 0, Value.int .u32 0, Value.int .u32 0, Value.int .u32 0, Value.int .u32 0, Value.int .u32 0, Value.int .u32 0, Value.int .u32 0, Value.int .u32 0, Value.int .u32 0, Value.int .u32 0, Value.int .u32 0, Value.int .u32 0, Value.int .u32 0, Value.int .u32 0, Value.int .u32 0, Value.int .u32 0, Value.int .u32 0, Value.int .u32 0, Value.int .u32 0] := rfl
  rw [he] at hb hx
  clear he
  have hg : w.heap.size ≤ w.heap.size := Nat.le_refl _
  generalize w.alloc (Obj.cells #[Value.int .u32 0, Value.int .u32 0, Value.int .u32 0, Value.int .u32 0, Value.int .u32 0, Value.int .u32 0, Value.int .u32 0, Value.int .u32 0, Value.int .u32 0, Value.int .u32 0, Value.int .u32 0, Value.int .u32 0, Value.int .u32 0, Value.int .u32 0, Value.int .u32 0, Value.int .u32 0, Value.int .u32 0, Value.int .u32 0, Value.int .u32 0, Value.int .u32 0, Value.int .u32 0, Value.int .u32 0, Value.int .u32 0, Value.int .u32 0, Value.int .u32 0, Value.int .u32 0, Value.int .u32 0, Value.int .u32 0, Value.int .u32 0, Value.int .u32 0, Value.int .u32 0, Value.int .u32 0, Value.int .u32 0, Value.int .u32 0, Value.int .u32 0, Value.int .u32 0, Value.int .u32 0, Value.int .u32 0, Value.int .u32 0, Value.int .u32 0, Value.int .u32 0, Value.int .u32 0, Value.int .u32 0, Value.int .u32 0, Value.int .u32 0, Value.int .u32 0, Value.int .u32 0, Value.int .u32 0, Value.int .u32 0, Value.int .u32 0, Value.int .u32 0, Value.int .u32 0, Value.int .u32 0, Value.int .u32 0, Value.int .u32 0, Value.int .u32 0, Value.int .u32 0, Value.int .u32 0, Value.int .u32 0, Value.int .u32 0, Value.int .u32 0, Value.int .u32 0, Value.int .u32 0, Value.int .u32 0] 46) = w1 at *
  generalize hgg : w.heap.size = g at hb hg ⊢
  have HG := Lib.hid hgg
  clear hgg
  have hb : Hid (Blk w1 g 46 ((sofar blk 0).map wv)) := hb
  go_loopw [3, 5, 11] (fun _ _ i wr => ∃ t : Nat, t ≤ 16 ∧ i = .int .i64 t ∧ Hid (Blk wr g 46 ((sofar blk t).map wv)) ∧ Reg.Ext w wr) (fun _ _ i _ => 16 - (intOf i).toNat)
  case atStart => exact ⟨0, by omega, rfl, hb, hx⟩
  case round =>
    obtain ⟨t, ht, rfl, HB, hxr⟩ := hrel
    have HX := Lib.hid hxr
    clear hb hx hxr
    by_cases ht16 : t < 16
    · have d1 : decide ((t : Int) < 16) = true := by rw [decide_eq_true_iff]; omega
      have hsl := run_slice_arr (P := Tryd.prog) 39 64 5 Tryd.underlying39 (by kernel_rfl) p off (4 * t) (4 * t + 4) .i64 .i64 (by omega) (by omega) (by omega)
      simp only [Int.natCast_mul, Int.natCast_add, Int.cast_ofNat_Int] at hsl
      rw [show 4 * t + 4 - 4 * t = 4 from by omega] at hsl
      have HB0 : Hid (Blk wr g 46 (((sofar blk t).set t (ShaP.part blk t 0)).map wv)) := by
        show Blk _ _ _ _
        rw [part_zero, ← sofar_get blk t ht16, List.set_getElem_self]; exact HB.out
      go_wp2
      obtain ⟨wo, rfl⟩ : ∃ wo : World, wo = wr := ⟨_, rfl⟩
      go_loopw [5, 23] (fun _ i wr => ∃ k : Nat, k ≤ 4 ∧ i = .int .i64 k ∧ Hid (Blk wr g 46 (((sofar blk t).set t (ShaP.part blk t k)).map wv)) ∧ Reg.Ext w wr) (fun _ i _ => 4 - (intOf i).toNat)
      case atStart => exact ⟨0, by omega, rfl, HB0, HX.out⟩
      case round =>
        obtain ⟨k, hk, rfl, HB1, hx1⟩ := hrel
        have HX1 := Lib.hid hx1
        clear HB HB0 HX hx1
        by_cases hk4 : k < 4
        · have d2 : decide ((k : Int) < 4) = true := by rw [decide_eq_true_iff]; omega
          have hlen : t < ((sofar blk t).set t (ShaP.part blk t k)).length := by rw [List.length_set, sofar_length _ _ (by omega)]; omega
          have hbi : 4 * t + k < blk.length := by rw [HL.out]; omega
          have cb : wr.cell? ⟨p, off + 4 * t + k, none⟩ = some (.int .u8 ((blk[4 * t + k]).toNat : Int)) := by
            rw [Nat.add_assoc]; exact HX1.out.at_ (HC.out _ hbi)
          have cw : wr.cell? ⟨g, t, none⟩ = some (.int .u32 (nv (ShaP.part blk t k) : Int)) := by
            rw [HB1.out.cellAt (by simpa using hlen)]
            simp [wv]
          have fw := HB1.out.frozen t
          have e1 := bv_shl (ShaP.part blk t k) 8
          simp only [Nat.reducePow, Int.cast_ofNat_Int] at e1
          have e2 : Go.bits .or .u32 (nv (ShaP.part blk t k <<< 8) : Int) ((blk[4 * t + k]).toNat : Int) = (nv (ShaP.part blk t (k + 1)) : Int) := by
            rw [part_succ blk t k hbi]; exact bv_or_byte _ _
          have hset := HB1.out.set_ t (wv (ShaP.part blk t (k + 1)))
          rw [← List.map_set, List.set_set] at hset
          have hxs : Reg.Ext w (wr.setCell ⟨g, t, none⟩ (wv (ShaP.part blk t (k + 1)))) := HX1.out.setCell (by rw [HG.out]; exact Nat.le_refl _) _
          have HS := Lib.hid hset
          have HXS := Lib.hid hxs
          have hbb := (blk[4 * t + k]).toNat_lt
          clear hset hlen hxs
          generalize blk[4 * t + k] = bb at *
          generalize hp1 : ShaP.part blk t (k + 1) = p1 at *
          have HP1 := Lib.hid hp1
          clear hp1
          unfold wv at HS HXS
          go_wp2
          go_roundw
          case rel => exact ⟨k + 1, by omega, by go_num, by rw [HP1.out]; exact HS, HXS.out⟩
          case measure => simp [intOf]; omega
        · have hk4' : k = 4 := by omega
          subst hk4'
          have HB2 : Hid (Blk wr g 46 ((sofar blk (t + 1)).map wv)) := by
            show Blk _ _ _ _
            rw [← sofar_set blk t ht16]; exact HB1.out
          clear HB1
          go_wp2
          go_roundw
          case rel => exact ⟨t + 1, by omega, by go_num, HB2, HX1.out⟩
          case measure => simp [intOf]; omega
    · have ht16' : t = 16 := by omega
      subst ht16'
      have HB3 : Hid (Blk wr g 46 ((full blk 16).map wv)) := by
        show Blk _ _ _ _
        rw [full_sixteen]; exact HB.out
      clear HB
      go_wp2
      obtain ⟨wo, rfl⟩ : ∃ wo : World, wo = wr := ⟨_, rfl⟩
      rw [show ((16 : Nat) : Int) = 16 from rfl]
      go_loopw [6, 7, 8, 9, 10] (fun i _ _ _ _ wr => ∃ t : Nat, 16 ≤ t ∧ t ≤ 64 ∧ i = .int .i64 t ∧ Hid (Blk wr g 46 ((full blk t).map wv)) ∧ Reg.Ext w wr) (fun i _ _ _ _ _ => 64 - (intOf i).toNat)
      case atStart => exact ⟨16, by omega, by omega, rfl, HB3, HX.out⟩
      case round =>
        obtain ⟨t, ht1, ht2, rfl, HB1, hx1⟩ := hrel
        have HX1 := Lib.hid hx1
        clear HB3 HX hx1
        by_cases ht : t < 64
        · have d2 : decide ((t : Int) < 64) = true := by rw [decide_eq_true_iff]; omega
          have hc : ∀ j, j < t → wr.cell? ⟨g, j, none⟩ = some (.int .u32 (nv ((growN (t - 16) (first blk)).getD j 0#32) : Int)) := fun j hj => by
            rw [HB1.out.cell, List.getElem?_map, full_get blk t j ht1 ht2 hj]; rfl
          have c15 := hc (t - 15) (by omega)
          have c2 := hc (t - 2) (by omega)
          have c7 := hc (t - 7) (by omega)
          have c16 := hc (t - 16) (by omega)
          have fw := HB1.out.frozen t
          have c0 : ∃ v, wr.cell? ⟨g, t, none⟩ = some v := ⟨_, HB1.out.cellAt (by rw [List.length_map, full_length blk t ht1 ht2]; omega)⟩
          obtain ⟨v0, c0⟩ := c0
          have hset := HB1.out.set_ t (wv (s1 ((growN (t - 16) (first blk)).getD (t - 2) 0#32) + (growN (t - 16) (first blk)).getD (t - 7) 0#32 + s0 ((growN (t - 16) (first blk)).getD (t - 15) 0#32) + (growN (t - 16) (first blk)).getD (t - 16) 0#32))
          rw [← List.map_set, full_set blk t ht1 ht] at hset
          have hxs : Reg.Ext w (wr.setCell ⟨g, t, none⟩ (wv (s1 ((growN (t - 16) (first blk)).getD (t - 2) 0#32) + (growN (t - 16) (first blk)).getD (t - 7) 0#32 + s0 ((growN (t - 16) (first blk)).getD (t - 15) 0#32) + (growN (t - 16) (first blk)).getD (t - 16) 0#32))) := HX1.out.setCell (by rw [HG.out]; exact Nat.le_refl _) _
          have HS := Lib.hid hset
          have HXS := Lib.hid hxs
          clear hset hxs hc
          unfold wv at HS HXS
          generalize (growN (t - 16) (first blk)).getD (t - 15) 0#32 = x at *
          generalize (growN (t - 16) (first blk)).getD (t - 2) 0#32 = y at *
          generalize (growN (t - 16) (first blk)).getD (t - 7) 0#32 = x7 at *
          generalize (growN (t - 16) (first blk)).getD (t - 16) 0#32 = x16 at *
          have e3 := bv_shr x 3
          have e10 := bv_shr y 10
          simp only [Nat.reducePow, Int.cast_ofNat_Int] at e3 e10
          go_wp2
          go_region
          all_goals
            go_wp2_with fail
            refine (right_at x 7 7 _ rfl (by simp [isRot])).mono ?_
            rintro e w' ⟨rfl, rfl⟩
            go_wp2_with fail
            refine (right_at x 18 18 _ rfl (by simp [isRot])).mono ?_
            rintro e w' ⟨rfl, rfl⟩
            go_wp2_with fail
            refine (right_at y 17 17 _ rfl (by simp [isRot])).mono ?_
            rintro e w' ⟨rfl, rfl⟩
            go_wp2_with fail
            refine (right_at y 19 19 _ rfl (by simp [isRot])).mono ?_
            rintro e w' ⟨rfl, rfl⟩
            go_wp2_with fail
            go_region
          all_goals
            go_wp2
            go_roundw
            case rel => exact ⟨t + 1, by omega, by omega, by go_num, HS.out.drew.drew, (HXS.out.trans (Reg.Ext.drew _)).trans (Reg.Ext.drew _)⟩
            case measure => simp [intOf]; omega
        · have ht' : t = 64 := by omega
          subst ht'
          have HB2 : Blk wr g 46 ((spread blk).map wv) := by rw [← full_end]; exact HB1.out
          have hlen : ((spread blk).map wv).length = 64 := by rw [List.length_map, ← full_end, full_length blk 64 (by omega) (by omega)]
          clear HB1
          go_upto_region 17 with (fail)
          refine wp_region_lit ?_
          refine wpList_load_row rfl 46 _ rfl g rfl 46 ((spread blk).map wv).toArray (0, 0) _ HB2 Tryd.underlying46 rfl (by rw [List.size_toArray, hlen]; kernel_rfl) ?_
          simp only [Act.put, Act.eval, List.setIfInBounds_toArray, List.set_cons_zero, List.set_cons_succ, Nat.reduceAdd, Array.getD_eq_getD_getElem?, List.getElem?_toArray, List.getElem?_cons_succ, List.getElem?_cons_zero, Option.getD_some]
          refine wpList_store_mid rfl 46 _ _ rfl g 0 ((spread blk).map wv).toArray rfl rfl (HB2.there _ (by rw [List.size_toArray]; exact Nat.le_refl _)) (by rw [List.size_toArray, hlen]; kernel_rfl) ?_ ?_
          · refine all_oneCell_toArray fun v hv => ?_
            obtain ⟨x, _, rfl⟩ := List.mem_map.1 hv
            rfl
          have HB4 := HB2.setAll ((spread blk).map wv) rfl
          have hx4 : Reg.Ext w (wr.setCells g 0 ((spread blk).map wv)) := HX1.out.trans_but (But.setCells g _ _ _) (by rw [HG.out]; exact Nat.le_refl _)
          clear HB2 HX1
          generalize wr.setCells g 0 ((spread blk).map wv) = w5 at *
          simp only [Act.put, Act.eval, List.setIfInBounds_toArray, List.set_cons_zero, List.set_cons_succ, Nat.reduceAdd, Array.getD_eq_getD_getElem?, List.getElem?_toArray, List.getElem?_cons_succ, List.getElem?_cons_zero, Option.getD_some]
          go_wp2
          exact bodyPost_ret (results_cell_row rfl _ _ g 46 ((spread blk).map wv).toArray (0, 0) _ rfl HB4 Tryd.underlying46 rfl (by rw [List.size_toArray, hlen]; kernel_rfl)) rfl ⟨rfl, hx4⟩

def zeros64 : List Value := List.replicate 64 (Value.int .u32 0)
theorem zeros64_eq : zeros64 = [Value.int .u32 0, Value.int .u32 0, Value.int .u32 0, Value.int .u32 0, Value.int .u32 0, Value.int .u32 0, Value.int .u32 0, Value.int .u32 0, Value.int .u32 0, Value.int .u32 0, Value.int .u32 0, Value.int .u32 0, Value.int .u32 0, Value.int .u32 0, Value.int .u32 0, Value.int .u32 0, Value.int .u32 0, Value.int .u32 0, Value.int .u32 0, Value.int .u32 0, Value.int .u32 0, Value.int .u32 0, Value.int .u32 0, Value.int .u32 0, Value.int .u32 0, Value.int .u32 0, Value.int .u32 0, Value.int .u32 0, Value.int .u32 0, Value.int .u32 0, Value.int .u32 0, Value.int .u32 0, Value.int .u32 0, Value.int .u32 0, Value.int .u32 0, Value.int .u32 0, Value.int .u32 0, Value.int .u32 0, Value.int .u32 0, Value.int .u32 0, Value.int .u32 0, Value.int .u32 0, Value.int .u32 0, Value.int .u32 0, Value.int .u32 0, Value.int .u32 0, Value.int .u32 0, Value.int .u32 0, Value.int .u32 0, Value.int .u32 0, Value.int .u32 0, Value.int .u32 0, Value.int .u32 0, Value.int .u32 0, Value.int .u32 0, Value.int .u32 0, Value.int .u32 0, Value.int .u32 0, Value.int .u32 0, Value.int .u32 0, Value.int .u32 0, Value.int .u32 0, Value.int .u32 0, Value.int .u32 0] := rfl
theorem new64 (w : World) : Blk (w.alloc (Obj.cells #[Value.int .u32 0, Value.int .u32 0, Value.int .u32 0, Value.int .u32 0, Value.int .u32 0, Value.int .u32 0, Value.int .u32 0, Value.int .u32 0, Value.int .u32 0, Value.int .u32 0, Value.int .u32 0, Value.int .u32 0, Value.int .u32 0, Value.int .u32 0, Value.int .u32 0, Value.int .u32 0, Value.int .u32 0, Value.int .u32 0, Value.int .u32 0, Value.int .u32 0, Value.int .u32 0, Value.int .u32 0, Value.int .u32 0, Value.int .u32 0, Value.int .u32 0, Value.int .u32 0, Value.int .u32 0, Value.int .u32 0, Value.int .u32 0, Value.int .u32 0, Value.int .u32 0, Value.int .u32 0, Value.int .u32 0, Value.int .u32 0, Value.int .u32 0, Value.int .u32 0, Value.int .u32 0, Value.int .u32 0, Value.int .u32 0, Value.int .u32 0, Value.int .u32 0, Value.int .u32 0, Value.int .u32 0, Value.int .u32 0, Value.int .u32 0, Value.int .u32 0, Value.int .u32 0, Value.int .u32 0, Value.int .u32 0, Value.int .u32 0, Value.int .u32 0, Value.int .u32 0, Value.int .u32 0, Value.int .u32 0, Value.int .u32 0, Value.int .u32 0, Value.int .u32 0, Value.int .u32 0, Value.int .u32 0, Value.int .u32 0, Value.int .u32 0, Value.int .u32 0, Value.int .u32 0, Value.int .u32 0] 46)) w.heap.size 46 zeros64 := by
  rw [zeros64_eq]; exact Blk.new w 46 _
/-- a digest that goes on, in memory -/
def cellsOf (st : S8) (rest : List UInt8) (fill size : Nat) : List Value := st.list.map wv ++ rest.map byteV ++ [.int .i64 (fill : Int), .int .i64 (size : Int)]
def At (w : World) (p T : Nat) (st : S8) (rest : List UInt8) (fill size : Nat) : Prop := rest.length = 64 ∧ Blk w p T (cellsOf st rest fill size)
/-- the keys lie in memory -/
def Keys (w : World) : Prop := ∀ i : Nat, i < 64 → w.cell? ⟨1, i, none⟩ = some (wv (keysL.getD i 0#32))
theorem Keys.ext {w w' : World} (h : Keys w) (hx : Reg.Ext w w') : Keys w' := fun i hi => hx.at_ (h i hi)
theorem At.rest {w : World} {p T : Nat} {st : S8} {rest : List UInt8} {fill size : Nat} (h : At w p T st rest fill size) (j : Nat) (hj : j < rest.length) : w.cell? ⟨p, 8 + j, none⟩ = some (byteV rest[j]) := by
  have h64 := h.1
  rw [h.2.cell]
  unfold cellsOf
  rw [List.append_assoc, List.getElem?_append_right (by simp [S8.list]), List.getElem?_append_left (by simp [S8.list]; omega)]
  simp [S8.list, hj]
theorem At.state {w : World} {p T : Nat} {st : S8} {rest : List UInt8} {fill size : Nat} (h : At w p T st rest fill size) (j : Nat) (hj : j < 8) : w.cell? ⟨p, j, none⟩ = some (wv (st.list[j]'(by simp [S8.list]; omega))) := by
  rw [h.2.cell]
  unfold cellsOf
  rw [List.append_assoc, List.getElem?_append_left (by simp [S8.list]; omega), List.getElem?_map, List.getElem?_eq_getElem (by simp [S8.list]; omega)]
  rfl
theorem At.fill {w : World} {p T : Nat} {st : S8} {rest : List UInt8} {fill size : Nat} (h : At w p T st rest fill size) : w.cell? ⟨p, 72, none⟩ = some (.int .i64 (fill : Int)) := by
  have h64 := h.1
  rw [h.2.cell]
  unfold cellsOf
  rw [List.getElem?_append_right (by simp [S8.list]; omega)]
  simp [S8.list, h64]
theorem At.size {w : World} {p T : Nat} {st : S8} {rest : List UInt8} {fill size : Nat} (h : At w p T st rest fill size) : w.cell? ⟨p, 73, none⟩ = some (.int .i64 (size : Int)) := by
  have h64 := h.1
  rw [h.2.cell]
  unfold cellsOf
  rw [List.getElem?_append_right (by simp [S8.list]; omega)]
  simp [S8.list, h64]

set_option maxRecDepth 100000 in
set_option maxHeartbeats 1000000 in
theorem turn_any (p T : Nat) (st : S8) (rest : List UInt8) (fill size : Nat) (w : World) (h : At w p T st rest fill size) (hk : Keys w) :
    Calls Tryd.prog 18 #[.pointer (some ⟨p, 0, none⟩)] w fun e w' => e = .returned (.tuple #[]) ∧ At w' p T (ShaP.turn st rest) rest 0 size ∧ But p w w' := by
  have H := Lib.hid h
  have HK := Lib.hid hk
  clear h hk
  go_enter Tryd.func18, Tryd.ntmps18
  go_wp2_with fail
  refine (spread_any p 8 rest w H.out.1 (fun j hj => H.out.rest j hj)).mono ?_
  rintro e w1 ⟨rfl, x1⟩
  rename_i hK
  refine hK _ _ ?_
  iterate 3 go_step
  have hb2 := new64 w1
  have hx2 := Reg.Ext.alloc w1 (Obj.cells #[Value.int .u32 0, Value.int .u32 0, Value.int .u32 0, Value.int .u32 0, Value.int .u32 0, Value.int .u32 0, Value.int .u32 0, Value.int .u32 0, Value.int .u32 0, Value.int .u32 0, Value.int .u32 0, Value.int .u32 0, Value.int .u32 0, Value.int .u32 0, Value.int .u32 0, Value.int .u32 0, Value.int .u32 0, Value.int .u32 0, Value.int .u32 0, Value.int .u32 0, Value.int .u32 0, Value.int .u32 0, Value.int .u32 0, Value.int .u32 0, Value.int .u32 0, Value.int .u32 0, Value.int .u32 0, Value.int .u32 0, Value.int .u32 0, Value.int .u32 0, Value.int .u32 0, Value.int .u32 0, Value.int .u32 0, Value.int .u32 0, Value.int .u32 0, Value.int .u32 0, Value.int .u32 0, Value.int .u32 0, Value.int .u32 0, Value.int .u32 0, Value.int .u32 0, Value.int .u32 0, Value.int .u32 0, Value.int .u32 0, Value.int .u32 0, Value.int .u32 0, Value.int .u32 0, Value.int .u32 0, Value.int .u32 0, Value.int .u32 0, Value.int .u32 0, Value.int .u32 0, Value.int .u32 0, Value.int .u32 0, Value.int .u32 0, Value.int .u32 0, Value.int .u32 0, Value.int .u32 0, Value.int .u32 0, Value.int .u32 0, Value.int .u32 0, Value.int .u32 0, Value.int .u32 0, Value.int .u32 0] 46)
  have hg1 : w.heap.size ≤ w1.heap.size := x1.size
  generalize w1.alloc (Obj.cells #[Value.int .u32 0, Value.int .u32 0, Value.int .u32 0, Value.int .u32 0, Value.int .u32 0, Value.int .u32 0, Value.int .u32 0, Value.int .u32 0, Value.int .u32 0, Value.int .u32 0, Value.int .u32 0, Value.int .u32 0, Value.int .u32 0, Value.int .u32 0, Value.int .u32 0, Value.int .u32 0, Value.int .u32 0, Value.int .u32 0, Value.int .u32 0, Value.int .u32 0, Value.int .u32 0, Value.int .u32 0, Value.int .u32 0, Value.int .u32 0, Value.int .u32 0, Value.int .u32 0, Value.int .u32 0, Value.int .u32 0, Value.int .u32 0, Value.int .u32 0, Value.int .u32 0, Value.int .u32 0, Value.int .u32 0, Value.int .u32 0, Value.int .u32 0, Value.int .u32 0, Value.int .u32 0, Value.int .u32 0, Value.int .u32 0, Value.int .u32 0, Value.int .u32 0, Value.int .u32 0, Value.int .u32 0, Value.int .u32 0, Value.int .u32 0, Value.int .u32 0, Value.int .u32 0, Value.int .u32 0, Value.int .u32 0, Value.int .u32 0, Value.int .u32 0, Value.int .u32 0, Value.int .u32 0, Value.int .u32 0, Value.int .u32 0, Value.int .u32 0, Value.int .u32 0, Value.int .u32 0, Value.int .u32 0, Value.int .u32 0, Value.int .u32 0, Value.int .u32 0, Value.int .u32 0, Value.int .u32 0] 46) = w2 at *
  have hlen : ((spread rest).map wv).length = 64 := by rw [List.length_map, ← full_end, full_length rest 64 (by omega) (by omega)]
  have hcw : ∀ j, j < 64 → ((spread rest).map wv)[j]? = some (wv ((spread rest).getD j 0#32)) := fun j hj => by
    have : j < (spread rest).length := by simpa using (show j < ((spread rest).map wv).length by omega)
    rw [List.getElem?_map, List.getElem?_eq_getElem this]
    simp [List.getD, this]
  refine wpList_store_mid rfl 46 _ _ rfl w1.heap.size 0 ((spread rest).map wv).toArray rfl rfl (hb2.there _ (by rw [List.size_toArray, hlen]; exact Nat.le_refl _)) (by rw [List.size_toArray, hlen]; kernel_rfl) ?_ ?_
  · refine all_oneCell_toArray fun v hv => ?_
    obtain ⟨x, _, rfl⟩ := List.mem_map.1 hv
    rfl
  have HB3 := hb2.setAll ((spread rest).map wv) (by rw [hlen]; rfl)
  have hx3 : Reg.Ext w1 (w2.setCells w1.heap.size 0 ((spread rest).map wv)) := hx2.trans_but (But.setCells _ _ _ _) (Nat.le_refl _)
  have hgne : p ≠ w1.heap.size := by have := H.out.2.lt; omega
  have H3 := Lib.hid (show At (w2.setCells w1.heap.size 0 ((spread rest).map wv)) p T st rest fill size from ⟨H.out.1, H.out.2.ext (x1.trans hx3)⟩)
  have HK3 := Lib.hid (HK.out.ext (x1.trans hx3))
  have HX3 := Lib.hid (x1.trans hx3)
  have HCW := Lib.hid hcw
  clear hb2 hx2 hlen hcw hx3 x1 H HK
  simp only [List.toList_toArray]
  generalize w2.setCells w1.heap.size 0 ((spread rest).map wv) = w3 at *
  clear w2
  generalize w1.heap.size = g at *
  clear w1
  simp only [Act.put, Act.eval, List.setIfInBounds_toArray, List.set_cons_zero, List.set_cons_succ, Nat.reduceAdd, Array.getD_eq_getD_getElem?, List.getElem?_toArray, List.getElem?_cons_succ, List.getElem?_cons_zero, Option.getD_some]
  have s0 : w3.cell? ⟨p, 0, none⟩ = some (.int .u32 (nv st.a : Int)) := H3.out.state 0 (by omega)
  have s1 : w3.cell? ⟨p, 1, none⟩ = some (.int .u32 (nv st.b : Int)) := H3.out.state 1 (by omega)
  have s2 : w3.cell? ⟨p, 2, none⟩ = some (.int .u32 (nv st.c : Int)) := H3.out.state 2 (by omega)
  have s3 : w3.cell? ⟨p, 3, none⟩ = some (.int .u32 (nv st.d : Int)) := H3.out.state 3 (by omega)
  have s4 : w3.cell? ⟨p, 4, none⟩ = some (.int .u32 (nv st.e : Int)) := H3.out.state 4 (by omega)
  have s5 : w3.cell? ⟨p, 5, none⟩ = some (.int .u32 (nv st.f : Int)) := H3.out.state 5 (by omega)
  have s6 : w3.cell? ⟨p, 6, none⟩ = some (.int .u32 (nv st.g : Int)) := H3.out.state 6 (by omega)
  have s7 : w3.cell? ⟨p, 7, none⟩ = some (.int .u32 (nv st.h : Int)) := H3.out.state 7 (by omega)
  go_wp2
  go_quiet (fail)
  go_wp2
  go_quiet (fail)
  go_wp2
  go_loopw [3, 4, 5, 6, 7, 8, 9, 10, 62] (fun a b c d e f g h i wr => ∃ t : Nat, t ≤ 64 ∧ i = .int .i64 t ∧ a = wv (ShaP.rounds (spread rest) t st).a ∧ b = wv (ShaP.rounds (spread rest) t st).b ∧ c = wv (ShaP.rounds (spread rest) t st).c ∧ d = wv (ShaP.rounds (spread rest) t st).d ∧ e = wv (ShaP.rounds (spread rest) t st).e ∧ f = wv (ShaP.rounds (spread rest) t st).f ∧ g = wv (ShaP.rounds (spread rest) t st).g ∧ h = wv (ShaP.rounds (spread rest) t st).h ∧ Hid (Reg.Ext w3 wr)) (fun _ _ _ _ _ _ _ _ i _ => 64 - (intOf i).toNat)
  case atStart => exact ⟨0, by omega, rfl, rfl, rfl, rfl, rfl, rfl, rfl, rfl, rfl, (Reg.Ext.drewN _ _).trans (Reg.Ext.drewN _ _)⟩
  case round =>
    obtain ⟨t, ht, rfl, rfl, rfl, rfl, rfl, rfl, rfl, rfl, rfl, HXR⟩ := hrel
    clear s0 s1 s2 s3 s4 s5 s6 s7
    by_cases ht64 : t < 64
    · as_aux_lemma =>
      have d1 : decide ((t : Int) < 64) = true := by rw [decide_eq_true_iff]; omega
      have ck := (HK3.out.ext HXR.out) t ht64
      have cw : wr.cell? ⟨g, t, none⟩ = some (wv ((spread rest).getD t 0#32)) := HXR.out.at_ (by rw [HB3.cell]; exact HCW.out t ht64)
      have hr := ShaP.rounds_succ (spread rest) t st
      have HR := Lib.hid hr
      clear hr
      generalize ShaP.rounds (spread rest) t st = v at *
      generalize (spread rest).getD t 0#32 = wt at *
      generalize keysL.getD t 0#32 = kt at *
      obtain ⟨a, b, c, d, e, f, g', h⟩ := v
      unfold wv at *
      dsimp only at *
      go_wp2_with fail
      refine (right_at e 6 6 _ rfl (by simp [isRot])).mono ?_
      rintro q w' ⟨rfl, rfl⟩
      go_wp2_with fail
      refine (right_at e 11 11 _ rfl (by simp [isRot])).mono ?_
      rintro q w' ⟨rfl, rfl⟩
      go_wp2_with fail
      refine (right_at e 25 25 _ rfl (by simp [isRot])).mono ?_
      rintro q w' ⟨rfl, rfl⟩
      go_wp2_with fail
      go_quiet (fail)
      go_wp2_with fail
      refine (right_at a 2 2 _ rfl (by simp [isRot])).mono ?_
      rintro q w' ⟨rfl, rfl⟩
      go_wp2_with fail
      refine (right_at a 13 13 _ rfl (by simp [isRot])).mono ?_
      rintro q w' ⟨rfl, rfl⟩
      go_wp2_with fail
      refine (right_at a 22 22 _ rfl (by simp [isRot])).mono ?_
      rintro q w' ⟨rfl, rfl⟩
      go_wp2
      go_roundw
      case rel => exact ⟨t + 1, by omega, by go_num, by rw [HR.out]; rfl, by rw [HR.out]; rfl, by rw [HR.out]; rfl, by rw [HR.out]; rfl, by rw [HR.out]; rfl, by rw [HR.out]; rfl, by rw [HR.out]; rfl, by rw [HR.out]; rfl, HXR.out.trans (Reg.Ext.drewN _ _)⟩
      case measure => simp [intOf]; omega
    · have ht' : t = 64 := by omega
      subst ht'
      have hturn : ShaP.turn st rest = adds 8 st (ShaP.rounds (spread rest) 64 st) := rfl
      have HTU := Lib.hid hturn
      clear hturn
      generalize ShaP.rounds (spread rest) 64 st = v at *
      have H4 : Hid (At wr p T (adds 0 st v) rest fill size) := ⟨H3.out.1, H3.out.2.ext HXR.out⟩
      have hbut : Hid (But p w wr) := But.of_ext (HX3.out.trans HXR.out)
      clear H3 HK3 HX3 HXR HB3 HCW
      obtain ⟨wo, rfl⟩ : ∃ wo : World, wo = wr := ⟨_, rfl⟩
      unfold wv
      go_wp2
      go_loopw [16, 17, 136] (fun _ _ i wr => ∃ k : Nat, k ≤ 8 ∧ i = .int .i64 k ∧ Hid (At wr p T (adds k st v) rest fill size) ∧ Hid (But p w wr)) (fun _ _ i _ => 8 - (intOf i).toNat)
      case atStart => exact ⟨0, by omega, rfl, H4, hbut⟩
      case round =>
        obtain ⟨k, hk, rfl, H5, HBU⟩ := hrel
        clear H4 hbut
        have fr := fun i => H5.out.2.frozen i
        rcases (by omega : k = 0 ∨ k = 1 ∨ k = 2 ∨ k = 3 ∨ k = 4 ∨ k = 5 ∨ k = 6 ∨ k = 7 ∨ k = 8) with rfl | rfl | rfl | rfl | rfl | rfl | rfl | rfl | rfl
        · as_aux_lemma =>
          have c1 : wr.cell? ⟨p, 0, none⟩ = some (.int .u32 (nv st.a : Int)) := H5.out.state 0 (by omega)
          have f1 : wr.frozen? ⟨p, 0, none⟩ = false := fr 0
          have ix : ∀ W, (Instr.index 38 (.agg #[.int .u32 (nv v.a : Int), .int .u32 (nv v.b : Int), .int .u32 (nv v.c : Int), .int .u32 (nv v.d : Int), .int .u32 (nv v.e : Int), .int .u32 (nv v.f : Int), .int .u32 (nv v.g : Int), .int .u32 (nv v.h : Int)]) (.int .i64 0)).run Tryd.prog W = .ok (.int .u32 (nv v.a : Int)) W := fun _ => by as_aux_lemma => kernel_rfl
          have h6 : Hid (At (wr.setCell ⟨p, 0, none⟩ (.int .u32 (nv (st.a + v.a) : Int))) p T (adds 1 st v) rest fill size) := ⟨H5.out.1, H5.out.2.set_ 0 (wv (st.a + v.a))⟩
          have b6 : Hid (But p w (wr.setCell ⟨p, 0, none⟩ (.int .u32 (nv (st.a + v.a) : Int)))) := HBU.out.trans (But.set_ _ _ _ _)
          clear fr H5 HBU
          go_wp2
          go_region
          all_goals
            go_wp2
            go_roundw
            case rel => exact ⟨1, by omega, by rfl, ⟨h6.out.1, h6.out.2.drew⟩, b6.out.trans (But.of_ext (Reg.Ext.drew _))⟩
            case measure => simp [intOf]
        · as_aux_lemma =>
          have c1 : wr.cell? ⟨p, 1, none⟩ = some (.int .u32 (nv st.b : Int)) := H5.out.state 1 (by omega)
          have f1 : wr.frozen? ⟨p, 1, none⟩ = false := fr 1
          have ix : ∀ W, (Instr.index 38 (.agg #[.int .u32 (nv v.a : Int), .int .u32 (nv v.b : Int), .int .u32 (nv v.c : Int), .int .u32 (nv v.d : Int), .int .u32 (nv v.e : Int), .int .u32 (nv v.f : Int), .int .u32 (nv v.g : Int), .int .u32 (nv v.h : Int)]) (.int .i64 1)).run Tryd.prog W = .ok (.int .u32 (nv v.b : Int)) W := fun _ => by as_aux_lemma => kernel_rfl
          have h6 : Hid (At (wr.setCell ⟨p, 1, none⟩ (.int .u32 (nv (st.b + v.b) : Int))) p T (adds 2 st v) rest fill size) := ⟨H5.out.1, H5.out.2.set_ 1 (wv (st.b + v.b))⟩
          have b6 : Hid (But p w (wr.setCell ⟨p, 1, none⟩ (.int .u32 (nv (st.b + v.b) : Int)))) := HBU.out.trans (But.set_ _ _ _ _)
          clear fr H5 HBU
          go_wp2
          go_region
          all_goals
            go_wp2
            go_roundw
            case rel => exact ⟨2, by omega, by rfl, ⟨h6.out.1, h6.out.2.drew⟩, b6.out.trans (But.of_ext (Reg.Ext.drew _))⟩
            case measure => simp [intOf]
        · as_aux_lemma =>
          have c1 : wr.cell? ⟨p, 2, none⟩ = some (.int .u32 (nv st.c : Int)) := H5.out.state 2 (by omega)
          have f1 : wr.frozen? ⟨p, 2, none⟩ = false := fr 2
          have ix : ∀ W, (Instr.index 38 (.agg #[.int .u32 (nv v.a : Int), .int .u32 (nv v.b : Int), .int .u32 (nv v.c : Int), .int .u32 (nv v.d : Int), .int .u32 (nv v.e : Int), .int .u32 (nv v.f : Int), .int .u32 (nv v.g : Int), .int .u32 (nv v.h : Int)]) (.int .i64 2)).run Tryd.prog W = .ok (.int .u32 (nv v.c : Int)) W := fun _ => by as_aux_lemma => kernel_rfl
          have h6 : Hid (At (wr.setCell ⟨p, 2, none⟩ (.int .u32 (nv (st.c + v.c) : Int))) p T (adds 3 st v) rest fill size) := ⟨H5.out.1, H5.out.2.set_ 2 (wv (st.c + v.c))⟩
          have b6 : Hid (But p w (wr.setCell ⟨p, 2, none⟩ (.int .u32 (nv (st.c + v.c) : Int)))) := HBU.out.trans (But.set_ _ _ _ _)
          clear fr H5 HBU
          go_wp2
          go_region
          all_goals
            go_wp2
            go_roundw
            case rel => exact ⟨3, by omega, by rfl, ⟨h6.out.1, h6.out.2.drew⟩, b6.out.trans (But.of_ext (Reg.Ext.drew _))⟩
            case measure => simp [intOf]
        · as_aux_lemma =>
          have c1 : wr.cell? ⟨p, 3, none⟩ = some (.int .u32 (nv st.d : Int)) := H5.out.state 3 (by omega)
          have f1 : wr.frozen? ⟨p, 3, none⟩ = false := fr 3
          have ix : ∀ W, (Instr.index 38 (.agg #[.int .u32 (nv v.a : Int), .int .u32 (nv v.b : Int), .int .u32 (nv v.c : Int), .int .u32 (nv v.d : Int), .int .u32 (nv v.e : Int), .int .u32 (nv v.f : Int), .int .u32 (nv v.g : Int), .int .u32 (nv v.h : Int)]) (.int .i64 3)).run Tryd.prog W = .ok (.int .u32 (nv v.d : Int)) W := fun _ => by as_aux_lemma => kernel_rfl
          have h6 : Hid (At (wr.setCell ⟨p, 3, none⟩ (.int .u32 (nv (st.d + v.d) : Int))) p T (adds 4 st v) rest fill size) := ⟨H5.out.1, H5.out.2.set_ 3 (wv (st.d + v.d))⟩
          have b6 : Hid (But p w (wr.setCell ⟨p, 3, none⟩ (.int .u32 (nv (st.d + v.d) : Int)))) := HBU.out.trans (But.set_ _ _ _ _)
          clear fr H5 HBU
          go_wp2
          go_region
          all_goals
            go_wp2
            go_roundw
            case rel => exact ⟨4, by omega, by rfl, ⟨h6.out.1, h6.out.2.drew⟩, b6.out.trans (But.of_ext (Reg.Ext.drew _))⟩
            case measure => simp [intOf]
        · as_aux_lemma =>
          have c1 : wr.cell? ⟨p, 4, none⟩ = some (.int .u32 (nv st.e : Int)) := H5.out.state 4 (by omega)
          have f1 : wr.frozen? ⟨p, 4, none⟩ = false := fr 4
          have ix : ∀ W, (Instr.index 38 (.agg #[.int .u32 (nv v.a : Int), .int .u32 (nv v.b : Int), .int .u32 (nv v.c : Int), .int .u32 (nv v.d : Int), .int .u32 (nv v.e : Int), .int .u32 (nv v.f : Int), .int .u32 (nv v.g : Int), .int .u32 (nv v.h : Int)]) (.int .i64 4)).run Tryd.prog W = .ok (.int .u32 (nv v.e : Int)) W := fun _ => by as_aux_lemma => kernel_rfl
          have h6 : Hid (At (wr.setCell ⟨p, 4, none⟩ (.int .u32 (nv (st.e + v.e) : Int))) p T (adds 5 st v) rest fill size) := ⟨H5.out.1, H5.out.2.set_ 4 (wv (st.e + v.e))⟩
          have b6 : Hid (But p w (wr.setCell ⟨p, 4, none⟩ (.int .u32 (nv (st.e + v.e) : Int)))) := HBU.out.trans (But.set_ _ _ _ _)
          clear fr H5 HBU
          go_wp2
          go_region
          all_goals
            go_wp2
            go_roundw
            case rel => exact ⟨5, by omega, by rfl, ⟨h6.out.1, h6.out.2.drew⟩, b6.out.trans (But.of_ext (Reg.Ext.drew _))⟩
            case measure => simp [intOf]
        · as_aux_lemma =>
          have c1 : wr.cell? ⟨p, 5, none⟩ = some (.int .u32 (nv st.f : Int)) := H5.out.state 5 (by omega)
          have f1 : wr.frozen? ⟨p, 5, none⟩ = false := fr 5
          have ix : ∀ W, (Instr.index 38 (.agg #[.int .u32 (nv v.a : Int), .int .u32 (nv v.b : Int), .int .u32 (nv v.c : Int), .int .u32 (nv v.d : Int), .int .u32 (nv v.e : Int), .int .u32 (nv v.f : Int), .int .u32 (nv v.g : Int), .int .u32 (nv v.h : Int)]) (.int .i64 5)).run Tryd.prog W = .ok (.int .u32 (nv v.f : Int)) W := fun _ => by as_aux_lemma => kernel_rfl
          have h6 : Hid (At (wr.setCell ⟨p, 5, none⟩ (.int .u32 (nv (st.f + v.f) : Int))) p T (adds 6 st v) rest fill size) := ⟨H5.out.1, H5.out.2.set_ 5 (wv (st.f + v.f))⟩
          have b6 : Hid (But p w (wr.setCell ⟨p, 5, none⟩ (.int .u32 (nv (st.f + v.f) : Int)))) := HBU.out.trans (But.set_ _ _ _ _)
          clear fr H5 HBU
          go_wp2
          go_region
          all_goals
            go_wp2
            go_roundw
            case rel => exact ⟨6, by omega, by rfl, ⟨h6.out.1, h6.out.2.drew⟩, b6.out.trans (But.of_ext (Reg.Ext.drew _))⟩
            case measure => simp [intOf]
        · as_aux_lemma =>
          have c1 : wr.cell? ⟨p, 6, none⟩ = some (.int .u32 (nv st.g : Int)) := H5.out.state 6 (by omega)
          have f1 : wr.frozen? ⟨p, 6, none⟩ = false := fr 6
          have ix : ∀ W, (Instr.index 38 (.agg #[.int .u32 (nv v.a : Int), .int .u32 (nv v.b : Int), .int .u32 (nv v.c : Int), .int .u32 (nv v.d : Int), .int .u32 (nv v.e : Int), .int .u32 (nv v.f : Int), .int .u32 (nv v.g : Int), .int .u32 (nv v.h : Int)]) (.int .i64 6)).run Tryd.prog W = .ok (.int .u32 (nv v.g : Int)) W := fun _ => by as_aux_lemma => kernel_rfl
          have h6 : Hid (At (wr.setCell ⟨p, 6, none⟩ (.int .u32 (nv (st.g + v.g) : Int))) p T (adds 7 st v) rest fill size) := ⟨H5.out.1, H5.out.2.set_ 6 (wv (st.g + v.g))⟩
          have b6 : Hid (But p w (wr.setCell ⟨p, 6, none⟩ (.int .u32 (nv (st.g + v.g) : Int)))) := HBU.out.trans (But.set_ _ _ _ _)
          clear fr H5 HBU
          go_wp2
          go_region
          all_goals
            go_wp2
            go_roundw
            case rel => exact ⟨7, by omega, by rfl, ⟨h6.out.1, h6.out.2.drew⟩, b6.out.trans (But.of_ext (Reg.Ext.drew _))⟩
            case measure => simp [intOf]
        · as_aux_lemma =>
          have c1 : wr.cell? ⟨p, 7, none⟩ = some (.int .u32 (nv st.h : Int)) := H5.out.state 7 (by omega)
          have f1 : wr.frozen? ⟨p, 7, none⟩ = false := fr 7
          have ix : ∀ W, (Instr.index 38 (.agg #[.int .u32 (nv v.a : Int), .int .u32 (nv v.b : Int), .int .u32 (nv v.c : Int), .int .u32 (nv v.d : Int), .int .u32 (nv v.e : Int), .int .u32 (nv v.f : Int), .int .u32 (nv v.g : Int), .int .u32 (nv v.h : Int)]) (.int .i64 7)).run Tryd.prog W = .ok (.int .u32 (nv v.h : Int)) W := fun _ => by as_aux_lemma => kernel_rfl
          have h6 : Hid (At (wr.setCell ⟨p, 7, none⟩ (.int .u32 (nv (st.h + v.h) : Int))) p T (adds 8 st v) rest fill size) := ⟨H5.out.1, H5.out.2.set_ 7 (wv (st.h + v.h))⟩
          have b6 : Hid (But p w (wr.setCell ⟨p, 7, none⟩ (.int .u32 (nv (st.h + v.h) : Int)))) := HBU.out.trans (But.set_ _ _ _ _)
          clear fr H5 HBU
          go_wp2
          go_region
          all_goals
            go_wp2
            go_roundw
            case rel => exact ⟨8, by omega, by rfl, ⟨h6.out.1, h6.out.2.drew⟩, b6.out.trans (But.of_ext (Reg.Ext.drew _))⟩
            case measure => simp [intOf]
        · as_aux_lemma =>
          have c1 := H5.out.fill
          have f1 : wr.frozen? ⟨p, 72, none⟩ = false := fr 72
          have hset := H5.out.2.set_ 72 (.int .i64 (0 : Int))
          have hce : (cellsOf (adds 8 st v) rest fill size).set 72 (.int .i64 (0 : Int)) = cellsOf (adds 8 st v) rest 0 size := by
            have h64 := H5.out.1
            unfold cellsOf
            rw [List.set_append_right _ _ (by simp [S8.list]; omega)]
            simp [S8.list, h64]
          rw [hce] at hset
          have H6 : Hid (At (wr.setCell ⟨p, 72, none⟩ (.int .i64 0)) p T (ShaP.turn st rest) rest 0 size) := ⟨H5.out.1, by rw [HTU.out]; exact hset⟩
          have B6 : Hid (But p w (wr.setCell ⟨p, 72, none⟩ (.int .i64 0))) := HBU.out.trans (But.set_ _ _ _ _)
          clear fr hset hce H5 HBU
          go_wp2
          go_end0
          exact ⟨rfl, H6.out, B6.out⟩
end Sha
end Go.Proofs.YthgbhpeidngjmaaDoor

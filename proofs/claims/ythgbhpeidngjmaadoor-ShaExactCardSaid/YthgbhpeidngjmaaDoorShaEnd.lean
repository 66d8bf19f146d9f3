/- The walks of package sha: finish, Sum, Of. -/
import Derived.Test.YthgbhpeidngjmaaDoorShaNew
import Derived.Deep.OwnRows
set_option linter.unusedSimpArgs false
set_option linter.unusedVariables false
set_option linter.unusedSectionVars false
namespace Go.Proofs.YthgbhpeidngjmaaDoor
open Go.RowKit
namespace Sha
open ShaP
theorem info_byte : (Tryd.prog.info? 5).map (fun i => (i.zero, i.size, i.bytes)) = some (some (.int .u8 0), 1, 1) := by kernel_rfl
/-- what finish lays: k bytes of the length are told -/
def padB (z n k : Nat) : List UInt8 := 128 :: (List.replicate (z + 8 - k) 0 ++ (be8 (n * 8)).drop (8 - k))
def pad (z n k : Nat) : List Value := (padB z n k).map byteV
theorem pad_cell (z n k : Nat) (hk : k < 8) : (pad z n k)[1 + z + 7 - k]? = some (.int .u8 0) := by
  rw [show 1 + z + 7 - k = (z + 7 - k) + 1 by omega, pad, padB, List.map_cons, List.getElem?_cons_succ, List.map_append, List.getElem?_append_left (by simp; omega)]
  rw [List.map_replicate, List.getElem?_replicate, if_pos (by omega)]
  rfl
theorem pad_set (z n k : Nat) (hk : k < 8) : (pad z n k).set (1 + z + 7 - k) (.int .u8 ((n : Int) * 8 / 2 ^ (8 * k) % 256)) = pad z n (k + 1) := by
  rw [show 1 + z + 7 - k = (z + 7 - k) + 1 by omega, pad, padB, List.map_cons, List.set_cons_succ, List.map_append, List.set_append_left _ _ (by simp; omega)]
  have e1 : (List.map byteV (List.replicate (z + 8 - k) 0)).set (z + 7 - k) (.int .u8 ((n : Int) * 8 / 2 ^ (8 * k) % 256)) = List.map byteV (List.replicate (z + 8 - (k + 1)) 0) ++ [.int .u8 ((n : Int) * 8 / 2 ^ (8 * k) % 256)] := by
    rw [show z + 8 - k = (z + 7 - k) + 1 by omega, List.replicate_succ', List.map_append, List.set_append_right _ _ (by simp)]
    simp [show z + 8 - (k + 1) = z + 7 - k by omega]
  have e2 : (be8 (n * 8)).drop (8 - (k + 1)) = UInt8.ofNat (n * 8 / 256 ^ k % 256) :: (be8 (n * 8)).drop (8 - k) := by
    rcases (by omega : k = 0 ∨ k = 1 ∨ k = 2 ∨ k = 3 ∨ k = 4 ∨ k = 5 ∨ k = 6 ∨ k = 7) with rfl | rfl | rfl | rfl | rfl | rfl | rfl | rfl <;> rfl
  have e3 : (Value.int .u8 ((n : Int) * 8 / 2 ^ (8 * k) % 256)) = byteV (UInt8.ofNat (n * 8 / 256 ^ k % 256)) := by
    have e4 : (2 : Int) ^ (8 * k) = ((256 ^ k : Nat) : Int) := by rw [Int.pow_mul]; norm_cast
    unfold byteV
    have e5 : (UInt8.ofNat (n * 8 / 256 ^ k % 256)).toNat = n * 8 / 256 ^ k % 256 := UInt8.toNat_ofNat_of_lt' (by show _ < 256; omega)
    rw [e4, e5]
    have e6 : ((n * 8 / 256 ^ k % 256 : Nat) : Int) = (n : Int) * 8 / ((256 ^ k : Nat) : Int) % 256 := by
      rw [Int.natCast_emod, Int.natCast_ediv, Int.natCast_mul]; rfl
    rw [e6]
  rw [e1, e3, pad, padB, e2]
  simp
theorem pad_zero (z n : Nat) : ((madeCells #[Value.int IntKind.u8 0] (1 + z + 8)).setIfInBounds 0 (Value.int IntKind.u8 128)).toList = pad z n 0 := by
  apply List.ext_getElem?
  intro j
  have h8 : (be8 (n * 8)).drop (8 - 0) = [] := rfl
  rw [pad, padB, h8]
  cases j with
  | zero => simp [madeCells]; rfl
  | succ j =>
    simp [madeCells, byteV, List.getElem?_replicate]
    by_cases h : j < z + 8
    · rw [List.getElem?_range (by omega)]
      simp [h, Nat.mod_one]
    · rw [List.getElem?_eq_none (by simp; omega)]
      simp [h]
set_option maxRecDepth 100000 in
set_option maxHeartbeats 1000000 in
theorem finish_any (p T : Nat) (l : List UInt8) (w : World) (h : Abs w p T l l.length) (hk : Keys w) (hkp : p ≠ 1) (hl : l.length < 1152921504606846976) :
    Calls Tryd.prog 15 #[.pointer (some ⟨p, 0, none⟩)] w fun e w' => e = .returned (.tuple #[]) ∧ Abs w' p T (padded l) l.length ∧ But p w w' := by
  obtain ⟨rest, hat, hrest⟩ := h
  have cs := hat.size_
  have cf := hat.fill
  have hf64 : l.length % 64 < 64 := Nat.mod_lt _ (by decide)
  have hz64 : zeros l.length < 64 := Nat.mod_lt _ (by decide)
  have hzv : Int.tmod (119 - ((l.length % 64 : Nat) : Int)) 64 = (zeros l.length : Int) := by
    rw [Int.tmod_eq_emod_of_nonneg (by omega)]
    unfold zeros
    omega
  have HA : Hid (Abs w p T l l.length) := ⟨rest, hat, hrest⟩
  have HK := Lib.hid hk
  clear hat hk hrest
  generalize hzz : zeros l.length = z at *
  generalize hff : l.length % 64 = f at *
  have HZZ := Lib.hid hzz
  have HFF := Lib.hid hff
  clear hzz hff
  have hmk := run_make_row' (P := Tryd.prog) 44 5 (.int .u8 0) 1 Tryd.underlying44 info_byte rfl .i64 .i64 (1 + z + 8) (by omega) (by omega)
  simp only [show ((1 + z + 8 : Nat) : Int) = 1 + (z : Int) + 8 by omega] at hmk
  go_enter Tryd.func15, Tryd.ntmps15
  have hm0 : (madeCells #[Value.int IntKind.u8 0] (1 + z + 8))[0]? = some (Value.int IntKind.u8 0) := by
    have h9 : 0 < 1 + z + 8 := by omega
    simp [madeCells, h9]
  go_wp2
  have hb0 : Blk (w.alloc (Obj.cells ((madeCells #[Value.int IntKind.u8 0] (1 + z + 8)).setIfInBounds 0 (Value.int IntKind.u8 128)) 5)) w.heap.size 5 (pad z l.length 0) := by
    have := Blk.new w 5 ((madeCells #[Value.int IntKind.u8 0] (1 + z + 8)).setIfInBounds 0 (Value.int IntKind.u8 128))
    rw [pad_zero] at this
    exact this
  have hx0 := Reg.Ext.alloc w (Obj.cells ((madeCells #[Value.int IntKind.u8 0] (1 + z + 8)).setIfInBounds 0 (Value.int IntKind.u8 128)) 5)
  generalize w.alloc (Obj.cells ((madeCells #[Value.int IntKind.u8 0] (1 + z + 8)).setIfInBounds 0 (Value.int IntKind.u8 128)) 5) = w2 at *
  have HB0 := Lib.hid hb0
  have HX0 := Lib.hid hx0
  clear hb0 hx0 hmk
  go_loopw [5, 24] (fun _ i wr => ∃ k : Nat, k ≤ 8 ∧ i = .int .i64 k ∧ Hid (Blk wr w.heap.size 5 (pad z l.length k)) ∧ Hid (Reg.Ext w wr)) (fun _ i _ => 8 - (intOf i).toNat)
  case atStart => exact ⟨0, by omega, rfl, HB0, HX0⟩
  case round =>
    obtain ⟨k, hk, rfl, HB, HX⟩ := hrel
    by_cases hk8 : k < 8
    · have hbk := HB.out
      have ci : wr.cell? ⟨w.heap.size, 1 + z + 7 - k, none⟩ = some (.int .u8 0) := by rw [hbk.cell]; exact pad_cell z l.length k hk8
      have fi := hbk.frozen (1 + z + 7 - k)
      have hs := hbk.set_ (1 + z + 7 - k) (.int .u8 ((l.length : Int) * 8 / 2 ^ (8 * k) % 256))
      rw [pad_set z l.length k hk8] at hs
      have HS := Lib.hid hs
      have HX2 := Lib.hid (HX.out.trans_but (But.set_ w.heap.size wr (1 + z + 7 - k) (.int .u8 ((l.length : Int) * 8 / 2 ^ (8 * k) % 256))) (Nat.le_refl _))
      clear hs hbk
      go_wp2
      go_roundw
      case rel => exact ⟨k + 1, by omega, by go_num, HS, HX2⟩
      case measure => simp [intOf]; omega
    · have hk' : k = 8 := by omega
      subst hk'
      have hpl : (padB z l.length 8).length = 1 + z + 8 := by simp [padB, be8]; omega
      have hcv := conv_bytes (P := Tryd.prog) wr 44 9 5 Tryd.underlying44 Tryd.underlying5 Tryd.underlying9 w.heap.size 0 (1 + z + 8) (1 + z + 8) (padB z l.length 8) hpl (fun j hj => by
        rw [Nat.zero_add, HB.out.cell, pad, List.getElem?_map, List.getElem?_eq_getElem hj]; rfl)
      have hpe : padB z l.length 8 = padding l.length := by
        rw [padB, padding, HZZ.out]; simp
      have HPE := Lib.hid hpe
      have hpsz : (⟨(padB z l.length 8).toArray⟩ : ByteArray).size ≤ maxLen := by show (padB z l.length 8).toArray.size ≤ _; rw [List.size_toArray, hpl]; unfold maxLen; omega
      have HPS := Lib.hid hpsz
      obtain ⟨rest, hat, hrest⟩ := HA.out
      have HA2 := Lib.hid (show Abs wr p T l l.length from ⟨rest, ⟨hat.1, hat.2.ext HX.out⟩, hrest⟩)
      have HK2 := Lib.hid (HK.out.ext HX.out)
      clear hat hrest hpe hpsz hpl
      go_wp2_with fail
      refine (put_any p T l l.length _ _ HA2.out HK2.out hkp HPS.out).mono ?_
      rintro q w4 ⟨rfl, ha4, hb4⟩
      have HA4 : Hid (Abs w4 p T (padded l) l.length) := by
        show Abs _ _ _ _ _
        rw [padded, ← HPE.out]; exact ha4
      have HB4 := Lib.hid ((But.of_ext HX.out).trans hb4)
      clear ha4 hb4
      go_wp2
      exact Go.Great.bodyPost_end0 rfl rfl ⟨rfl, HA4.out, HB4.out⟩
end Sha
end Go.Proofs.YthgbhpeidngjmaaDoor

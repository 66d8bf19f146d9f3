/- The walks of package sha: Sum. -/
import Derived.Test.YthgbhpeidngjmaaDoorShaEnd
set_option linter.unusedSimpArgs false
set_option linter.unusedVariables false
set_option linter.unusedSectionVars false
namespace Go.Proofs.YthgbhpeidngjmaaDoor
open Go.RowKit
namespace Sha
open ShaP
/-- so many bytes of the digest are laid -/
def prog (o : List UInt8) (n : Nat) : List Value := (o.take n ++ List.replicate (32 - n) 0).map byteV
theorem prog_zero (o : List UInt8) : prog o 0 = List.replicate 32 (Value.int .u8 0) := by
  simp [prog, byteV]
theorem out_length (s : S8) : (out s).length = 32 := rfl
theorem prog_length (s : S8) (n : Nat) (hn : n ≤ 32) : (prog (out s) n).length = 32 := by
  rw [prog, List.length_map, List.length_append, List.length_take, out_length, List.length_replicate]; omega
theorem prog_end (s : S8) : prog (out s) 32 = (out s).map byteV := by
  rw [prog, List.take_of_length_le (by rw [out_length]; exact Nat.le_refl _)]; simp
theorem prog_set (s : S8) (n : Nat) (c : UInt8) (hn : n < 32) (hc : (out s)[n]? = some c) : (prog (out s) n).set n (byteV c) = prog (out s) (n + 1) := by
  have hl : ((out s).take n).length = n := by rw [List.length_take, out_length]; omega
  unfold prog
  rw [← List.map_set, List.set_append_right _ _ (by omega), hl, Nat.sub_self, show 32 - n = (32 - (n + 1)) + 1 by omega, List.replicate_succ, List.set_cons_zero]
  have e2 : (out s).take (n + 1) = (out s).take n ++ [c] := by
    rw [List.take_add_one, hc]; rfl
  rw [e2, List.append_assoc]
  rfl
theorem out_get (s : S8) (k j : Nat) (hk : k < 8) (hj : j < 4) : (out s)[4 * k + j]? = some (UInt8.ofNat (nv (s.list.getD k 0#32) / 256 ^ (3 - j) % 256)) := by
  rcases (by omega : k = 0 ∨ k = 1 ∨ k = 2 ∨ k = 3 ∨ k = 4 ∨ k = 5 ∨ k = 6 ∨ k = 7) with rfl | rfl | rfl | rfl | rfl | rfl | rfl | rfl <;>
    rcases (by omega : j = 0 ∨ j = 1 ∨ j = 2 ∨ j = 3) with rfl | rfl | rfl | rfl <;> first | rfl | (simp only [Nat.sub_self, Nat.pow_zero, Nat.div_one]; rfl)
theorem out_byte (x : W) (j : Nat) : byteV (UInt8.ofNat (nv x / 256 ^ (3 - j) % 256)) = .int .u8 ((nv x : Int) / ((256 ^ (3 - j) : Nat) : Int) % 256) := by
  have e5 : (UInt8.ofNat (nv x / 256 ^ (3 - j) % 256)).toNat = nv x / 256 ^ (3 - j) % 256 := UInt8.toNat_ofNat_of_lt' (by show _ < 256; omega)
  unfold byteV
  rw [e5, Int.natCast_emod, Int.natCast_ediv]
  rfl
theorem ix8 (a b c d e f g h : W) (k : Nat) (hk : k < 8) : ∀ V, (Instr.index 38 (.agg #[.int .u32 (nv a : Int), .int .u32 (nv b : Int), .int .u32 (nv c : Int), .int .u32 (nv d : Int), .int .u32 (nv e : Int), .int .u32 (nv f : Int), .int .u32 (nv g : Int), .int .u32 (nv h : Int)]) (.int .i64 (k : Int))).run Tryd.prog V = .ok (.int .u32 (nv ((S8.mk a b c d e f g h).list.getD k 0#32) : Int)) V := by
  intro V
  rcases (by omega : k = 0 ∨ k = 1 ∨ k = 2 ∨ k = 3 ∨ k = 4 ∨ k = 5 ∨ k = 6 ∨ k = 7) with rfl | rfl | rfl | rfl | rfl | rfl | rfl | rfl <;> as_aux_lemma => kernel_rfl
def zeros32 : List Value := List.replicate 32 (Value.int .u8 0)
theorem At.st {w : World} {p T : Nat} {st : S8} {rest : List UInt8} {f size : Nat} (h : At w p T st rest f size) (j : Nat) (hj : j < 8) (x : W) (hx : st.list[j]? = some x) : w.cell? ⟨p, j, none⟩ = some (.int .u32 (nv x : Int)) := by
  rw [h.state j hj]
  rw [List.getElem?_eq_getElem (by simp [S8.list]; omega)] at hx
  injection hx with hx
  rw [hx]; rfl
set_option maxRecDepth 100000 in
set_option maxHeartbeats 2000000 in
theorem sum_any (p T : Nat) (l : List UInt8) (w : World) (h : Abs w p T l l.length) (hk : Keys w) (hg : 1 < w.heap.size) (hl : l.length < 1152921504606846976) :
    Calls Tryd.prog 9 #[.pointer (some ⟨p, 0, none⟩)] w fun e w' => e = .returned (.agg ((sum l).map byteV).toArray) ∧ Reg.Ext w w' := by
  go_enter Tryd.func9, Tryd.ntmps9
  go_wp2_with fail
  have hb0 := Blk.new w 28 #[Value.int .u8 0, Value.int .u8 0, Value.int .u8 0, Value.int .u8 0, Value.int .u8 0, Value.int .u8 0, Value.int .u8 0, Value.int .u8 0, Value.int .u8 0, Value.int .u8 0, Value.int .u8 0, Value.int .u8 0, Value.int .u8 0, Value.int .u8 0, Value.int .u8 0, Value.int .u8 0, Value.int .u8 0, Value.int .u8 0, Value.int .u8 0, Value.int .u8 0, Value.int .u8 0, Value.int .u8 0, Value.int .u8 0, Value.int .u8 0, Value.int .u8 0, Value.int .u8 0, Value.int .u8 0, Value.int .u8 0, Value.int .u8 0, Value.int .u8 0, Value.int .u8 0, Value.int .u8 0]
  have hx0 := Reg.Ext.alloc w (Obj.cells #[Value.int .u8 0, Value.int .u8 0, Value.int .u8 0, Value.int .u8 0, Value.int .u8 0, Value.int .u8 0, Value.int .u8 0, Value.int .u8 0, Value.int .u8 0, Value.int .u8 0, Value.int .u8 0, Value.int .u8 0, Value.int .u8 0, Value.int .u8 0, Value.int .u8 0, Value.int .u8 0, Value.int .u8 0, Value.int .u8 0, Value.int .u8 0, Value.int .u8 0, Value.int .u8 0, Value.int .u8 0, Value.int .u8 0, Value.int .u8 0, Value.int .u8 0, Value.int .u8 0, Value.int .u8 0, Value.int .u8 0, Value.int .u8 0, Value.int .u8 0, Value.int .u8 0, Value.int .u8 0] 28)
  have hs0 : w.heap.size < (w.alloc (Obj.cells #[Value.int .u8 0, Value.int .u8 0, Value.int .u8 0, Value.int .u8 0, Value.int .u8 0, Value.int .u8 0, Value.int .u8 0, Value.int .u8 0, Value.int .u8 0, Value.int .u8 0, Value.int .u8 0, Value.int .u8 0, Value.int .u8 0, Value.int .u8 0, Value.int .u8 0, Value.int .u8 0, Value.int .u8 0, Value.int .u8 0, Value.int .u8 0, Value.int .u8 0, Value.int .u8 0, Value.int .u8 0, Value.int .u8 0, Value.int .u8 0, Value.int .u8 0, Value.int .u8 0, Value.int .u8 0, Value.int .u8 0, Value.int .u8 0, Value.int .u8 0, Value.int .u8 0, Value.int .u8 0] 28)).heap.size := hb0.lt
  generalize w.alloc (Obj.cells #[Value.int .u8 0, Value.int .u8 0, Value.int .u8 0, Value.int .u8 0, Value.int .u8 0, Value.int .u8 0, Value.int .u8 0, Value.int .u8 0, Value.int .u8 0, Value.int .u8 0, Value.int .u8 0, Value.int .u8 0, Value.int .u8 0, Value.int .u8 0, Value.int .u8 0, Value.int .u8 0, Value.int .u8 0, Value.int .u8 0, Value.int .u8 0, Value.int .u8 0, Value.int .u8 0, Value.int .u8 0, Value.int .u8 0, Value.int .u8 0, Value.int .u8 0, Value.int .u8 0, Value.int .u8 0, Value.int .u8 0, Value.int .u8 0, Value.int .u8 0, Value.int .u8 0, Value.int .u8 0] 28) = w0 at *
  obtain ⟨rest, hat, hrest⟩ := h
  refine (copy_any p T _ rest _ l.length w0 (show At w0 p T _ rest _ l.length from ⟨hat.1, hat.2.ext hx0⟩)).mono ?_
  rintro e w1 ⟨q, rfl, hq, hat1, hx1⟩
  have HA : Hid (Abs w1 q 41 l l.length) := ⟨rest, hat1, hrest⟩
  have HX : Hid (Reg.Ext w w1) := hx0.trans hx1
  have HK : Hid (Keys w1) := hk.ext HX.out
  have HB : Hid (Blk w1 w.heap.size 28 zeros32) := hb0.ext hx1
  have HQ : Hid (w.heap.size ≤ q) := Nat.le_trans (Nat.le_of_lt hs0) hq
  have HQB : Hid (w.heap.size ≠ q) := show w.heap.size ≠ q by omega
  have HQK : Hid (q ≠ 1) := show q ≠ 1 by omega
  clear hat hrest hat1 hx0 hx1 hk hb0 hs0 hq
  go_wp2_with fail
  refine (finish_any q 41 l w1 HA.out HK.out HQK.out (by assumption)).mono ?_
  rintro e w2 ⟨rfl, ha2, hb2⟩
  have HX2 := Lib.hid (HX.out.trans_but hb2 HQ.out)
  have HB2 := Lib.hid (HB.out.but hb2 HQB.out)
  obtain ⟨rest2, hat2, -⟩ := ha2
  have hsum : sum l = out (state (padded l)) := rfl
  have HSUM := Lib.hid hsum
  generalize hst : state (padded l) = st at *
  clear hst hb2 hsum HX HB HA HK
  obtain ⟨a, b, c, d, e, f, g, i⟩ := st
  have s0 := hat2.st 0 (by omega) a rfl
  have s1 := hat2.st 1 (by omega) b rfl
  have s2 := hat2.st 2 (by omega) c rfl
  have s3 := hat2.st 3 (by omega) d rfl
  have s4 := hat2.st 4 (by omega) e rfl
  have s5 := hat2.st 5 (by omega) f rfl
  have s6 := hat2.st 6 (by omega) g rfl
  have s7 := hat2.st 7 (by omega) i rfl
  clear hat2
  go_wp2_with fail
  clear s0 s1 s2 s3 s4 s5 s6 s7
  have hix := ix8 a b c d e f g i
  generalize hst : S8.mk a b c d e f g i = st at *
  have HST := Lib.hid hst
  clear hst
  have hB0 : Hid (Blk w2 w.heap.size 28 (prog (out st) 0)) := by
    rw [prog_zero]; exact HB2
  go_loopw [4, 5, 18] (fun _ _ i wr => ∃ k : Nat, k ≤ 8 ∧ i = .int .i64 k ∧ Hid (Blk wr w.heap.size 28 (prog (out st) (4 * k))) ∧ Hid (Reg.Ext w wr)) (fun _ _ i _ => 8 - (intOf i).toNat)
  case atStart => exact ⟨0, by omega, rfl, hB0, HX2⟩
  case round =>
    obtain ⟨k, hk, rfl, HBR, HXR⟩ := hrel
    clear hB0 HB2 HX2
    by_cases hk8 : k < 8
    · have d1 : decide ((k : Int) < 8) = true := by rw [decide_eq_true_iff]; omega
      have hixk := hix k hk8
      have hog := out_get st k
      generalize st.list.getD k 0#32 = x at *
      have HOG := Lib.hid hog
      clear hog hix
      have hx32 := nv_lt x
      go_wp2
      obtain ⟨wo, rfl⟩ : ∃ wo : World, wo = wr := ⟨_, rfl⟩
      go_loopw [6, 22] (fun _ i wr => ∃ j : Nat, j ≤ 4 ∧ i = .int .i64 j ∧ Hid (Blk wr w.heap.size 28 (prog (out st) (4 * k + j))) ∧ Hid (Reg.Ext w wr)) (fun _ i _ => 4 - (intOf i).toNat)
      case atStart => exact ⟨0, by omega, rfl, HBR, HXR⟩
      case round =>
        obtain ⟨j, hj, rfl, HB1, HX1⟩ := hrel
        clear HBR HXR
        by_cases hj4 : j < 4
        · have d2 : decide ((j : Int) < 4) = true := by rw [decide_eq_true_iff]; omega
          have ci : ∃ v, wr.cell? ⟨w.heap.size, 4 * k + j, none⟩ = some v := ⟨_, HB1.out.cellAt (by rw [prog_length _ _ (by omega)]; omega)⟩
          obtain ⟨v0, ci⟩ := ci
          have fi := HB1.out.frozen (4 * k + j)
          have hs := HB1.out.set_ (4 * k + j) (byteV (UInt8.ofNat (nv x / 256 ^ (3 - j) % 256)))
          rw [prog_set st (4 * k + j) _ (by omega) (HOG.out j hk8 hj4), out_byte] at hs
          have hx := HX1.out.trans_but (But.set_ w.heap.size wr (4 * k + j) (byteV (UInt8.ofNat (nv x / 256 ^ (3 - j) % 256)))) (Nat.le_refl _)
          rw [out_byte] at hx
          rcases (by omega : j = 0 ∨ j = 1 ∨ j = 2 ∨ j = 3) with rfl | rfl | rfl | rfl
          · simp only [Nat.sub_zero, Nat.reduceSub, Nat.reducePow, Int.cast_ofNat_Int, Nat.add_zero, Int.natCast_zero] at *
            rw [show (nv x : Int) / 16777216 % 256 = (nv x : Int) / 16777216 by omega] at hs hx
            have HS := Lib.hid hs
            have HXS := Lib.hid hx
            clear hs hx HOG
            go_wp2
            go_roundw
            case rel => exact ⟨1, by omega, rfl, HS, HXS⟩
            case measure => simp [intOf]
          · simp only [Nat.sub_zero, Nat.reduceSub, Nat.reducePow, Int.cast_ofNat_Int] at hs hx
            have HS := Lib.hid hs
            have HXS := Lib.hid hx
            clear hs hx HOG
            go_wp2
            go_roundw
            case rel => exact ⟨2, by omega, rfl, HS, HXS⟩
            case measure => simp [intOf]
          · simp only [Nat.sub_zero, Nat.reduceSub, Nat.reducePow, Int.cast_ofNat_Int] at hs hx
            have HS := Lib.hid hs
            have HXS := Lib.hid hx
            clear hs hx HOG
            go_wp2
            go_roundw
            case rel => exact ⟨3, by omega, rfl, HS, HXS⟩
            case measure => simp [intOf]
          · simp only [Nat.sub_self, Nat.reduceSub, Nat.reducePow, Int.cast_ofNat_Int, Int.natCast_one, Int.ediv_one] at hs hx
            have HS := Lib.hid hs
            have HXS := Lib.hid hx
            clear hs hx HOG
            go_wp2
            go_roundw
            case rel => exact ⟨4, by omega, rfl, HS, HXS⟩
            case measure => simp [intOf]
        · have hj' : j = 4 := by omega
          subst hj'
          have HB2 : Hid (Blk wr w.heap.size 28 (prog (out st) (4 * (k + 1)))) := HB1
          clear HB1
          go_wp2
          go_roundw
          case rel => exact ⟨k + 1, by omega, by go_num, HB2, HX1⟩
          case measure => simp [intOf]; omega
    · have hk' : k = 8 := by omega
      subst hk'
      have hb8 : Blk wr w.heap.size 28 ((sum l).map byteV) := by rw [HSUM.out, ← prog_end]; exact HBR.out
      have hlen : ((sum l).map byteV).length = 32 := by rw [HSUM.out, List.length_map, out_length]
      clear HBR
      go_upto_region 14 with (fail)
      refine wp_region_lit ?_
      refine wpList_load_row rfl 28 _ rfl w.heap.size rfl 28 ((sum l).map byteV).toArray (0, 0) _ hb8 Tryd.underlying28 rfl (by rw [List.size_toArray, hlen]; kernel_rfl) ?_
      simp only [Act.put, Act.eval, List.setIfInBounds_toArray, List.set_cons_zero, List.set_cons_succ, Nat.reduceAdd, Array.getD_eq_getD_getElem?, List.getElem?_toArray, List.getElem?_cons_succ, List.getElem?_cons_zero, Option.getD_some]
      refine wpList_store_mid rfl 28 _ _ rfl w.heap.size 0 ((sum l).map byteV).toArray rfl rfl (hb8.there _ (by rw [List.size_toArray]; exact Nat.le_refl _)) (by rw [List.size_toArray, hlen]; kernel_rfl) ?_ ?_
      · refine all_oneCell_toArray fun v hv => ?_
        obtain ⟨x, _, rfl⟩ := List.mem_map.1 hv
        rfl
      have hb9 := hb8.setAll ((sum l).map byteV) rfl
      have hx9 : Reg.Ext w (wr.setCells w.heap.size 0 ((sum l).map byteV)) := HXR.out.trans_but (But.setCells w.heap.size _ _ _) (Nat.le_refl _)
      clear hb8 HXR
      generalize wr.setCells w.heap.size 0 ((sum l).map byteV) = w5 at *
      simp only [Act.put, Act.eval, List.setIfInBounds_toArray, List.set_cons_zero, List.set_cons_succ, Nat.reduceAdd, Array.getD_eq_getD_getElem?, List.getElem?_toArray, List.getElem?_cons_succ, List.getElem?_cons_zero, Option.getD_some]
      go_wp2
      exact bodyPost_ret (results_cell_row rfl _ _ w.heap.size 28 ((sum l).map byteV).toArray (0, 0) _ rfl hb9 Tryd.underlying28 rfl (by rw [List.size_toArray, hlen]; kernel_rfl)) rfl ⟨rfl, hx9⟩
theorem copy_nil (w : World) : Calls Tryd.prog 13 #[.pointer none] w fun e w' => e = .returned (.pointer none) ∧ w = w' := by
  go_enter Tryd.func13, Tryd.ntmps13
  go_wp2
  go_ret
  exact ⟨rfl, rfl⟩
theorem write_nil (s : ByteArray) (w : World) : Calls Tryd.prog 8 #[.pointer none, .string s] w fun e w' => e = .returned (.tuple #[]) ∧ w = w' := by
  go_enter Tryd.func8, Tryd.ntmps8
  go_wp2
  exact bodyPost_ret (results_none rfl _ _ _) rfl ⟨rfl, rfl⟩
set_option maxRecDepth 100000 in
set_option maxHeartbeats 2000000 in
theorem sum_nil (l : List UInt8) (hle : l = []) (w : World) (hk : Keys w) (hst : StartIs w) (hg : 1 < w.heap.size) :
    Calls Tryd.prog 9 #[.pointer none] w fun e w' => e = .returned (.agg ((sum l).map byteV).toArray) ∧ Reg.Ext w w' := by
  have hl : l.length < 1152921504606846976 := by subst hle; decide
  go_enter Tryd.func9, Tryd.ntmps9
  go_wp2_with fail
  have hb0 := Blk.new w 28 #[Value.int .u8 0, Value.int .u8 0, Value.int .u8 0, Value.int .u8 0, Value.int .u8 0, Value.int .u8 0, Value.int .u8 0, Value.int .u8 0, Value.int .u8 0, Value.int .u8 0, Value.int .u8 0, Value.int .u8 0, Value.int .u8 0, Value.int .u8 0, Value.int .u8 0, Value.int .u8 0, Value.int .u8 0, Value.int .u8 0, Value.int .u8 0, Value.int .u8 0, Value.int .u8 0, Value.int .u8 0, Value.int .u8 0, Value.int .u8 0, Value.int .u8 0, Value.int .u8 0, Value.int .u8 0, Value.int .u8 0, Value.int .u8 0, Value.int .u8 0, Value.int .u8 0, Value.int .u8 0]
  have hx0 := Reg.Ext.alloc w (Obj.cells #[Value.int .u8 0, Value.int .u8 0, Value.int .u8 0, Value.int .u8 0, Value.int .u8 0, Value.int .u8 0, Value.int .u8 0, Value.int .u8 0, Value.int .u8 0, Value.int .u8 0, Value.int .u8 0, Value.int .u8 0, Value.int .u8 0, Value.int .u8 0, Value.int .u8 0, Value.int .u8 0, Value.int .u8 0, Value.int .u8 0, Value.int .u8 0, Value.int .u8 0, Value.int .u8 0, Value.int .u8 0, Value.int .u8 0, Value.int .u8 0, Value.int .u8 0, Value.int .u8 0, Value.int .u8 0, Value.int .u8 0, Value.int .u8 0, Value.int .u8 0, Value.int .u8 0, Value.int .u8 0] 28)
  have hs0 : w.heap.size < (w.alloc (Obj.cells #[Value.int .u8 0, Value.int .u8 0, Value.int .u8 0, Value.int .u8 0, Value.int .u8 0, Value.int .u8 0, Value.int .u8 0, Value.int .u8 0, Value.int .u8 0, Value.int .u8 0, Value.int .u8 0, Value.int .u8 0, Value.int .u8 0, Value.int .u8 0, Value.int .u8 0, Value.int .u8 0, Value.int .u8 0, Value.int .u8 0, Value.int .u8 0, Value.int .u8 0, Value.int .u8 0, Value.int .u8 0, Value.int .u8 0, Value.int .u8 0, Value.int .u8 0, Value.int .u8 0, Value.int .u8 0, Value.int .u8 0, Value.int .u8 0, Value.int .u8 0, Value.int .u8 0, Value.int .u8 0] 28)).heap.size := hb0.lt
  generalize w.alloc (Obj.cells #[Value.int .u8 0, Value.int .u8 0, Value.int .u8 0, Value.int .u8 0, Value.int .u8 0, Value.int .u8 0, Value.int .u8 0, Value.int .u8 0, Value.int .u8 0, Value.int .u8 0, Value.int .u8 0, Value.int .u8 0, Value.int .u8 0, Value.int .u8 0, Value.int .u8 0, Value.int .u8 0, Value.int .u8 0, Value.int .u8 0, Value.int .u8 0, Value.int .u8 0, Value.int .u8 0, Value.int .u8 0, Value.int .u8 0, Value.int .u8 0, Value.int .u8 0, Value.int .u8 0, Value.int .u8 0, Value.int .u8 0, Value.int .u8 0, Value.int .u8 0, Value.int .u8 0, Value.int .u8 0] 28) = w0 at *
  refine (copy_nil w0).mono ?_
  rintro e w' ⟨rfl, rfl⟩
  go_wp2_with fail
  refine (new_any w0 (hst.below hx0 (by omega))).mono ?_
  rintro e w1 ⟨q, rfl, hq, hat1, hx1⟩
  have HA : Hid (Abs w1 q 41 l l.length) := by rw [hle]; exact hat1
  have HX : Hid (Reg.Ext w w1) := hx0.trans hx1
  have HK : Hid (Keys w1) := hk.ext HX.out
  have HB : Hid (Blk w1 w.heap.size 28 zeros32) := hb0.ext hx1
  have HQ : Hid (w.heap.size ≤ q) := Nat.le_trans (Nat.le_of_lt hs0) hq
  have HQB : Hid (w.heap.size ≠ q) := show w.heap.size ≠ q by omega
  have HQK : Hid (q ≠ 1) := show q ≠ 1 by omega
  clear hat1 hx0 hx1 hk hb0 hs0 hq hle hst
  go_wp2_with fail
  refine (finish_any q 41 l w1 HA.out HK.out HQK.out (by assumption)).mono ?_
  rintro e w2 ⟨rfl, ha2, hb2⟩
  have HX2 := Lib.hid (HX.out.trans_but hb2 HQ.out)
  have HB2 := Lib.hid (HB.out.but hb2 HQB.out)
  obtain ⟨rest2, hat2, -⟩ := ha2
  have hsum : sum l = out (state (padded l)) := rfl
  have HSUM := Lib.hid hsum
  generalize hst : state (padded l) = st at *
  clear hst hb2 hsum HX HB HA HK
  obtain ⟨a, b, c, d, e, f, g, i⟩ := st
  have s0 := hat2.st 0 (by omega) a rfl
  have s1 := hat2.st 1 (by omega) b rfl
  have s2 := hat2.st 2 (by omega) c rfl
  have s3 := hat2.st 3 (by omega) d rfl
  have s4 := hat2.st 4 (by omega) e rfl
  have s5 := hat2.st 5 (by omega) f rfl
  have s6 := hat2.st 6 (by omega) g rfl
  have s7 := hat2.st 7 (by omega) i rfl
  clear hat2
  go_wp2_with fail
  clear s0 s1 s2 s3 s4 s5 s6 s7
  have hix := ix8 a b c d e f g i
  generalize hst : S8.mk a b c d e f g i = st at *
  have HST := Lib.hid hst
  clear hst
  have hB0 : Hid (Blk w2 w.heap.size 28 (prog (out st) 0)) := by
    rw [prog_zero]; exact HB2
  go_loopw [4, 5, 18] (fun _ _ i wr => ∃ k : Nat, k ≤ 8 ∧ i = .int .i64 k ∧ Hid (Blk wr w.heap.size 28 (prog (out st) (4 * k))) ∧ Hid (Reg.Ext w wr)) (fun _ _ i _ => 8 - (intOf i).toNat)
  case atStart => exact ⟨0, by omega, rfl, hB0, HX2⟩
  case round =>
    obtain ⟨k, hk, rfl, HBR, HXR⟩ := hrel
    clear hB0 HB2 HX2
    by_cases hk8 : k < 8
    · have d1 : decide ((k : Int) < 8) = true := by rw [decide_eq_true_iff]; omega
      have hixk := hix k hk8
      have hog := out_get st k
      generalize st.list.getD k 0#32 = x at *
      have HOG := Lib.hid hog
      clear hog hix
      have hx32 := nv_lt x
      go_wp2
      obtain ⟨wo, rfl⟩ : ∃ wo : World, wo = wr := ⟨_, rfl⟩
      go_loopw [6, 22] (fun _ i wr => ∃ j : Nat, j ≤ 4 ∧ i = .int .i64 j ∧ Hid (Blk wr w.heap.size 28 (prog (out st) (4 * k + j))) ∧ Hid (Reg.Ext w wr)) (fun _ i _ => 4 - (intOf i).toNat)
      case atStart => exact ⟨0, by omega, rfl, HBR, HXR⟩
      case round =>
        obtain ⟨j, hj, rfl, HB1, HX1⟩ := hrel
        clear HBR HXR
        by_cases hj4 : j < 4
        · have d2 : decide ((j : Int) < 4) = true := by rw [decide_eq_true_iff]; omega
          have ci : ∃ v, wr.cell? ⟨w.heap.size, 4 * k + j, none⟩ = some v := ⟨_, HB1.out.cellAt (by rw [prog_length _ _ (by omega)]; omega)⟩
          obtain ⟨v0, ci⟩ := ci
          have fi := HB1.out.frozen (4 * k + j)
          have hs := HB1.out.set_ (4 * k + j) (byteV (UInt8.ofNat (nv x / 256 ^ (3 - j) % 256)))
          rw [prog_set st (4 * k + j) _ (by omega) (HOG.out j hk8 hj4), out_byte] at hs
          have hx := HX1.out.trans_but (But.set_ w.heap.size wr (4 * k + j) (byteV (UInt8.ofNat (nv x / 256 ^ (3 - j) % 256)))) (Nat.le_refl _)
          rw [out_byte] at hx
          rcases (by omega : j = 0 ∨ j = 1 ∨ j = 2 ∨ j = 3) with rfl | rfl | rfl | rfl
          · simp only [Nat.sub_zero, Nat.reduceSub, Nat.reducePow, Int.cast_ofNat_Int, Nat.add_zero, Int.natCast_zero] at *
            rw [show (nv x : Int) / 16777216 % 256 = (nv x : Int) / 16777216 by omega] at hs hx
            have HS := Lib.hid hs
            have HXS := Lib.hid hx
            clear hs hx HOG
            go_wp2
            go_roundw
            case rel => exact ⟨1, by omega, rfl, HS, HXS⟩
            case measure => simp [intOf]
          · simp only [Nat.sub_zero, Nat.reduceSub, Nat.reducePow, Int.cast_ofNat_Int] at hs hx
            have HS := Lib.hid hs
            have HXS := Lib.hid hx
            clear hs hx HOG
            go_wp2
            go_roundw
            case rel => exact ⟨2, by omega, rfl, HS, HXS⟩
            case measure => simp [intOf]
          · simp only [Nat.sub_zero, Nat.reduceSub, Nat.reducePow, Int.cast_ofNat_Int] at hs hx
            have HS := Lib.hid hs
            have HXS := Lib.hid hx
            clear hs hx HOG
            go_wp2
            go_roundw
            case rel => exact ⟨3, by omega, rfl, HS, HXS⟩
            case measure => simp [intOf]
          · simp only [Nat.sub_self, Nat.reduceSub, Nat.reducePow, Int.cast_ofNat_Int, Int.natCast_one, Int.ediv_one] at hs hx
            have HS := Lib.hid hs
            have HXS := Lib.hid hx
            clear hs hx HOG
            go_wp2
            go_roundw
            case rel => exact ⟨4, by omega, rfl, HS, HXS⟩
            case measure => simp [intOf]
        · have hj' : j = 4 := by omega
          subst hj'
          have HB2 : Hid (Blk wr w.heap.size 28 (prog (out st) (4 * (k + 1)))) := HB1
          clear HB1
          go_wp2
          go_roundw
          case rel => exact ⟨k + 1, by omega, by go_num, HB2, HX1⟩
          case measure => simp [intOf]; omega
    · have hk' : k = 8 := by omega
      subst hk'
      have hb8 : Blk wr w.heap.size 28 ((sum l).map byteV) := by rw [HSUM.out, ← prog_end]; exact HBR.out
      have hlen : ((sum l).map byteV).length = 32 := by rw [HSUM.out, List.length_map, out_length]
      clear HBR
      go_upto_region 14 with (fail)
      refine wp_region_lit ?_
      refine wpList_load_row rfl 28 _ rfl w.heap.size rfl 28 ((sum l).map byteV).toArray (0, 0) _ hb8 Tryd.underlying28 rfl (by rw [List.size_toArray, hlen]; kernel_rfl) ?_
      simp only [Act.put, Act.eval, List.setIfInBounds_toArray, List.set_cons_zero, List.set_cons_succ, Nat.reduceAdd, Array.getD_eq_getD_getElem?, List.getElem?_toArray, List.getElem?_cons_succ, List.getElem?_cons_zero, Option.getD_some]
      refine wpList_store_mid rfl 28 _ _ rfl w.heap.size 0 ((sum l).map byteV).toArray rfl rfl (hb8.there _ (by rw [List.size_toArray]; exact Nat.le_refl _)) (by rw [List.size_toArray, hlen]; kernel_rfl) ?_ ?_
      · refine all_oneCell_toArray fun v hv => ?_
        obtain ⟨x, _, rfl⟩ := List.mem_map.1 hv
        rfl
      have hb9 := hb8.setAll ((sum l).map byteV) rfl
      have hx9 : Reg.Ext w (wr.setCells w.heap.size 0 ((sum l).map byteV)) := HXR.out.trans_but (But.setCells w.heap.size _ _ _) (Nat.le_refl _)
      clear hb8 HXR
      generalize wr.setCells w.heap.size 0 ((sum l).map byteV) = w5 at *
      simp only [Act.put, Act.eval, List.setIfInBounds_toArray, List.set_cons_zero, List.set_cons_succ, Nat.reduceAdd, Array.getD_eq_getD_getElem?, List.getElem?_toArray, List.getElem?_cons_succ, List.getElem?_cons_zero, Option.getD_some]
      go_wp2
      exact bodyPost_ret (results_cell_row rfl _ _ w.heap.size 28 ((sum l).map byteV).toArray (0, 0) _ rfl hb9 Tryd.underlying28 rfl (by rw [List.size_toArray, hlen]; kernel_rfl)) rfl ⟨rfl, hx9⟩
end Sha
end Go.Proofs.YthgbhpeidngjmaaDoor

/- The reference's functions of chapter 2: turn, Padded. -/
import Derived.Test.YthgbhpeidngjmaaDoorShaWalks
import Derived.Test.YthgbhpeidngjmaaDoorBufM
set_option linter.unusedSimpArgs false
set_option linter.unusedVariables false
set_option linter.unusedSectionVars false
namespace Go.Proofs.YthgbhpeidngjmaaDoor
open Go.RowKit
namespace ShaR
open ShaP Sha
set_option maxHeartbeats 1000000 in
theorem turnR_any (x : W) (n : Nat) (w : World) (hn : isRot n) :
    Calls Tryd.prog 19 #[.int .u32 (nv x : Int), .int .i64 (n : Int)] w fun e w' => e = .returned (.int .u32 (nv (rr x n) : Int)) ∧ Reg.Ext w w' := by
  unfold isRot at hn
  rcases hn with rfl | rfl | rfl | rfl | rfl | rfl | rfl | rfl | rfl | rfl
  · have e1 := bv_shl x 30
    have e2 := bv_shr x 2
    simp only [Nat.reducePow, Int.cast_ofNat_Int] at e1 e2
    go_enter Tryd.func19, Tryd.ntmps19
    go_wp2
    go_quiet (fail)
    go_wp2
    go_ret
    exact ⟨by show Ending.returned (.int .u32 _) = _; rw [bv_or]; rfl, Reg.Ext.drewN _ _⟩
  · have e1 := bv_shl x 26
    have e2 := bv_shr x 6
    simp only [Nat.reducePow, Int.cast_ofNat_Int] at e1 e2
    go_enter Tryd.func19, Tryd.ntmps19
    go_wp2
    go_quiet (fail)
    go_wp2
    go_ret
    exact ⟨by show Ending.returned (.int .u32 _) = _; rw [bv_or]; rfl, Reg.Ext.drewN _ _⟩
  · have e1 := bv_shl x 25
    have e2 := bv_shr x 7
    simp only [Nat.reducePow, Int.cast_ofNat_Int] at e1 e2
    go_enter Tryd.func19, Tryd.ntmps19
    go_wp2
    go_quiet (fail)
    go_wp2
    go_ret
    exact ⟨by show Ending.returned (.int .u32 _) = _; rw [bv_or]; rfl, Reg.Ext.drewN _ _⟩
  · have e1 := bv_shl x 21
    have e2 := bv_shr x 11
    simp only [Nat.reducePow, Int.cast_ofNat_Int] at e1 e2
    go_enter Tryd.func19, Tryd.ntmps19
    go_wp2
    go_quiet (fail)
    go_wp2
    go_ret
    exact ⟨by show Ending.returned (.int .u32 _) = _; rw [bv_or]; rfl, Reg.Ext.drewN _ _⟩
  · have e1 := bv_shl x 19
    have e2 := bv_shr x 13
    simp only [Nat.reducePow, Int.cast_ofNat_Int] at e1 e2
    go_enter Tryd.func19, Tryd.ntmps19
    go_wp2
    go_quiet (fail)
    go_wp2
    go_ret
    exact ⟨by show Ending.returned (.int .u32 _) = _; rw [bv_or]; rfl, Reg.Ext.drewN _ _⟩
  · have e1 := bv_shl x 15
    have e2 := bv_shr x 17
    simp only [Nat.reducePow, Int.cast_ofNat_Int] at e1 e2
    go_enter Tryd.func19, Tryd.ntmps19
    go_wp2
    go_quiet (fail)
    go_wp2
    go_ret
    exact ⟨by show Ending.returned (.int .u32 _) = _; rw [bv_or]; rfl, Reg.Ext.drewN _ _⟩
  · have e1 := bv_shl x 14
    have e2 := bv_shr x 18
    simp only [Nat.reducePow, Int.cast_ofNat_Int] at e1 e2
    go_enter Tryd.func19, Tryd.ntmps19
    go_wp2
    go_quiet (fail)
    go_wp2
    go_ret
    exact ⟨by show Ending.returned (.int .u32 _) = _; rw [bv_or]; rfl, Reg.Ext.drewN _ _⟩
  · have e1 := bv_shl x 13
    have e2 := bv_shr x 19
    simp only [Nat.reducePow, Int.cast_ofNat_Int] at e1 e2
    go_enter Tryd.func19, Tryd.ntmps19
    go_wp2
    go_quiet (fail)
    go_wp2
    go_ret
    exact ⟨by show Ending.returned (.int .u32 _) = _; rw [bv_or]; rfl, Reg.Ext.drewN _ _⟩
  · have e1 := bv_shl x 10
    have e2 := bv_shr x 22
    simp only [Nat.reducePow, Int.cast_ofNat_Int] at e1 e2
    go_enter Tryd.func19, Tryd.ntmps19
    go_wp2
    go_quiet (fail)
    go_wp2
    go_ret
    exact ⟨by show Ending.returned (.int .u32 _) = _; rw [bv_or]; rfl, Reg.Ext.drewN _ _⟩
  · have e1 := bv_shl x 7
    have e2 := bv_shr x 25
    simp only [Nat.reducePow, Int.cast_ofNat_Int] at e1 e2
    go_enter Tryd.func19, Tryd.ntmps19
    go_wp2
    go_quiet (fail)
    go_wp2
    go_ret
    exact ⟨by show Ending.returned (.int .u32 _) = _; rw [bv_or]; rfl, Reg.Ext.drewN _ _⟩
theorem turnR_at (x : W) (m : Int) (n : Nat) (w : World) (hm : m = (n : Int)) (hn : isRot n) :
    Calls Tryd.prog 19 #[.int .u32 (nv x : Int), .int .i64 m] w fun e w' => e = .returned (.int .u32 (nv (rr x n) : Int)) ∧ Reg.Ext w w' := by
  subst hm; exact turnR_any x n w hn
def lenOf : Value → Nat
  | .slice _ n _ => n
  | _ => 0
theorem MBuf_is {W0 w : World} {v : Value} {l : List UInt8} (h : MBuf W0 w v l) : ∃ g cap, v = .slice (some ⟨g, 0, none⟩) l.length cap := by
  obtain ⟨h1, g, cap, cur, fz, rfl, h2⟩ := h
  exact ⟨g, cap, rfl⟩
theorem zeros_at (n k : Nat) (h : k ≤ zeros n) : (n + 1 + k) % 64 = 56 ↔ k = zeros n := by unfold zeros at *; omega
set_option maxRecDepth 100000 in
set_option maxHeartbeats 1000000 in
theorem padded_any (s : ByteArray) (w : World) (hs : s.size ≤ 274877906944) :
    Calls Tryd.prog 16 #[.string s] w fun e w' => e = .returned (.string ⟨(padded s.data.toList).toArray⟩) ∧ Reg.Ext w w' := by
  obtain ⟨cap, w1, hcv, hb1⟩ := MBuf.of w w (Reg.Ext.refl w) s hs
  have HB1 := Lib.hid hb1
  clear hb1
  go_enter Tryd.func16, Tryd.ntmps16
  go_upto_region 2 with (fail)
  refine wp_region_lit ?_
  iterate 9 go_step
  refine MBuf.push1 rfl (.tmp 11) (.tmp 12) rfl _ s.data.toList rfl w w1 _ 128 rfl HB1.out rfl (by rw [len_data]; omega) fun v' w' hb => ?_
  have HB := Lib.hid hb
  clear hb HB1 hcv
  simp only [Act.put, Act.eval, List.setIfInBounds_toArray, List.set_cons_zero, List.set_cons_succ, Nat.reduceAdd, Array.getD_eq_getD_getElem?, List.getElem?_toArray, List.getElem?_cons_succ, List.getElem?_cons_zero, Option.getD_some]
  go_wp2_with fail
  go_loopw [4] (fun v wr => ∃ k : Nat, k ≤ zeros s.size ∧ ∃ l : List UInt8, Hid (MBuf w wr v l) ∧ Hid (l = s.data.toList ++ 128 :: List.replicate k 0) ∧ l.length = s.size + 1 + k) (fun v _ => zeros s.size + s.size + 1 - lenOf v)
  case atStart => exact ⟨0, Nat.zero_le _, _, HB, rfl, by simp [len_data]⟩
  case round =>
    obtain ⟨k, hk, l, HM, HL, hl⟩ := hrel
    clear HB
    obtain ⟨g, cp, rfl⟩ := MBuf_is HM.out
    by_cases hkz : k < zeros s.size
    · have hne : (l.length % 64) ≠ 56 := by rw [hl]; intro h; have := (zeros_at s.size k hk).1 h; omega
      obtain ⟨m, hm⟩ : ∃ m, m = l.length % 64 := ⟨_, rfl⟩
      have hT : Int.tmod (l.length : Int) 64 = (m : Int) := by rw [Int.tmod_eq_emod_of_nonneg (by omega)]; omega
      have d1 : ((m : Int) != 56) = true := by rw [bne_iff_ne]; omega
      have hz64 : zeros s.size < 64 := Nat.mod_lt _ (by decide)
      go_upto_region 4 with (fail)
      refine wp_region_lit ?_
      iterate 6 go_step
      refine MBuf.push1 rfl (.tmp 18) (.tmp 19) rfl _ l rfl w wr _ 0 rfl HM.out rfl (by omega) fun v2 w2 hb => ?_
      have HB := Lib.hid hb
      have HL2 := Lib.hid (show l ++ [0] = s.data.toList ++ 128 :: List.replicate (k + 1) 0 by rw [HL.out, List.replicate_succ']; simp)
      clear hb HM hT HL
      simp only [Act.put, Act.eval, List.setIfInBounds_toArray, List.set_cons_zero, List.set_cons_succ, Nat.reduceAdd, Array.getD_eq_getD_getElem?, List.getElem?_toArray, List.getElem?_cons_succ, List.getElem?_cons_zero, Option.getD_some]
      go_wp2_with fail
      obtain ⟨g2, cp2, rfl⟩ := MBuf_is HB.out
      exact ⟨⟨k + 1, by omega, l ++ [0], HB, HL2, by simp; omega⟩, by simp [lenOf]; omega⟩
    · have hkk : k = zeros s.size := by omega
      subst hkk
      have he := (zeros_at s.size (zeros s.size) (Nat.le_refl _)).2 rfl
      obtain ⟨m, hm⟩ : ∃ m, m = l.length % 64 := ⟨_, rfl⟩
      have hT : Int.tmod (l.length : Int) 64 = (m : Int) := by rw [Int.tmod_eq_emod_of_nonneg (by omega)]; omega
      have d1 : ((m : Int) != 56) = false := by rw [bne_eq_false_iff_eq]; omega
      have hz64 : zeros s.size < 64 := Nat.mod_lt _ (by decide)
      have HZ := Lib.hid hl
      clear he
      go_wp2_with fail
      clear hT d1
      go_loopw [4, 5] (fun v i wr => ∃ k : Nat, k ≤ 8 ∧ i = .int .i64 (7 - (k : Int)) ∧ Hid (MBuf w wr v (l ++ (be8 (s.size * 8)).take k))) (fun _ i _ => (intOf i + 1).toNat)
      case atStart => exact ⟨0, by omega, by simp, by show MBuf _ _ _ _; rw [List.take_zero, List.append_nil]; exact HM.out⟩
      case round =>
        obtain ⟨k, hk, hi, HB⟩ := hrel
        clear HM
        by_cases hk8 : k < 8
        · rcases (by omega : k = 0 ∨ k = 1 ∨ k = 2 ∨ k = 3 ∨ k = 4 ∨ k = 5 ∨ k = 6 ∨ k = 7) with rfl | rfl | rfl | rfl | rfl | rfl | rfl | rfl
          · as_aux_lemma =>
            have hi' := hi
            rw [show (7 - ((0 : Nat) : Int)) = 7 by decide] at hi'
            subst hi'
            have hlb : (l ++ (be8 (s.size * 8)).take 0).length + 1 ≤ 1099511627776 := by rw [List.length_append, List.length_take, HZ.out]; omega
            have HE := Lib.hid (show (l ++ (be8 (s.size * 8)).take 0) ++ [UInt8.ofNat (s.size * 8 / 72057594037927936 % 256)] = l ++ (be8 (s.size * 8)).take (0 + 1) by rw [List.append_assoc]; rfl)
            generalize (l ++ (be8 (s.size * 8)).take 0) = ll at *
            go_upto_region 8 with (fail)
            refine wp_region_lit ?_
            iterate 21 go_step
            refine MBuf.push1 rfl (.tmp 25) (.tmp 31) rfl _ ll rfl w wr _ (UInt8.ofNat (s.size * 8 / 72057594037927936 % 256)) ?_ HB.out rfl hlb fun v2 w2 hb => ?_
            · rw [UInt8.toNat_ofNat_of_lt' (by show _ < 256; omega)]; omega
            rw [HE.out] at hb
            have HB2 := Lib.hid hb
            clear hb HB HE
            simp only [Act.put, Act.eval, List.setIfInBounds_toArray, List.set_cons_zero, List.set_cons_succ, Nat.reduceAdd, Array.getD_eq_getD_getElem?, List.getElem?_toArray, List.getElem?_cons_succ, List.getElem?_cons_zero, Option.getD_some]
            go_wp2_with fail
            exact ⟨⟨0 + 1, by omega, by simp, HB2⟩, by simp [intOf]⟩
          · as_aux_lemma =>
            have hi' := hi
            rw [show (7 - ((1 : Nat) : Int)) = 6 by decide] at hi'
            subst hi'
            have hlb : (l ++ (be8 (s.size * 8)).take 1).length + 1 ≤ 1099511627776 := by rw [List.length_append, List.length_take, HZ.out]; omega
            have HE := Lib.hid (show (l ++ (be8 (s.size * 8)).take 1) ++ [UInt8.ofNat (s.size * 8 / 281474976710656 % 256)] = l ++ (be8 (s.size * 8)).take (1 + 1) by rw [List.append_assoc]; rfl)
            generalize (l ++ (be8 (s.size * 8)).take 1) = ll at *
            go_upto_region 8 with (fail)
            refine wp_region_lit ?_
            iterate 21 go_step
            refine MBuf.push1 rfl (.tmp 25) (.tmp 31) rfl _ ll rfl w wr _ (UInt8.ofNat (s.size * 8 / 281474976710656 % 256)) ?_ HB.out rfl hlb fun v2 w2 hb => ?_
            · rw [UInt8.toNat_ofNat_of_lt' (by show _ < 256; omega)]; omega
            rw [HE.out] at hb
            have HB2 := Lib.hid hb
            clear hb HB HE
            simp only [Act.put, Act.eval, List.setIfInBounds_toArray, List.set_cons_zero, List.set_cons_succ, Nat.reduceAdd, Array.getD_eq_getD_getElem?, List.getElem?_toArray, List.getElem?_cons_succ, List.getElem?_cons_zero, Option.getD_some]
            go_wp2_with fail
            exact ⟨⟨1 + 1, by omega, by simp, HB2⟩, by simp [intOf]⟩
          · as_aux_lemma =>
            have hi' := hi
            rw [show (7 - ((2 : Nat) : Int)) = 5 by decide] at hi'
            subst hi'
            have hlb : (l ++ (be8 (s.size * 8)).take 2).length + 1 ≤ 1099511627776 := by rw [List.length_append, List.length_take, HZ.out]; omega
            have HE := Lib.hid (show (l ++ (be8 (s.size * 8)).take 2) ++ [UInt8.ofNat (s.size * 8 / 1099511627776 % 256)] = l ++ (be8 (s.size * 8)).take (2 + 1) by rw [List.append_assoc]; rfl)
            generalize (l ++ (be8 (s.size * 8)).take 2) = ll at *
            go_upto_region 8 with (fail)
            refine wp_region_lit ?_
            iterate 21 go_step
            refine MBuf.push1 rfl (.tmp 25) (.tmp 31) rfl _ ll rfl w wr _ (UInt8.ofNat (s.size * 8 / 1099511627776 % 256)) ?_ HB.out rfl hlb fun v2 w2 hb => ?_
            · rw [UInt8.toNat_ofNat_of_lt' (by show _ < 256; omega)]; omega
            rw [HE.out] at hb
            have HB2 := Lib.hid hb
            clear hb HB HE
            simp only [Act.put, Act.eval, List.setIfInBounds_toArray, List.set_cons_zero, List.set_cons_succ, Nat.reduceAdd, Array.getD_eq_getD_getElem?, List.getElem?_toArray, List.getElem?_cons_succ, List.getElem?_cons_zero, Option.getD_some]
            go_wp2_with fail
            exact ⟨⟨2 + 1, by omega, by simp, HB2⟩, by simp [intOf]⟩
          · as_aux_lemma =>
            have hi' := hi
            rw [show (7 - ((3 : Nat) : Int)) = 4 by decide] at hi'
            subst hi'
            have hlb : (l ++ (be8 (s.size * 8)).take 3).length + 1 ≤ 1099511627776 := by rw [List.length_append, List.length_take, HZ.out]; omega
            have HE := Lib.hid (show (l ++ (be8 (s.size * 8)).take 3) ++ [UInt8.ofNat (s.size * 8 / 4294967296 % 256)] = l ++ (be8 (s.size * 8)).take (3 + 1) by rw [List.append_assoc]; rfl)
            generalize (l ++ (be8 (s.size * 8)).take 3) = ll at *
            go_upto_region 8 with (fail)
            refine wp_region_lit ?_
            iterate 21 go_step
            refine MBuf.push1 rfl (.tmp 25) (.tmp 31) rfl _ ll rfl w wr _ (UInt8.ofNat (s.size * 8 / 4294967296 % 256)) ?_ HB.out rfl hlb fun v2 w2 hb => ?_
            · rw [UInt8.toNat_ofNat_of_lt' (by show _ < 256; omega)]; omega
            rw [HE.out] at hb
            have HB2 := Lib.hid hb
            clear hb HB HE
            simp only [Act.put, Act.eval, List.setIfInBounds_toArray, List.set_cons_zero, List.set_cons_succ, Nat.reduceAdd, Array.getD_eq_getD_getElem?, List.getElem?_toArray, List.getElem?_cons_succ, List.getElem?_cons_zero, Option.getD_some]
            go_wp2_with fail
            exact ⟨⟨3 + 1, by omega, by simp, HB2⟩, by simp [intOf]⟩
          · as_aux_lemma =>
            have hi' := hi
            rw [show (7 - ((4 : Nat) : Int)) = 3 by decide] at hi'
            subst hi'
            have hlb : (l ++ (be8 (s.size * 8)).take 4).length + 1 ≤ 1099511627776 := by rw [List.length_append, List.length_take, HZ.out]; omega
            have HE := Lib.hid (show (l ++ (be8 (s.size * 8)).take 4) ++ [UInt8.ofNat (s.size * 8 / 16777216 % 256)] = l ++ (be8 (s.size * 8)).take (4 + 1) by rw [List.append_assoc]; rfl)
            generalize (l ++ (be8 (s.size * 8)).take 4) = ll at *
            go_upto_region 8 with (fail)
            refine wp_region_lit ?_
            iterate 21 go_step
            refine MBuf.push1 rfl (.tmp 25) (.tmp 31) rfl _ ll rfl w wr _ (UInt8.ofNat (s.size * 8 / 16777216 % 256)) ?_ HB.out rfl hlb fun v2 w2 hb => ?_
            · rw [UInt8.toNat_ofNat_of_lt' (by show _ < 256; omega)]; omega
            rw [HE.out] at hb
            have HB2 := Lib.hid hb
            clear hb HB HE
            simp only [Act.put, Act.eval, List.setIfInBounds_toArray, List.set_cons_zero, List.set_cons_succ, Nat.reduceAdd, Array.getD_eq_getD_getElem?, List.getElem?_toArray, List.getElem?_cons_succ, List.getElem?_cons_zero, Option.getD_some]
            go_wp2_with fail
            exact ⟨⟨4 + 1, by omega, by simp, HB2⟩, by simp [intOf]⟩
          · as_aux_lemma =>
            have hi' := hi
            rw [show (7 - ((5 : Nat) : Int)) = 2 by decide] at hi'
            subst hi'
            have hlb : (l ++ (be8 (s.size * 8)).take 5).length + 1 ≤ 1099511627776 := by rw [List.length_append, List.length_take, HZ.out]; omega
            have HE := Lib.hid (show (l ++ (be8 (s.size * 8)).take 5) ++ [UInt8.ofNat (s.size * 8 / 65536 % 256)] = l ++ (be8 (s.size * 8)).take (5 + 1) by rw [List.append_assoc]; rfl)
            generalize (l ++ (be8 (s.size * 8)).take 5) = ll at *
            go_upto_region 8 with (fail)
            refine wp_region_lit ?_
            iterate 21 go_step
            refine MBuf.push1 rfl (.tmp 25) (.tmp 31) rfl _ ll rfl w wr _ (UInt8.ofNat (s.size * 8 / 65536 % 256)) ?_ HB.out rfl hlb fun v2 w2 hb => ?_
            · rw [UInt8.toNat_ofNat_of_lt' (by show _ < 256; omega)]; omega
            rw [HE.out] at hb
            have HB2 := Lib.hid hb
            clear hb HB HE
            simp only [Act.put, Act.eval, List.setIfInBounds_toArray, List.set_cons_zero, List.set_cons_succ, Nat.reduceAdd, Array.getD_eq_getD_getElem?, List.getElem?_toArray, List.getElem?_cons_succ, List.getElem?_cons_zero, Option.getD_some]
            go_wp2_with fail
            exact ⟨⟨5 + 1, by omega, by simp, HB2⟩, by simp [intOf]⟩
          · as_aux_lemma =>
            have hi' := hi
            rw [show (7 - ((6 : Nat) : Int)) = 1 by decide] at hi'
            subst hi'
            have hlb : (l ++ (be8 (s.size * 8)).take 6).length + 1 ≤ 1099511627776 := by rw [List.length_append, List.length_take, HZ.out]; omega
            have HE := Lib.hid (show (l ++ (be8 (s.size * 8)).take 6) ++ [UInt8.ofNat (s.size * 8 / 256 % 256)] = l ++ (be8 (s.size * 8)).take (6 + 1) by rw [List.append_assoc]; rfl)
            generalize (l ++ (be8 (s.size * 8)).take 6) = ll at *
            go_upto_region 8 with (fail)
            refine wp_region_lit ?_
            iterate 21 go_step
            refine MBuf.push1 rfl (.tmp 25) (.tmp 31) rfl _ ll rfl w wr _ (UInt8.ofNat (s.size * 8 / 256 % 256)) ?_ HB.out rfl hlb fun v2 w2 hb => ?_
            · rw [UInt8.toNat_ofNat_of_lt' (by show _ < 256; omega)]; omega
            rw [HE.out] at hb
            have HB2 := Lib.hid hb
            clear hb HB HE
            simp only [Act.put, Act.eval, List.setIfInBounds_toArray, List.set_cons_zero, List.set_cons_succ, Nat.reduceAdd, Array.getD_eq_getD_getElem?, List.getElem?_toArray, List.getElem?_cons_succ, List.getElem?_cons_zero, Option.getD_some]
            go_wp2_with fail
            exact ⟨⟨6 + 1, by omega, by simp, HB2⟩, by simp [intOf]⟩
          · as_aux_lemma =>
            have hi' := hi
            rw [show (7 - ((7 : Nat) : Int)) = 0 by decide] at hi'
            subst hi'
            have hlb : (l ++ (be8 (s.size * 8)).take 7).length + 1 ≤ 1099511627776 := by rw [List.length_append, List.length_take, HZ.out]; omega
            have HE := Lib.hid (show (l ++ (be8 (s.size * 8)).take 7) ++ [UInt8.ofNat (s.size * 8 / 1 % 256)] = l ++ (be8 (s.size * 8)).take (7 + 1) by rw [List.append_assoc]; rfl)
            generalize (l ++ (be8 (s.size * 8)).take 7) = ll at *
            go_upto_region 8 with (fail)
            refine wp_region_lit ?_
            iterate 21 go_step
            refine MBuf.push1 rfl (.tmp 25) (.tmp 31) rfl _ ll rfl w wr _ (UInt8.ofNat (s.size * 8 / 1 % 256)) ?_ HB.out rfl hlb fun v2 w2 hb => ?_
            · rw [UInt8.toNat_ofNat_of_lt' (by show _ < 256; omega)]; omega
            rw [HE.out] at hb
            have HB2 := Lib.hid hb
            clear hb HB HE
            simp only [Act.put, Act.eval, List.setIfInBounds_toArray, List.set_cons_zero, List.set_cons_succ, Nat.reduceAdd, Array.getD_eq_getD_getElem?, List.getElem?_toArray, List.getElem?_cons_succ, List.getElem?_cons_zero, Option.getD_some]
            go_wp2_with fail
            exact ⟨⟨7 + 1, by omega, by simp, HB2⟩, by simp [intOf]⟩
        · have hk' : k = 8 := by omega
          subst hk'
          have hi' := hi
          rw [show (7 - ((8 : Nat) : Int)) = -1 by decide] at hi'
          subst hi'
          have hcs := HB.out.str
          have HX := Lib.hid HB.out.ext
          have HV := Lib.hid (show padded s.data.toList = l ++ (be8 (s.size * 8)).take 8 by rw [List.take_of_length_le (by simp [be8]), HL.out, padded, padding, len_data]; simp)
          go_wp2
          go_ret
          exact ⟨by rw [HV.out]; rfl, HX.out⟩
end ShaR
end Go.Proofs.YthgbhpeidngjmaaDoor

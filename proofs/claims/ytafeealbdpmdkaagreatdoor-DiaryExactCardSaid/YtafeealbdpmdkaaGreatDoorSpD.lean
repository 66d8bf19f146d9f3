/- Made by merge.py from: SlipSame SlipTornP. -/
import Derived.Test.YtafeealbdpmdkaaGreatDoorSpC
import Derived.Test.YtafeealbdpmdkaaGreatDoorSpA
set_option linter.unusedSimpArgs false
set_option linter.unusedVariables false
set_option linter.unusedSectionVars false
set_option maxRecDepth 100000
/- The walk of the reference's Same: two lists of slips. -/
open Go.Act renaming put → z_1, eval → z_2
open List renaming setIfInBounds_toArray → z_3, set_cons_zero → z_4, set_cons_succ → z_5, getElem?_toArray → z_7, getElem?_cons_succ → z_8, getElem?_cons_zero → z_9
open Array renaming getD_eq_getD_getElem? → z_6
open Option renaming getD_some → z_0
open Go.Lib renaming hid → y_
open Nat renaming reduceAdd → z_b
-- squeezed
namespace Go.Proofs.YtafeealbdpmdkaaGreatDoor
open Go.RowKit
namespace Slp
def sameL : List S → List S → Bool
 | [], [] => true
 | x :: xs, y :: ys => x.same y && sameL xs ys
 | _, _ => false
theorem sameL_iff : ∀ xs ys : List S, sameL xs ys = true ↔ xs = ys
 | [], [] => by simp [sameL]
 | [], y :: ys => by simp [sameL]
 | x :: xs, [] => by simp [sameL]
 | x :: xs, y :: ys => by simp [sameL, same_iff, sameL_iff xs ys]
theorem wpList_ldm {ops : Array Oper} {rest : List Oper} {o : Oper} {a : Act} {w : World} {Q : Exit → Act → World → Prop} (hw : Region.wanted o (yielded ops a.tmps) = true) (ty : TypeId) (x : Operand) (ho : o.op = .load ty x)
  (g j : Nat) (hx : a.eval x = .pointer (some ⟨g, j, none⟩)) (cs : List Value) (fs : Array Field) (h : Hid (w.rangeAt g j cs)) (hu : Tryz.prog.underlying ty = some (.struct fs))
  (hi : (Tryz.prog.info? ty).map (·.size) = some cs.length) (hk : wpList Tryz.prog ops Q rest (a.put o.dst (.agg cs.toArray)) w) : wpList Tryz.prog ops Q (o :: rest) a w := by
 unfold wpList
 rw [if_pos hw]
 exact .inl (wp_load_mid ty x ho g j hx cs _ h.out hu rfl hi hk)
set_option maxRecDepth 100000 in
set_option maxHeartbeats 4000000 in
theorem same_any (va vb : Value) (xs ys : List S) (w : World) (ha : RdS va xs w) (hb : RdS vb ys w) :
  Calls Tryz.prog 10 #[va, vb] w fun e w' => e = .returned (.bool (sameL xs ys)) ∧ Reg.Ext w w' := by
 obtain ⟨da, pa, ca, rfl, ma, ra⟩ := ha
 obtain ⟨db, pb, cb, rfl, mb, rb⟩ := hb
 have HDA := y_ da
 have HDB := y_ db
 have HRA := y_ ra
 have HRB := y_ rb
 clear da db ra rb
 go_enter Tryz.func10, Tryz.ntmps10
 by_cases hl : xs.length = ys.length
 ·have dl : ((xs.length : Int) != (ys.length : Int)) = false := by rw [hl]; simp
  have HL := y_ hl
  clear hl
  go_wp2_with fail
  go_loopw [5] (fun i wr => ∃ k : Nat, k ≤ xs.length ∧ i = .int .i64 (k : Int) ∧ Hid (xs.take k = ys.take k) ∧ Hid (Reg.Ext w wr)) (fun i _ => xs.length - (intOf i).toNat)
  case atStart => exact ⟨0, by omega, rfl, rfl, Reg.Ext.refl w⟩
  case round =>
   obtain ⟨k, hk, rfl, HT, HX⟩ := hrel
   by_cases hkl : k < xs.length
   ·have hk63 : k < 9223372036854775807 := by unfold maxLen at ma; omega
    have hkb : k < ys.length := by rw [← HL.out]; exact hkl
    obtain ⟨ga, oa, rfl, hra⟩ := HRA.out k hkl
    obtain ⟨gb, ob, rfl, hrb⟩ := HRB.out k hkb
    have dk : decide ((k : Int) < (xs.length : Int)) = true := by rw [decide_eq_true_iff]; omega
    have HA := y_ (rangeAt_ext hra HX.out)
    have HB := y_ (rangeAt_ext hrb HX.out)
    have hx := HDA.out xs[k] (List.getElem_mem hkl)
    have hy := HDB.out ys[k] (List.getElem_mem hkb)
    have HT2 := y_ (show xs[k] = ys[k] → xs.take (k + 1) = ys.take (k + 1) from fun e => by rw [List.take_succ_eq_append_getElem hkl, List.take_succ_eq_append_getElem hkb, HT.out, e])
    have HF := y_ (show xs[k] ≠ ys[k] → sameL xs ys = false from fun e => by
     rw [Bool.eq_false_iff, ne_eq, sameL_iff]
     intro h
     subst h
     exact e rfl)
    clear hra hrb HRA HRB
    generalize xs[k] = x at *
    generalize ys[k] = y at *
    have HE := y_ (fun w => equal_slip x y hx hy w)
    go_wp2_with fail
    apply Reg.wp_tab Reg.Ext (by kernel_rfl) (by kernel_rfl) Reg.Ext.refl (fun _ _ _ => Reg.Ext.trans) (Reg.Ext.drew _)
    case h =>
     intro O
     repeat (first
      | (apply Reg.TW.move_ Reg.Ext.refl _ rfl rfl
         ·simp only [z_1, z_2, z_3, z_4, z_5, z_b, z_6, z_7, z_8, z_9, z_0]
          rfl)
      | (apply Reg.TW.assign_ Reg.Ext.refl _ rfl rfl
         ·simp only [z_1, z_2, z_3, z_4, z_5, z_b, z_6, z_7, z_8, z_9, z_0]
          rfl)
      | (apply Reg.TW.skip_ rfl
         ·simp only [z_1, z_2, z_3, z_4, z_5, z_b, z_6, z_7, z_8, z_9, z_0]
          rfl)
      | (apply Reg.TW.pure_ rfl
         ·intro w1 hw1 hf K hK
          simp only [z_1, z_3, z_4, z_5] at hK
          have HK := y_ hK
          clear hf hK
          unfold Reg.One; dsimp only
          go_wp2_with fail
          exact HK.out _ (Reg.Ext.refl _)
         ·simp only [z_1, z_2, z_3, z_4, z_5, z_b, z_6, z_7, z_8, z_9, z_0]
          rfl))
     apply Reg.TW.pure_ (c := .agg x.cells.toArray) rfl
     ·intro w1 hw1 hf K hK
      simp only [z_1, z_3, z_4, z_5] at hK
      have HK := y_ hK
      clear hK
      unfold Reg.One; dsimp only
      refine wpList_ldm rfl _ _ rfl ga (oa + k * 38) rfl _ _ (y_ (rangeAt_ext HA.out hw1)) undS (by rw [cells_length x hx]; exact size38) ?_
      simp only [z_1, z_2, z_3, z_4, z_5, z_b, z_6, z_7, z_8, z_9, z_0]
      go_wp2_with fail
      exact HK.out _ (Reg.Ext.refl _)
     ·simp only [z_1, z_2, z_3, z_4, z_5, z_b, z_6, z_7, z_8, z_9, z_0]
      rfl
     repeat (first
      | (apply Reg.TW.move_ Reg.Ext.refl _ rfl rfl
         ·simp only [z_1, z_2, z_3, z_4, z_5, z_b, z_6, z_7, z_8, z_9, z_0]
          rfl)
      | (apply Reg.TW.assign_ Reg.Ext.refl _ rfl rfl
         ·simp only [z_1, z_2, z_3, z_4, z_5, z_b, z_6, z_7, z_8, z_9, z_0]
          rfl)
      | (apply Reg.TW.skip_ rfl
         ·simp only [z_1, z_2, z_3, z_4, z_5, z_b, z_6, z_7, z_8, z_9, z_0]
          rfl)
      | (apply Reg.TW.pure_ rfl
         ·intro w1 hw1 hf K hK
          simp only [z_1, z_3, z_4, z_5] at hK
          have HK := y_ hK
          clear hf hK
          unfold Reg.One; dsimp only
          go_wp2_with fail
          exact HK.out _ (Reg.Ext.refl _)
         ·simp only [z_1, z_2, z_3, z_4, z_5, z_b, z_6, z_7, z_8, z_9, z_0]
          rfl))
     apply Reg.TW.pure_ (c := .agg y.cells.toArray) rfl
     ·intro w1 hw1 hf K hK
      simp only [z_1, z_3, z_4, z_5] at hK
      have HK := y_ hK
      clear hK
      unfold Reg.One; dsimp only
      refine wpList_ldm rfl _ _ rfl gb (ob + k * 38) rfl _ _ (y_ (rangeAt_ext HB.out hw1)) undS (by rw [cells_length y hy]; exact size38) ?_
      simp only [z_1, z_2, z_3, z_4, z_5, z_b, z_6, z_7, z_8, z_9, z_0]
      go_wp2_with fail
      exact HK.out _ (Reg.Ext.refl _)
     ·simp only [z_1, z_2, z_3, z_4, z_5, z_b, z_6, z_7, z_8, z_9, z_0]
      rfl
     repeat (first
      | (apply Reg.TW.move_ Reg.Ext.refl _ rfl rfl
         ·simp only [z_1, z_2, z_3, z_4, z_5, z_b, z_6, z_7, z_8, z_9, z_0]
          rfl)
      | (apply Reg.TW.assign_ Reg.Ext.refl _ rfl rfl
         ·simp only [z_1, z_2, z_3, z_4, z_5, z_b, z_6, z_7, z_8, z_9, z_0]
          rfl)
      | (apply Reg.TW.skip_ rfl
         ·simp only [z_1, z_2, z_3, z_4, z_5, z_b, z_6, z_7, z_8, z_9, z_0]
          rfl)
      | (apply Reg.TW.pure_ rfl
         ·intro w1 hw1 hf K hK
          simp only [z_1, z_3, z_4, z_5] at hK
          have HK := y_ hK
          clear hf hK
          have q1 := HE.out
          unfold Reg.One; dsimp only
          go_wp2_with fail
          exact HK.out _ (Reg.Ext.refl _)
         ·simp only [z_1, z_2, z_3, z_4, z_5, z_b, z_6, z_7, z_8, z_9, z_0]
          rfl))
     refine Reg.TW.nil_ ?_
     intro wa hwa _
     have HXA := y_ (HX.out.trans hwa)
     clear hwa HE HA HB HX
     obtain ⟨sm, hsm⟩ : ∃ sm, sm = x.same y := ⟨_, rfl⟩
     rw [← hsm]
     cases sm with
     | true =>
       have HT3 := y_ (HT2.out (same_eq hsm.symm))
       clear HT2 HF HT hsm
       go_wp2_with fail
       go_roundw
       case rel => exact ⟨k + 1, by omega, by go_num, HT3, HXA⟩
       case measure => simp [intOf]; omega
     | false =>
       have HV := y_ (HF.out (fun e => by rw [e, same_refl] at hsm; cases hsm))
       clear HT2 HF HT hsm
       go_wp2_with fail
       go_ret
       exact ⟨by rw [HV.out]; rfl, HXA.out⟩
    case hlen => rfl
   ·have hke : k = xs.length := by omega
    have HV : Hid (sameL xs ys = true) := by
     show _ = _
     rw [sameL_iff]
     have := HT.out
     rw [hke, List.take_length, HL.out, List.take_length] at this
     exact this
    have dk : decide ((k : Int) < (xs.length : Int)) = false := by rw [decide_eq_false_iff_not]; omega
    clear HT HRA HRB
    go_wp2_with fail
    go_ret
    exact ⟨by rw [HV.out]; rfl, HX.out⟩
 ·have dl : ((xs.length : Int) != (ys.length : Int)) = true := by rw [bne_iff_ne]; omega
  have HV : Hid (sameL xs ys = false) := by
   show _ = _
   rw [Bool.eq_false_iff, ne_eq, sameL_iff]
   intro h
   exact hl (by rw [h])
  go_wp2_with fail
  go_ret
  exact ⟨by rw [HV.out]; rfl, Reg.Ext.refl w⟩
end Slp
end Go.Proofs.YtafeealbdpmdkaaGreatDoor
/- Records cut off, and records with a burst, as plain Lean. -/
namespace Go.Proofs.YtafeealbdpmdkaaGreatDoor
open Go.RowKit
namespace Slp
open CrcP (more tail le)
theorem frame_len (b : List UInt8) : (frame b).length = 6 + b.length := by simp [frame, headB, CrcP.tail_length]; omega
theorem hd_headB (n : Nat) (h : n < 65536) (t : List UInt8) : hd (headB n ++ t) = n := by
 have a : (UInt8.ofNat (n / 256 % 256)).toNat = n / 256 % 256 := UInt8.toNat_ofNat_of_lt' (by show _ < 256; omega)
 have b : (UInt8.ofNat (n % 256)).toNat = n % 256 := UInt8.toNat_ofNat_of_lt' (by show _ < 256; omega)
 simp [hd, headB, a, b]
 omega
theorem hd_take {l : List UInt8} {k : Nat} (h : 2 ≤ k) : hd (l.take k) = hd l := by
 unfold hd
 rw [List.getD_eq_getElem?_getD, List.getD_eq_getElem?_getD, List.getD_eq_getElem?_getD, List.getD_eq_getElem?_getD, List.getElem?_take_of_lt (by omega), List.getElem?_take_of_lt (by omega)]
/-- what stands in a record: head, sum, body -/
def rec3 (n : Nat) (t b : List UInt8) : List UInt8 := headB n ++ t ++ b
theorem frame_rec (b : List UInt8) : frame b = rec3 b.length (tail (more 0 (headB b.length ++ b))) b := rfl
theorem rec_drop (n : Nat) (t b r : List UInt8) (ht : t.length = 4) : (rec3 n t b ++ r).drop 6 = b ++ r := by
 unfold rec3
 rw [List.append_assoc, List.drop_append_of_le_length (by simp [headB, ht])]
 rw [List.drop_of_length_le (by simp [headB, ht])]
 rfl
theorem rec_take (n : Nat) (t b r : List UInt8) (ht : t.length = 4) : (rec3 n t b ++ r).take (6 + b.length) = rec3 n t b := by
 rw [List.take_append_of_le_length (by simp [rec3, headB, ht]; omega), List.take_of_length_le (by simp [rec3, headB, ht]; omega)]
theorem readP_rec (n : Nat) (t b r : List UInt8) (ht : t.length = 4) (hn : b.length = n) (h1 : 1 ≤ n) (h2 : n ≤ 1024) :
  readP (rec3 n t b ++ r) = if frame b ≠ rec3 n t b then (S.none, 0, 5) else match parse b with | none => (S.none, 0, 3) | some x => (x, 6 + n, 0) := by
 have hh : hd (rec3 n t b ++ r) = n := by
  unfold rec3
  rw [List.append_assoc, List.append_assoc]
  exact hd_headB n (by omega) _
 have hl : (rec3 n t b ++ r).length = 6 + n + r.length := by simp [rec3, headB, ht, hn]; omega
 have e1 := rec_drop n t b r ht
 have e2 := rec_take n t b r ht
 rw [hn] at e2
 unfold readP
 rw [hh, hl, if_neg (by omega), if_neg (by omega), if_neg (by omega), e1, e2, ← hn, List.take_left]
 rfl
theorem readP_frame (x : S) (hx : x.dig.length = 32) (hg : good x = true) (r : List UInt8) : readP (frame (body x) ++ r) = (x, (frame (body x)).length, 0) := by
 have hb := body_len x hx hg
 rw [frame_len, frame_rec, readP_rec _ _ _ _ (CrcP.tail_length _) rfl hb.1 hb.2, if_neg (by rw [frame_rec]; simp), parse_body x hx hg]
theorem readP_torn (b : List UInt8) (k : Nat) (h1 : 1 ≤ b.length) (h2 : b.length ≤ 1024) (hk : k < 6 + b.length) : (readP ((frame b).take k)).2.2 ≠ 0 := by
 have hl : ((frame b).take k).length = k := by rw [List.length_take, frame_len]; omega
 unfold readP
 rw [hl]
 by_cases h6 : k < 6
 ·rw [if_pos h6]; decide
 ·have hh : hd ((frame b).take k) = b.length := by
   rw [hd_take (by omega), frame_rec]
   unfold rec3
   rw [List.append_assoc]
   exact hd_headB _ (by omega) _
  rw [hh, if_neg h6, if_neg (by omega), if_pos hk]
  decide
/-- records one behind the other -/
def frames (xs : List S) : List UInt8 := (xs.map (fun x => frame (body x))).flatten
theorem frames_cons (x : S) (xs : List S) : frames (x :: xs) = frame (body x) ++ frames xs := by simp [frames]
theorem frames_snoc (xs : List S) (x : S) : frames (xs ++ [x]) = frames xs ++ frame (body x) := by simp [frames]
theorem frames_append (xs ys : List S) : frames (xs ++ ys) = frames xs ++ frames ys := by simp [frames]
def Fit (xs : List S) : Prop := ∀ x ∈ xs, x.dig.length = 32 ∧ good x = true
theorem allP_frames (xs : List S) (h : Fit xs) (r : List UInt8) : allP (frames xs ++ r) = (xs ++ (allP r).1, (frames xs).length + (allP r).2) := by
 induction xs with
 | nil => simp [frames]
 | cons x xs ih =>
   have hx := h x (List.mem_cons_self ..)
   have ih := ih (fun y hy => h y (List.mem_cons_of_mem _ hy))
   have e : frames (x :: xs) ++ r = frame (body x) ++ (frames xs ++ r) := by simp [frames]
   have hr := readP_frame x hx.1 hx.2 (frames xs ++ r)
   rw [e, allP_ok (by rw [hr]), hr]
   simp only
   rw [List.drop_left, ih]
   simp [frames, Nat.add_assoc]
theorem allP_nil : allP [] = ([], 0) := allP_end (by decide)
/-- cut off at k behind just so many whole records -/
theorem allP_cut (xs : List S) (h : Fit xs) (k i : Nat) (hk : k ≤ (frames xs).length) (hi : i ≤ xs.length) (h1 : (frames (xs.take i)).length ≤ k) (h2 : i < xs.length → k < (frames (xs.take (i + 1))).length) :
  allP ((frames xs).take k) = (xs.take i, (frames (xs.take i)).length) := by
 have hF : Fit (xs.take i) := fun y hy => h y (List.mem_of_mem_take hy)
 have e : frames xs = frames (xs.take i) ++ frames (xs.drop i) := by rw [← frames_append, List.take_append_drop]
 have hend : (readP ((frames (xs.drop i)).take (k - (frames (xs.take i)).length))).2.2 ≠ 0 := by
  by_cases hlt : i < xs.length
  ·have hd : xs.drop i = xs[i] :: xs.drop (i + 1) := List.drop_eq_getElem_cons hlt
   have hx := h xs[i] (List.getElem_mem hlt)
   have hb := body_len _ hx.1 hx.2
   have h2 := h2 hlt
   rw [List.take_succ_eq_append_getElem hlt, frames_snoc, List.length_append, frame_len] at h2
   have e2 : frames (xs.drop i) = frame (body xs[i]) ++ frames (xs.drop (i + 1)) := by rw [hd, frames_cons]
   rw [e2, List.take_append_of_le_length (by rw [frame_len]; omega)]
   exact readP_torn _ _ hb.1 hb.2 (by omega)
  ·have : xs.drop i = [] := List.drop_of_length_le (by omega)
   rw [this]
   simp [frames]
   decide
 rw [e, List.take_append, List.take_of_length_le h1, allP_frames _ hF, allP_end hend]
 simp
end Slp
end Go.Proofs.YtafeealbdpmdkaaGreatDoor

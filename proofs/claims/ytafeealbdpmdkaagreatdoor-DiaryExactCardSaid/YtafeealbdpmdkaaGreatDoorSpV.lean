/- Made by merge.py from: SlipEmp SlipTook SlipParseR SlipReadR SlipAllX. -/
import Derived.Test.YtafeealbdpmdkaaGreatDoorSpC
import Derived.Test.YtafeealbdpmdkaaGreatDoorSpB
import Derived.BigQuiet
import Derived.Test.YtafeealbdpmdkaaGreatDoorSpR
import Derived.Test.YtafeealbdpmdkaaGreatDoorSpW
set_option linter.unusedSimpArgs false
set_option linter.unusedVariables false
set_option linter.unusedSectionVars false
set_option maxRecDepth 100000
/- A row of no slips. -/
open Go.Act renaming put → z_1, eval → z_2
open List renaming setIfInBounds_toArray → z_3, set_cons_zero → z_4, set_cons_succ → z_5, getElem?_toArray → z_7, getElem?_cons_succ → z_8, getElem?_cons_zero → z_9
open Array renaming getD_eq_getD_getElem? → z_6
open Option renaming getD_some → z_0
open Go.Lib renaming hid → y_
open List renaming size_toArray → z_a
open Nat renaming reduceAdd → z_b
open List renaming toList_toArray → z_c
-- squeezed
namespace Go.Proofs.YtafeealbdpmdkaaGreatDoor
open Go.RowKit
namespace Slp
theorem Row.empty (w : World) (B : Nat) (hB : B ≤ w.heap.size) : Row B (.slice (some ⟨w.heap.size, 0, none⟩) 0 0) [] (w.alloc (.cells #[] 39)) :=
 ⟨World.ownsRow_made w #[] 0 hB (Nat.zero_le _) rfl, by simp⟩
end Slp
end Go.Proofs.YtafeealbdpmdkaaGreatDoor
/- The reference's took and counted. -/
namespace Go.Proofs.YtafeealbdpmdkaaGreatDoor
open Go.RowKit
namespace Slp
/-- the place in the whole list at which a scan stands; -1: the body is bad -/
def Plc (l : List UInt8) (s : Sc) (a : Int) : Prop := (s = none ∧ a = -1) ∨ ∃ k : Nat, k ≤ l.length ∧ s = some (l.drop k) ∧ a = (k : Int)
theorem index_any (s : ByteArray) (i : Nat) (hi : i < s.size) : ∀ W, (Instr.index 9 (.string s) (.int .i64 (i : Int))).run Tryz.prog W = .ok (.int .u8 ((s.data.toList[i]'(by rw [len_data]; exact hi)).toNat : Int)) W := by
 intro W
 rw [run_index_string (P := Tryz.prog) W _ _ _ _ Tryz.underlying9, dif_pos ⟨by omega, by omega⟩]
 rfl
theorem textS_end (l : List UInt8) (k : Nat) (h : l.length ≤ k) : textS (some (l.drop k)) = ([], none) := by
 rw [List.drop_of_length_le h]; rfl
theorem textS_at (l : List UInt8) (k : Nat) (h : k < l.length) : textS (some (l.drop k)) = if (l[k]).toNat ≤ l.length - k - 1 then ((l.drop (k + 1)).take (l[k]).toNat, some (l.drop (k + 1 + (l[k]).toNat))) else ([], none) := by
 unfold textS
 rw [List.drop_eq_getElem_cons h, nextB_cons]
 simp only
 unfold take
 dsimp only
 rw [List.length_drop]
 by_cases hc : (l[k]).toNat ≤ l.length - (k + 1)
 ·rw [if_pos hc, if_pos (by omega), List.drop_drop]
 ·rw [if_neg hc, if_neg (by omega)]
set_option maxHeartbeats 4000000 in
theorem took_any (S0 : ByteArray) (s : Sc) (a : Int) (w : World) (hS : S0.size ≤ 1048576) (h : Plc S0.data.toList s a) :
  Calls Tryz.prog 105 #[.string S0, .int .i64 a] w fun e w' => ∃ a' : Int, e = .returned (.tuple #[.string ⟨(textS s).1.toArray⟩, .int .i64 a']) ∧ Plc S0.data.toList (textS s).2 a' ∧ Reg.Ext w w' := by
 have hlen := len_data S0
 go_enter Tryz.func105, Tryz.ntmps105
 rcases h with ⟨rfl, rfl⟩ | ⟨k, hk, rfl, rfl⟩
 ·go_wp2_with fail
  go_ret2
  exact ⟨-1, rfl, .inl ⟨rfl, rfl⟩, Reg.Ext.refl w⟩
 ·have d0 : decide ((k : Int) < 0) = false := by rw [decide_eq_false_iff_not]; omega
  by_cases hkl : k < S0.size
  ·have d1 : decide ((S0.size : Int) ≤ (k : Int)) = false := by rw [decide_eq_false_iff_not]; omega
   have hix := index_any S0 k hkl
   have HTA := y_ (textS_at S0.data.toList k (by omega))
   have hcl := (S0.data.toList[k]'(by omega)).toNat_lt
   generalize (S0.data.toList[k]'(by omega)).toNat = c at *
   rw [hlen] at HTA
   by_cases hc : c ≤ S0.size - k - 1
   ·have d2 : decide ((S0.size : Int) - (k : Int) - 1 < (c : Int)) = false := by rw [decide_eq_false_iff_not]; omega
    have HV := y_ (HTA.out.trans (if_pos hc))
    clear HTA
    have hcs : k + 1 + c ≤ S0.size := by omega
    go_upto_region 3 with (fail)
    go_quiet (fail)
    go_wp2_with fail
    go_ret2
    have hst : S0.extract (k + 1) (k + 1 + c) = ⟨((S0.data.toList.drop (k + 1)).take c).toArray⟩ := ba_ext (by rw [lst, ext_data]; simp)
    exact ⟨(k : Int) + 1 + (c : Int), by rw [HV.out, ← hst]; rfl, by rw [HV.out]; exact .inr ⟨k + 1 + c, by omega, rfl, by omega⟩, Reg.Ext.drewN w _⟩
   ·have d2 : decide ((S0.size : Int) - (k : Int) - 1 < (c : Int)) = true := by rw [decide_eq_true_iff]; omega
    have HV := y_ (HTA.out.trans (if_neg hc))
    clear HTA
    go_wp2_with fail
    go_ret2
    exact ⟨-1, by rw [HV.out]; rfl, by rw [HV.out]; exact .inl ⟨rfl, rfl⟩, Reg.Ext.refl w⟩
  ·have d1 : decide ((S0.size : Int) ≤ (k : Int)) = true := by rw [decide_eq_true_iff]; omega
   have HV := y_ (textS_end S0.data.toList k (by omega))
   go_wp2_with fail
   go_ret2
   exact ⟨-1, by rw [HV.out]; rfl, by rw [HV.out]; exact .inl ⟨rfl, rfl⟩, Reg.Ext.refl w⟩
theorem numS_short (l : List UInt8) (k : Nat) (h : l.length < k + 8) : numS (some (l.drop k)) = (0, none) := by
 unfold numS
 rw [take_no (by rw [List.length_drop]; omega)]
 rfl
theorem numS_at (l : List UInt8) (k : Nat) (h : k + 8 ≤ l.length) : numS (some (l.drop k)) = if fromB ((l.drop k).take 8) ≤ 1099511627776 then (fromB ((l.drop k).take 8), some (l.drop (k + 8))) else (0, none) := by
 unfold numS
 rw [take_ok (by rw [List.length_drop]; omega)]
 simp only [List.drop_drop]
set_option maxHeartbeats 4000000 in
theorem counted_any (S0 : ByteArray) (s : Sc) (a : Int) (w : World) (hS : S0.size ≤ 1048576) (h : Plc S0.data.toList s a) :
  Calls Tryz.prog 106 #[.string S0, .int .i64 a] w fun e w' => ∃ a' : Int, e = .returned (.tuple #[.int .i64 ((numS s).1 : Int), .int .i64 a']) ∧ Plc S0.data.toList (numS s).2 a' ∧ Reg.Ext w w' := by
 have hlen := len_data S0
 go_enter Tryz.func106, Tryz.ntmps106
 rcases h with ⟨rfl, rfl⟩ | ⟨k, hk, rfl, rfl⟩
 ·go_wp2_with fail
  go_ret2
  exact ⟨-1, rfl, .inl ⟨rfl, rfl⟩, Reg.Ext.refl w⟩
 ·have d0 : decide ((k : Int) < 0) = false := by rw [decide_eq_false_iff_not]; omega
  by_cases hk8 : k + 8 ≤ S0.size
  ·have d1 : decide ((S0.size : Int) - (k : Int) < 8) = false := by rw [decide_eq_false_iff_not]; omega
   have HN := y_ (numS_at S0.data.toList k (by omega))
   have hml : ((S0.data.toList.drop k).take 8).length = 8 := by rw [List.length_take, List.length_drop]; omega
   have HM : Hid (∀ j (hj : j < 8), ∃ hq : k + j < S0.data.toList.length, ((S0.data.toList.drop k).take 8)[j]? = some (S0.data.toList[k + j]'hq)) := by
    intro j hj
    have hq : k + j < S0.data.toList.length := by omega
    refine ⟨hq, ?_⟩
    rw [List.getElem?_take_of_lt (by omega), List.getElem?_drop, List.getElem?_eq_getElem hq]
   generalize hmm : (S0.data.toList.drop k).take 8 = m at *
   clear hmm
   go_wp2_with fail
   go_loopw [6, 7] (fun n i wr => ∃ j : Nat, j ≤ 8 ∧ i = .int .i64 j ∧ n = .int .u64 (fromB (m.take j) : Nat) ∧ Hid (Reg.Ext w wr)) (fun _ i _ => 8 - (intOf i).toNat)
   case atStart => exact ⟨0, by omega, rfl, rfl, Reg.Ext.refl w⟩
   case round =>
    obtain ⟨j, hj, rfl, rfl, HX⟩ := hrel
    by_cases hjl : j < 8
    ·have dj : decide ((j : Int) < 8) = true := by rw [decide_eq_true_iff]; omega
     obtain ⟨hq, hmj⟩ := HM.out j hjl
     have hix := index_any S0 (k + j) (by omega)
     have hjm : j < m.length := by omega
     have hmj2 : m[j] = S0.data.toList[k + j] := by
      rw [List.getElem?_eq_getElem hjm] at hmj
      injection hmj
     rw [← hmj2] at hix
     have hsn : fromB (m.take (j + 1)) = fromB (m.take j) * 256 + (m[j]).toNat := by
      rw [List.take_succ_eq_append_getElem hjm, fromB_snoc]
     have hlt : fromB (m.take j) < 72057594037927936 := by
      have h1 := fromB_lt (m.take j)
      rw [List.length_take, Nat.min_eq_left (by omega)] at h1
      have h2 : 256 ^ j ≤ 256 ^ 7 := Nat.pow_le_pow_right (by omega) (by omega)
      have h3 : (256 : Nat) ^ 7 = 72057594037927936 := rfl
      omega
     have hcl := (m[j]).toNat_lt
     have hor := or_low (fromB (m.take j)) (m[j]).toNat hlt hcl
     rw [show ((k + j : Nat) : Int) = (k : Int) + (j : Int) by omega] at hix
     clear hmj hmj2 hq
     generalize m[j] = c at *
     have HS := y_ hsn
     clear hsn hjm
     generalize fromB (m.take j) = n at *
     go_wp2_with fail
     go_roundw
     case rel => exact ⟨j + 1, by omega, by go_num, by rw [HS.out]; go_num, HX⟩
     case measure => simp [intOf]; omega
    ·have hje : j = 8 := by omega
     subst hje
     have dj : decide (((8 : Nat) : Int) < 8) = false := by decide
     rw [show m.take 8 = m from List.take_of_length_le (by omega)]
     have hlt : fromB m < 18446744073709551616 := by
      have h1 := fromB_lt m
      rw [hml] at h1
      have h3 : (256 : Nat) ^ 8 = 18446744073709551616 := rfl
      omega
     generalize fromB m = x at *
     by_cases hx : x ≤ 1099511627776
     ·have dx : decide ((1099511627776 : Int) < (x : Int)) = false := by rw [decide_eq_false_iff_not]; omega
      have HV := y_ (HN.out.trans (if_pos hx))
      have hwr : IntKind.i64.wrap (x : Int) = (x : Int) := by rw [IntKind.wrap_i64]; omega
      clear HN HM
      go_wp2_with fail
      go_ret2
      exact ⟨(k : Int) + 8, by rw [HV.out]; rfl, by rw [HV.out]; exact .inr ⟨k + 8, by omega, rfl, by omega⟩, HX.out⟩
     ·have dx : decide ((1099511627776 : Int) < (x : Int)) = true := by rw [decide_eq_true_iff]; omega
      have HV := y_ (HN.out.trans (if_neg hx))
      clear HN HM
      go_wp2_with fail
      go_ret2
      exact ⟨-1, by rw [HV.out]; rfl, by rw [HV.out]; exact .inl ⟨rfl, rfl⟩, HX.out⟩
  ·have d1 : decide ((S0.size : Int) - (k : Int) < 8) = true := by rw [decide_eq_true_iff]; omega
   have HV := y_ (numS_short S0.data.toList k (by omega))
   go_wp2_with fail
   go_ret2
   exact ⟨-1, by rw [HV.out]; rfl, by rw [HV.out]; exact .inl ⟨rfl, rfl⟩, Reg.Ext.refl w⟩
end Slp
end Go.Proofs.YtafeealbdpmdkaaGreatDoor
/- The walk of the reference's Parse. -/
namespace Go.Proofs.YtafeealbdpmdkaaGreatDoor
open Go.RowKit
namespace Slp
theorem set_dig (x : S) (j : Nat) (c : UInt8) (h : j < x.dig.length) : x.cells.set (3 + j) (byteV c) = ({ x with dig := x.dig.set j c } : S).cells := by
 rw [cells_eq, cells_eq, List.append_assoc, List.append_assoc, List.set_append_right _ _ (by simp)]
 congr 1
 rw [show 3 + j - [Value.int .i64 x.k, .string x.repo, .string x.tag].length = j by simp, List.set_append_left _ _ (by rw [List.length_map]; exact h), List.map_set]
 rfl
theorem set_next (m d : List UInt8) (j : Nat) (hm : j < m.length) (hd : j < d.length) : (m.take j ++ d.drop j).set j m[j] = m.take (j + 1) ++ d.drop (j + 1) := by
 rw [List.set_append_right _ _ (by rw [List.length_take]; omega), List.length_take, Nat.min_eq_left (by omega), Nat.sub_self, List.drop_eq_getElem_cons hd, List.set_cons_zero, List.take_succ_eq_append_getElem hm, List.append_assoc]
 rfl
theorem parse_nil : parse [] = none := by decide +kernel
theorem parse_bad (c : UInt8) (r : List UInt8) (h : known (c.toNat : Int) = false) : parse (c :: r) = none := by
 unfold parse
 rw [if_neg]
 rintro ⟨-, hg⟩
 have hk : (parsed (c :: r)).1.k = (c.toNat : Int) := by
  unfold parsed first
  rw [nextB_cons]
  have hf : flds ((c.toNat : Nat) : Int) = ⟨false, false, false, false⟩ := by
   unfold known at h
   rw [decide_eq_false_iff_not] at h
   unfold flds
   rw [if_neg (by omega), if_neg (by omega), if_neg (by omega), if_neg (by omega), if_neg (by omega), if_neg (by omega)]
  simp only [hf, parseF, Bool.false_eq_true, if_false]
 have := ((good_iff _).1 hg).1
 rw [hk, h] at this
 cases this
set_option maxRecDepth 100000 in
set_option maxHeartbeats 8000000 in
theorem parseR_any (s : ByteArray) (w : World) (hs : s.size ≤ 1048576) :
  Calls Tryz.prog 88 #[.string s] w fun e w' => e = .returned (parseV s.data.toList) ∧ Reg.Ext w w' := by
 go_enter Tryz.func88, Tryz.ntmps88
 go_upto_region 1 with (fail)
 rw [z38]
 have hb2 := boxS w S.none
 have hx2 := Reg.Ext.alloc w (Obj.cells S.none.cells.toArray 39)
 generalize w.alloc (Obj.cells S.none.cells.toArray 39) = w2 at *
 obtain ⟨g2, hg2⟩ : ∃ g, w.heap.size = g := ⟨_, rfl⟩
 rw [hg2] at hb2 ⊢
 refine wp_region_lit ?_
 refine wpList_val rfl (.agg S.none.cells.toArray) (by as_aux_lemma => kernel_rfl) ?_
 simp only [z_1, z_2, z_3, z_4, z_5, z_b, z_6, z_7, z_8, z_9, z_0]
 iterate 3 go_step
 rw [z38]
 have hb4 := boxS w2 S.none
 have hx4 := Reg.Ext.alloc w2 (Obj.cells S.none.cells.toArray 39)
 have hs2 := hx2.size
 have lt2 := hb2.lt
 generalize w2.alloc (Obj.cells S.none.cells.toArray 39) = w4 at *
 obtain ⟨g4, hg4⟩ : ∃ g, w2.heap.size = g := ⟨_, rfl⟩
 rw [hg4] at hb4 hs2 lt2 ⊢
 refine wpList_store_mid rfl 39 _ _ rfl g4 0 ((S.none).cells).toArray rfl ?_ (hb4.there _ (by have e1 := cells_length _ none_dig; have e2 := cells_length _ none_dig; rw [z_a]; omega)) (by rw [z_a, cells_length _ none_dig]; exact size38) (all_oneCell_toArray (oneS _)) ?_
 ·rfl
 simp only [z_c]
 simp only [z_1, z_2, z_3, z_4, z_5, z_b, z_6, z_7, z_8, z_9, z_0]
 have hbx := But.setCells g4 S.none.cells 0 w4
 have HY := y_ (hb4.setAll S.none.cells rfl)
 have H2 := y_ ((hb2.ext hx4).but hbx (by omega))
 have l4 : w.heap.size ≤ g4 := hs2
 have l2 : w.heap.size ≤ g2 := by omega
 have X := y_ ((hx2.trans hx4).trans_but hbx l4)
 clear hb2 hx2 hb4 hx4 hbx hg2 hg4
 generalize w4.setCells g4 0 S.none.cells = wi at *
 have l24 : g2 < g4 := lt2
 clear lt2 hs2 w2 w4
 have hlen := len_data s
 by_cases h0 : s.size = 0
 ·have d0 : ((s.size : Int) == 0) = true := by rw [h0]; rfl
  have HV : Hid (parseV s.data.toList = .tuple #[.agg S.none.cells.toArray, .bool false]) := by
   show parseV _ = _
   have : s.data.toList = [] := List.length_eq_zero_iff.1 (by omega)
   rw [this]
   unfold parseV
   rw [parse_nil]
  clear h0 hlen
  go_upto_region 3 with (fail)
  refine wp_region_lit ?_
  refine wpList_load_row rfl 39 _ rfl g4 rfl 39 (S.none.cells).toArray (0, 0) _ HY.out undS rfl (by rw [z_a, cells_length _ none_dig]; exact size38) ?_
  simp only [z_1, z_2, z_3, z_4, z_5, z_b, z_6, z_7, z_8, z_9, z_0]
  have h2 := H2.out
  refine wpList_store_mid rfl 39 _ _ rfl g2 0 ((S.none).cells).toArray rfl ?_ (h2.there _ (by have e1 := cells_length _ none_dig; have e2 := cells_length _ none_dig; rw [z_a]; omega)) (by rw [z_a, cells_length _ none_dig]; exact size38) (all_oneCell_toArray (oneS _)) ?_
  ·rfl
  simp only [z_c]
  simp only [z_1, z_2, z_3, z_4, z_5, z_b, z_6, z_7, z_8, z_9, z_0]
  have HN := y_ (h2.setAll S.none.cells rfl)
  have XN := y_ (X.out.trans_but (But.setCells g2 S.none.cells 0 wi) l2)
  generalize wi.setCells g2 0 S.none.cells = wn at *
  clear h2 H2 X
  go_wp2_with fail
  exact bodyPost_ret (results_row2 rfl _ _ g2 39 (S.none.cells).toArray (0, 0) _ rfl HN.out undS rfl (by rw [z_a, cells_length _ none_dig]; exact size38)) rfl ⟨by rw [HV.out]; rfl, XN.out⟩
 have d0 : ((s.size : Int) == 0) = false := by rw [Bool.eq_false_iff, ne_eq, beq_iff_eq]; omega
 have hix := index_any s 0 (by omega)
 rw [show ((0 : Nat) : Int) = 0 from rfl] at hix
 obtain ⟨c, r, hcr⟩ : ∃ c r, s.data.toList = c :: r := by
  cases hl : s.data.toList with
  | nil => rw [hl] at hlen; simp at hlen; omega
  | cons c r => exact ⟨c, r, rfl⟩
 have hc0 : s.data.toList[0]'(by omega) = c := by simp [hcr]
 rw [hc0] at hix
 have hcl := c.toNat_lt
 cases hkn : known (c.toNat : Int) with
 | false =>
   have HV : Hid (parseV s.data.toList = .tuple #[.agg S.none.cells.toArray, .bool false]) := by
    show parseV _ = _
    rw [hcr]
    unfold parseV
    rw [parse_bad c r hkn]
   unfold known at hkn
   rw [decide_eq_false_iff_not] at hkn
   generalize c.toNat = n at *
   clear hc0 hcr hlen h0
   by_cases hn1 : n < 1
   ·have dn : decide ((n : Int) < 1) = true := by rw [decide_eq_true_iff]; omega
    clear hkn hn1
    go_upto_region 3 with (fail)
    refine wp_region_lit ?_
    refine wpList_load_row rfl 39 _ rfl g4 rfl 39 (S.none.cells).toArray (0, 0) _ HY.out undS rfl (by rw [z_a, cells_length _ none_dig]; exact size38) ?_
    simp only [z_1, z_2, z_3, z_4, z_5, z_b, z_6, z_7, z_8, z_9, z_0]
    have h2 := H2.out
    refine wpList_store_mid rfl 39 _ _ rfl g2 0 ((S.none).cells).toArray rfl ?_ (h2.there _ (by have e1 := cells_length _ none_dig; have e2 := cells_length _ none_dig; rw [z_a]; omega)) (by rw [z_a, cells_length _ none_dig]; exact size38) (all_oneCell_toArray (oneS _)) ?_
    ·rfl
    simp only [z_c]
    simp only [z_1, z_2, z_3, z_4, z_5, z_b, z_6, z_7, z_8, z_9, z_0]
    have HN := y_ (h2.setAll S.none.cells rfl)
    have XN := y_ (X.out.trans_but (But.setCells g2 S.none.cells 0 wi) l2)
    generalize wi.setCells g2 0 S.none.cells = wn at *
    clear h2 H2 X
    go_wp2_with fail
    exact bodyPost_ret (results_row2 rfl _ _ g2 39 (S.none.cells).toArray (0, 0) _ rfl HN.out undS rfl (by rw [z_a, cells_length _ none_dig]; exact size38)) rfl ⟨by rw [HV.out]; rfl, XN.out⟩
   ·have dn : decide ((n : Int) < 1) = false := by rw [decide_eq_false_iff_not]; omega
    have dn6 : decide ((6 : Int) < (n : Int)) = true := by rw [decide_eq_true_iff]; omega
    clear hkn hn1
    go_upto_region 3 with (fail)
    refine wp_region_lit ?_
    refine wpList_load_row rfl 39 _ rfl g4 rfl 39 (S.none.cells).toArray (0, 0) _ HY.out undS rfl (by rw [z_a, cells_length _ none_dig]; exact size38) ?_
    simp only [z_1, z_2, z_3, z_4, z_5, z_b, z_6, z_7, z_8, z_9, z_0]
    have h2 := H2.out
    refine wpList_store_mid rfl 39 _ _ rfl g2 0 ((S.none).cells).toArray rfl ?_ (h2.there _ (by have e1 := cells_length _ none_dig; have e2 := cells_length _ none_dig; rw [z_a]; omega)) (by rw [z_a, cells_length _ none_dig]; exact size38) (all_oneCell_toArray (oneS _)) ?_
    ·rfl
    simp only [z_c]
    simp only [z_1, z_2, z_3, z_4, z_5, z_b, z_6, z_7, z_8, z_9, z_0]
    have HN := y_ (h2.setAll S.none.cells rfl)
    have XN := y_ (X.out.trans_but (But.setCells g2 S.none.cells 0 wi) l2)
    generalize wi.setCells g2 0 S.none.cells = wn at *
    clear h2 H2 X
    go_wp2_with fail
    exact bodyPost_ret (results_row2 rfl _ _ g2 39 (S.none.cells).toArray (0, 0) _ rfl HN.out undS rfl (by rw [z_a, cells_length _ none_dig]; exact size38)) rfl ⟨by rw [HV.out]; rfl, XN.out⟩
 | true =>
   have hkk := hkn
   unfold known at hkk
   rw [decide_eq_true_iff] at hkk
   have HFI : Hid (first s.data.toList = ({ S.none with k := (c.toNat : Int) }, some (s.data.toList.drop 1))) := by
    show first _ = _
    rw [hcr]
    unfold first
    rw [nextB_cons]
    rfl
   have HPR : Hid (parsed s.data.toList = parseF (flds (c.toNat : Int)) (first s.data.toList)) := by
    show parsed _ = _
    unfold parsed
    rw [hcr, nextB_cons]
   have CH := y_ (has_any (c.toNat : Int) hkn)
   have hfk := flds_known hkn
   generalize c.toNat = n at *
   have dn : decide ((n : Int) < 1) = false := by rw [decide_eq_false_iff_not]; omega
   have dn6 : decide ((6 : Int) < (n : Int)) = false := by rw [decide_eq_false_iff_not]; omega
   have hl1 : 1 ≤ s.data.toList.length := by omega
   clear hc0 hcr hlen h0 hkn
   obtain ⟨p, hp⟩ : ∃ p, p = first s.data.toList := ⟨_, rfl⟩
   rw [← hp] at HPR HFI
   have hs0 := HY.out.set_ 0 (.int .i64 (n : Int))
   have r0 : wi.cell? ⟨g4, 0, none⟩ = some (.int .i64 0) := HY.out.cell 0
   have f0 := HY.out.frozen 0
   have hbx := But.set_ g4 wi 0 (.int .i64 (n : Int))
   have HYn : Hid (Blk (wi.setCell ⟨g4, 0, none⟩ (.int .i64 (n : Int))) g4 39 p.1.cells) := by
    rw [HFI.out]
    exact hs0
   have HD : p.1.dig.length = 32 := by rw [HFI.out]; exact none_dig
   have HPL : Hid (Plc s.data.toList p.2 1) := .inr ⟨1, hl1, by rw [HFI.out], rfl⟩
   have hpk : p.1.k = (n : Int) := by rw [HFI.out]
   have HPK := y_ hpk
   have H2n := y_ (H2.out.but hbx (by omega))
   have Xn := y_ (X.out.trans_but hbx l4)
   clear hs0 hp HFI hl1 hpk
   go_upto_region 5 with (fail)
   clear HY H2 X hbx r0 f0 dn dn6 hix
   generalize wi.setCell ⟨g4, 0, none⟩ (.int .i64 (n : Int)) = wj at *
   clear wi
   have HY := HYn
   have H2 := H2n
   have X := Xn
   clear HYn H2n Xn
   generalize wj = wi at *
   have c0 : wi.cell? ⟨g4, 0, none⟩ = some (.int .i64 (n : Int)) := by rw [← HPK.out]; exact HY.out.cell 0
   go_wp2_with fail
   refine (CH.out wi).mono ?_
   rintro e w5 ⟨rfl, x5⟩
   have HYn := y_ (HY.out.ext x5)
   have H2n := y_ (H2.out.ext x5)
   have Xn := y_ (X.out.trans x5)
   clear HY H2 X CH c0 x5
   clear wi
   have HY := HYn
   have H2 := H2n
   have X := Xn
   clear HYn H2n Xn
   obtain ⟨f, hf⟩ : ∃ f, f = flds (n : Int) := ⟨_, rfl⟩
   rw [← hf] at hfk HPR ⊢
   clear hf
   rcases hfk with rfl | rfl | rfl | rfl | rfl
   ·
    -- {A
    have HR : Hid (parsed s.data.toList = pAt (pThing (pDig (pNames p)))) := HPR
    rw [show (F.cells ⟨true, true, true, true⟩) = [.bool true, .bool true, .bool true, .bool true] from rfl]
    go_upto_region 7 with (fail)
    have hbf : Blk (w5.alloc (Obj.cells #[Value.bool true, Value.bool true, Value.bool true, Value.bool true] 130)) w5.heap.size 130 [.bool true, .bool true, .bool true, .bool true] := Blk.new w5 130 #[Value.bool true, Value.bool true, Value.bool true, Value.bool true]
    have hxf := Reg.Ext.alloc w5 (Obj.cells #[Value.bool true, Value.bool true, Value.bool true, Value.bool true] 130)
    have HF := y_ hbf
    have HYn := y_ (HY.out.ext hxf)
    have H2n := y_ (H2.out.ext hxf)
    have Xn := y_ (X.out.trans hxf)
    have l45 := HY.out.lt
    clear HY H2 X hbf hxf
    have HY := HYn
    have H2 := H2n
    have X := Xn
    clear HYn H2n Xn
    generalize w5.alloc (Obj.cells #[Value.bool true, Value.bool true, Value.bool true, Value.bool true] 130) = wi at *
    generalize w5.heap.size = g5 at *
    generalize (1 : Int) = a at HPL ⊢
    have p0 : wi.cell? ⟨g5, 0, none⟩ = some (.bool true) := HF.out.cell 0
    have p1 : wi.cell? ⟨g5, 1, none⟩ = some (.bool true) := HF.out.cell 1
    have p2 : wi.cell? ⟨g5, 2, none⟩ = some (.bool true) := HF.out.cell 2
    have p3 : wi.cell? ⟨g5, 3, none⟩ = some (.bool true) := HF.out.cell 3
    have C1 := y_ (took_any s p.2 a wi hs HPL.out)
    go_wp2_with fail
    refine (C1.out).mono ?_
    rintro e wj ⟨a1, rfl, hp1, xj⟩
    have HP1 := y_ hp1
    clear C1 hp1 p0 p1 p2 p3
    have HYn := y_ (HY.out.ext xj)
    have HFn := y_ (HF.out.ext xj)
    have H2n := y_ (H2.out.ext xj)
    have Xn := y_ (X.out.trans xj)
    clear xj HY HF H2 X
    try clear wi
    have HY := HYn
    have HF := HFn
    have H2 := H2n
    have X := Xn
    clear HYn HFn H2n Xn
    generalize wj = wi at *
    have C2 := y_ (took_any s (textS p.2).2 a1 wi hs HP1.out)
    go_wp2_with fail
    refine (C2.out).mono ?_
    rintro e wj ⟨a2, rfl, hp2, xj⟩
    have HP2 : Hid (Plc s.data.toList (pNames p).2 a2) := hp2
    clear C2 hp2 HP1 HPL
    have HYn := y_ (HY.out.ext xj)
    have HFn := y_ (HF.out.ext xj)
    have H2n := y_ (H2.out.ext xj)
    have Xn := y_ (X.out.trans xj)
    clear xj HY HF H2 X
    try clear wi
    have HY := HYn
    have HF := HFn
    have H2 := H2n
    have X := Xn
    clear HYn HFn H2n Xn
    generalize wj = wi at *
    have r1 : wi.cell? ⟨g4, 1, none⟩ = some (.string p.1.repo) := HY.out.cell 1
    have r2 : wi.cell? ⟨g4, 2, none⟩ = some (.string p.1.tag) := HY.out.cell 2
    have f1 := HY.out.frozen 1
    have f2 := HY.out.frozen 2
    have hs0 := (HY.out.set_ 1 (.string ⟨(textS p.2).1.toArray⟩)).set_ 2 (.string ⟨(textS (textS p.2).2).1.toArray⟩)
    rw [set1, set2] at hs0
    have hbx := (But.set_ g4 wi 1 (.string ⟨(textS p.2).1.toArray⟩)).trans (But.set_ g4 _ 2 (.string ⟨(textS (textS p.2).2).1.toArray⟩))
    have HYn : Hid (Blk ((wi.setCell ⟨g4, 1, none⟩ (.string ⟨(textS p.2).1.toArray⟩)).setCell ⟨g4, 2, none⟩ (.string ⟨(textS (textS p.2).2).1.toArray⟩)) g4 39 (pNames p).1.cells) := hs0
    clear hs0
    go_upto_region 13 with (fail)
    clear r1 r2 f1 f2
    have HDn : (pNames p).1.dig.length = 32 := HD
    have HFn := y_ (HF.out.but hbx (by omega))
    have H2n := y_ (H2.out.but hbx (by omega))
    have Xn := y_ (X.out.trans_but hbx l4)
    clear hbx HY HD HF H2 X
    generalize ((wi.setCell ⟨g4, 1, none⟩ (.string ⟨(textS p.2).1.toArray⟩)).setCell ⟨g4, 2, none⟩ (.string ⟨(textS (textS p.2).2).1.toArray⟩)) = wi at *
    generalize pNames p = p at *
    generalize a2 = a at *
    have HY := HYn
    have HD := HDn
    have HF := HFn
    have H2 := H2n
    have X := Xn
    have HPL := HP2
    clear HYn HDn HFn H2n Xn HP2
    have p0 : wi.cell? ⟨g5, 0, none⟩ = some (.bool true) := HF.out.cell 0
    have p1 : wi.cell? ⟨g5, 1, none⟩ = some (.bool true) := HF.out.cell 1
    have p2 : wi.cell? ⟨g5, 2, none⟩ = some (.bool true) := HF.out.cell 2
    have p3 : wi.cell? ⟨g5, 3, none⟩ = some (.bool true) := HF.out.cell 3
    rcases HPL.out with ⟨hp2, ha⟩ | ⟨k, hk, hp2, ha⟩
    ·have hpd : pDig p = (p.1, none) := by unfold pDig; rw [hp2]; rfl
     subst ha
     -- {N
     go_upto_region 21 with (fail)
     clear p0 p1 p2 p3 HPL hp2
     have HPL : Hid (Plc s.data.toList (pDig p).2 (-1)) := .inl ⟨by rw [hpd], rfl⟩
     have HYn : Hid (Blk wi g4 39 (pDig p).1.cells) := by rw [hpd]; exact HY.out
     have HDn : (pDig p).1.dig.length = 32 := pDig_len p HD
     clear HY HD hpd
     generalize pDig p = p at *
     generalize (-1 : Int) = a at HPL ⊢
     have HY := HYn
     have HD := HDn
     clear HYn HDn
     have p0 : wi.cell? ⟨g5, 0, none⟩ = some (.bool true) := HF.out.cell 0
     have p1 : wi.cell? ⟨g5, 1, none⟩ = some (.bool true) := HF.out.cell 1
     have p2 : wi.cell? ⟨g5, 2, none⟩ = some (.bool true) := HF.out.cell 2
     have p3 : wi.cell? ⟨g5, 3, none⟩ = some (.bool true) := HF.out.cell 3
     have C1 := y_ (took_any s p.2 a wi hs HPL.out)
     go_wp2_with fail
     refine (C1.out).mono ?_
     rintro e wj ⟨a1, rfl, hp1, xj⟩
     have HP1 := y_ hp1
     clear C1 hp1 p0 p1 p2 p3
     have HYn := y_ (HY.out.ext xj)
     have HFn := y_ (HF.out.ext xj)
     have H2n := y_ (H2.out.ext xj)
     have Xn := y_ (X.out.trans xj)
     clear xj HY HF H2 X
     try clear wi
     have HY := HYn
     have HF := HFn
     have H2 := H2n
     have X := Xn
     clear HYn HFn H2n Xn
     generalize wj = wi at *
     have C2 := y_ (counted_any s (textS p.2).2 a1 wi hs HP1.out)
     go_wp2_with fail
     refine (C2.out).mono ?_
     rintro e wj ⟨a2, rfl, hp2, xj⟩
     have HP2 : Hid (Plc s.data.toList (pThing p).2 a2) := hp2
     clear C2 hp2 HP1 HPL
     have HYn := y_ (HY.out.ext xj)
     have HFn := y_ (HF.out.ext xj)
     have H2n := y_ (H2.out.ext xj)
     have Xn := y_ (X.out.trans xj)
     clear xj HY HF H2 X
     try clear wi
     have HY := HYn
     have HF := HFn
     have H2 := H2n
     have X := Xn
     clear HYn HFn H2n Xn
     generalize wj = wi at *
     have r1 : wi.cell? ⟨g4, 35, none⟩ = some (.string p.1.typ) := by rw [HY.out.cell, at35 p.1 HD]
     have r2 : wi.cell? ⟨g4, 36, none⟩ = some (.int .i64 p.1.size) := by rw [HY.out.cell, at36 p.1 HD]
     have f1 := HY.out.frozen 35
     have f2 := HY.out.frozen 36
     have hs0 := HY.out.set_ 35 (.string ⟨(textS p.2).1.toArray⟩)
     rw [set35 p.1 HD] at hs0
     have hs1 := hs0.set_ 36 (.int .i64 ((numS (textS p.2).2).1 : Int))
     rw [set36 ({ p.1 with typ := ⟨(textS p.2).1.toArray⟩ } : S) HD] at hs1
     have hbx := (But.set_ g4 wi 35 (.string ⟨(textS p.2).1.toArray⟩)).trans (But.set_ g4 _ 36 (.int .i64 ((numS (textS p.2).2).1 : Int)))
     have HYn : Hid (Blk ((wi.setCell ⟨g4, 35, none⟩ (.string ⟨(textS p.2).1.toArray⟩)).setCell ⟨g4, 36, none⟩ (.int .i64 ((numS (textS p.2).2).1 : Int))) g4 39 (pThing p).1.cells) := hs1
     clear hs0 hs1
     go_upto_region 27 with (fail)
     clear r1 r2 f1 f2
     have HDn : (pThing p).1.dig.length = 32 := HD
     have HFn := y_ (HF.out.but hbx (by omega))
     have H2n := y_ (H2.out.but hbx (by omega))
     have Xn := y_ (X.out.trans_but hbx l4)
     clear hbx HY HD HF H2 X
     generalize ((wi.setCell ⟨g4, 35, none⟩ (.string ⟨(textS p.2).1.toArray⟩)).setCell ⟨g4, 36, none⟩ (.int .i64 ((numS (textS p.2).2).1 : Int))) = wi at *
     generalize pThing p = p at *
     generalize a2 = a at *
     have HY := HYn
     have HD := HDn
     have HF := HFn
     have H2 := H2n
     have X := Xn
     have HPL := HP2
     clear HYn HDn HFn H2n Xn HP2
     have p0 : wi.cell? ⟨g5, 0, none⟩ = some (.bool true) := HF.out.cell 0
     have p1 : wi.cell? ⟨g5, 1, none⟩ = some (.bool true) := HF.out.cell 1
     have p2 : wi.cell? ⟨g5, 2, none⟩ = some (.bool true) := HF.out.cell 2
     have p3 : wi.cell? ⟨g5, 3, none⟩ = some (.bool true) := HF.out.cell 3
     have C2 := y_ (counted_any s p.2 a wi hs HPL.out)
     go_wp2_with fail
     refine (C2.out).mono ?_
     rintro e wj ⟨a2, rfl, hp2, xj⟩
     have HP2 : Hid (Plc s.data.toList (pAt p).2 a2) := hp2
     clear C2 hp2 HPL p0 p1 p2 p3
     have HYn := y_ (HY.out.ext xj)
     have HFn := y_ (HF.out.ext xj)
     have H2n := y_ (H2.out.ext xj)
     have Xn := y_ (X.out.trans xj)
     clear xj HY HF H2 X
     try clear wi
     have HY := HYn
     have HF := HFn
     have H2 := H2n
     have X := Xn
     clear HYn HFn H2n Xn
     generalize wj = wi at *
     have r1 : wi.cell? ⟨g4, 37, none⟩ = some (.int .i64 p.1.at_) := by rw [HY.out.cell, at37 p.1 HD]
     have f1 := HY.out.frozen 37
     have hs0 := HY.out.set_ 37 (.int .i64 ((numS p.2).1 : Int))
     rw [set37 p.1 HD] at hs0
     have hbx := But.set_ g4 wi 37 (.int .i64 ((numS p.2).1 : Int))
     have HYn : Hid (Blk (wi.setCell ⟨g4, 37, none⟩ (.int .i64 ((numS p.2).1 : Int))) g4 39 (pAt p).1.cells) := hs0
     clear hs0
     go_upto_region 31 with (fail)
     clear r1 f1
     have HDn : (pAt p).1.dig.length = 32 := HD
     have HFn := y_ (HF.out.but hbx (by omega))
     have H2n := y_ (H2.out.but hbx (by omega))
     have Xn := y_ (X.out.trans_but hbx l4)
     clear hbx HY HD HF H2 X
     generalize (wi.setCell ⟨g4, 37, none⟩ (.int .i64 ((numS p.2).1 : Int))) = wi at *
     generalize pAt p = p at *
     generalize a2 = a at *
     have HY := HYn
     have HD := HDn
     have HF := HFn
     have H2 := H2n
     have X := Xn
     have HPL := HP2
     clear HYn HDn HFn H2n Xn HP2
     have p0 : wi.cell? ⟨g5, 0, none⟩ = some (.bool true) := HF.out.cell 0
     have p1 : wi.cell? ⟨g5, 1, none⟩ = some (.bool true) := HF.out.cell 1
     have p2 : wi.cell? ⟨g5, 2, none⟩ = some (.bool true) := HF.out.cell 2
     have p3 : wi.cell? ⟨g5, 3, none⟩ = some (.bool true) := HF.out.cell 3
     rcases HPL.out with ⟨hp2, ha⟩ | ⟨k, hk, hp2, ha⟩
     ·have HV : Hid (parseV s.data.toList = .tuple #[.agg S.none.cells.toArray, .bool false]) := by
       show parseV _ = _
       unfold parseV parse
       rw [HR.out, if_neg (by rw [hp2]; simp)]
      subst ha
      have da : ((-1 : Int) != (s.size : Int)) = true := by rw [bne_iff_ne]; omega
      clear HR hp2 HPL
      go_upto_region 32 with (fail)
      refine wp_region_lit ?_
      refine wpList_val rfl (.agg S.none.cells.toArray) (by as_aux_lemma => kernel_rfl) ?_
      simp only [z_1, z_2, z_3, z_4, z_5, z_b, z_6, z_7, z_8, z_9, z_0]
      have h2 := H2.out
      refine wpList_store_mid rfl 39 _ _ rfl g2 0 ((S.none).cells).toArray rfl ?_ (h2.there _ (by have e1 := cells_length _ none_dig; have e2 := cells_length _ none_dig; rw [z_a]; omega)) (by rw [z_a, cells_length _ none_dig]; exact size38) (all_oneCell_toArray (oneS _)) ?_
      ·rfl
      simp only [z_c]
      simp only [z_1, z_2, z_3, z_4, z_5, z_b, z_6, z_7, z_8, z_9, z_0]
      have HN := y_ (h2.setAll S.none.cells rfl)
      have XN := y_ (X.out.trans_but (But.setCells g2 S.none.cells 0 wi) l2)
      generalize wi.setCells g2 0 S.none.cells = wn at *
      clear h2 H2 X
      go_wp2_with fail
      exact bodyPost_ret (results_row2 rfl _ _ g2 39 (S.none.cells).toArray (0, 0) _ rfl HN.out undS rfl (by rw [z_a, cells_length _ none_dig]; exact size38)) rfl ⟨by rw [HV.out]; rfl, XN.out⟩
     ·subst ha
      rw [len_data] at hk
      by_cases hks : k = s.size
      ·have da : ((k : Int) != (s.size : Int)) = false := by rw [hks]; simp
       have hp3 : p.2 = some [] := by rw [hp2, List.drop_of_length_le (by rw [len_data]; omega)]
       have CG := y_ (goodR_any p.1 HD wi)
       cases hg : good p.1 with
       | true =>
         have HV : Hid (parseV s.data.toList = .tuple #[.agg p.1.cells.toArray, .bool true]) := by
          show parseV _ = _
          unfold parseV parse
          rw [HR.out, if_pos ⟨hp3, hg⟩]
         rw [hg] at CG
         clear HR hp2 hp3 hg HPL
         go_upto_region 31 with (fail)
         refine wp_region_lit ?_
         repeat (first | refine wpList_ldr rfl _ _ rfl g4 rfl _ _ _ HY undS (by rw [cells_length p.1 HD]; exact size38) ?_ | go_step)
         refine (CG.out).mono ?_
         rintro e wj ⟨rfl, xj⟩
         rename_i hK
         refine hK _ _ ?_
         clear CG p0 p1 p2 p3
         have HYn := y_ (HY.out.ext xj)
         have HFn := y_ (HF.out.ext xj)
         have H2n := y_ (H2.out.ext xj)
         have Xn := y_ (X.out.trans xj)
         clear xj HY HF H2 X
         try clear wi
         have HY := HYn
         have HF := HFn
         have H2 := H2n
         have X := Xn
         clear HYn HFn H2n Xn
         generalize wj = wi at *
         go_upto_region 33 with (fail)
         refine wp_region_lit ?_
         have hyo := HY.out
         have h2 := H2.out
         refine wpList_load_row rfl 39 _ rfl g4 rfl 39 (p.1.cells).toArray (0, 0) _ hyo undS rfl (by rw [z_a, cells_length p.1 HD]; exact size38) ?_
         simp only [z_1, z_2, z_3, z_4, z_5, z_b, z_6, z_7, z_8, z_9, z_0]
         refine wpList_store_mid rfl 39 _ _ rfl g2 0 ((p.1).cells).toArray rfl ?_ (h2.there _ (by have e1 := cells_length _ HD; have e2 := cells_length _ none_dig; rw [z_a]; omega)) (by rw [z_a, cells_length _ HD]; exact size38) (all_oneCell_toArray (oneS _)) ?_
         ·rfl
         simp only [z_c]
         simp only [z_1, z_2, z_3, z_4, z_5, z_b, z_6, z_7, z_8, z_9, z_0]
         have HN := y_ (h2.setAll p.1.cells ((cells_length _ HD).trans (cells_length _ none_dig).symm))
         have XN := y_ (X.out.trans_but (But.setCells g2 p.1.cells 0 wi) l2)
         generalize wi.setCells g2 0 p.1.cells = wn at *
         clear h2 hyo H2 X HY
         go_wp2_with fail
         exact bodyPost_ret (results_row2 rfl _ _ g2 39 (p.1.cells).toArray (0, 0) _ rfl HN.out undS rfl (by rw [z_a, cells_length _ HD]; exact size38)) rfl ⟨by rw [HV.out]; rfl, XN.out⟩
       | false =>
         have HV : Hid (parseV s.data.toList = .tuple #[.agg S.none.cells.toArray, .bool false]) := by
          show parseV _ = _
          unfold parseV parse
          rw [HR.out, if_neg (by rw [hg]; simp)]
         rw [hg] at CG
         clear HR hp2 hp3 hg HPL
         go_upto_region 31 with (fail)
         refine wp_region_lit ?_
         repeat (first | refine wpList_ldr rfl _ _ rfl g4 rfl _ _ _ HY undS (by rw [cells_length p.1 HD]; exact size38) ?_ | go_step)
         refine (CG.out).mono ?_
         rintro e wj ⟨rfl, xj⟩
         rename_i hK
         refine hK _ _ ?_
         clear CG p0 p1 p2 p3
         have HYn := y_ (HY.out.ext xj)
         have HFn := y_ (HF.out.ext xj)
         have H2n := y_ (H2.out.ext xj)
         have Xn := y_ (X.out.trans xj)
         clear xj HY HF H2 X
         try clear wi
         have HY := HYn
         have HF := HFn
         have H2 := H2n
         have X := Xn
         clear HYn HFn H2n Xn
         generalize wj = wi at *
         go_upto_region 32 with (fail)
         refine wp_region_lit ?_
         refine wpList_val rfl (.agg S.none.cells.toArray) (by as_aux_lemma => kernel_rfl) ?_
         simp only [z_1, z_2, z_3, z_4, z_5, z_b, z_6, z_7, z_8, z_9, z_0]
         have h2 := H2.out
         refine wpList_store_mid rfl 39 _ _ rfl g2 0 ((S.none).cells).toArray rfl ?_ (h2.there _ (by have e1 := cells_length _ none_dig; have e2 := cells_length _ none_dig; rw [z_a]; omega)) (by rw [z_a, cells_length _ none_dig]; exact size38) (all_oneCell_toArray (oneS _)) ?_
         ·rfl
         simp only [z_c]
         simp only [z_1, z_2, z_3, z_4, z_5, z_b, z_6, z_7, z_8, z_9, z_0]
         have HN := y_ (h2.setAll S.none.cells rfl)
         have XN := y_ (X.out.trans_but (But.setCells g2 S.none.cells 0 wi) l2)
         generalize wi.setCells g2 0 S.none.cells = wn at *
         clear h2 H2 X
         go_wp2_with fail
         exact bodyPost_ret (results_row2 rfl _ _ g2 39 (S.none.cells).toArray (0, 0) _ rfl HN.out undS rfl (by rw [z_a, cells_length _ none_dig]; exact size38)) rfl ⟨by rw [HV.out]; rfl, XN.out⟩
      ·have da : ((k : Int) != (s.size : Int)) = true := by rw [bne_iff_ne]; omega
       have HV : Hid (parseV s.data.toList = .tuple #[.agg S.none.cells.toArray, .bool false]) := by
        show parseV _ = _
        unfold parseV parse
        rw [HR.out, if_neg]
        rintro ⟨h1, -⟩
        rw [hp2] at h1
        injection h1 with h1
        have := congrArg List.length h1
        rw [List.length_drop, len_data] at this
        simp at this
        omega
       clear HR hp2 HPL
       go_upto_region 32 with (fail)
       refine wp_region_lit ?_
       refine wpList_val rfl (.agg S.none.cells.toArray) (by as_aux_lemma => kernel_rfl) ?_
       simp only [z_1, z_2, z_3, z_4, z_5, z_b, z_6, z_7, z_8, z_9, z_0]
       have h2 := H2.out
       refine wpList_store_mid rfl 39 _ _ rfl g2 0 ((S.none).cells).toArray rfl ?_ (h2.there _ (by have e1 := cells_length _ none_dig; have e2 := cells_length _ none_dig; rw [z_a]; omega)) (by rw [z_a, cells_length _ none_dig]; exact size38) (all_oneCell_toArray (oneS _)) ?_
       ·rfl
       simp only [z_c]
       simp only [z_1, z_2, z_3, z_4, z_5, z_b, z_6, z_7, z_8, z_9, z_0]
       have HN := y_ (h2.setAll S.none.cells rfl)
       have XN := y_ (X.out.trans_but (But.setCells g2 S.none.cells 0 wi) l2)
       generalize wi.setCells g2 0 S.none.cells = wn at *
       clear h2 H2 X
       go_wp2_with fail
       exact bodyPost_ret (results_row2 rfl _ _ g2 39 (S.none.cells).toArray (0, 0) _ rfl HN.out undS rfl (by rw [z_a, cells_length _ none_dig]; exact size38)) rfl ⟨by rw [HV.out]; rfl, XN.out⟩
     -- N}
    ·subst ha
     rw [len_data] at hk
     have dk0 : decide ((0 : Int) ≤ (k : Int)) = true := by rw [decide_eq_true_iff]; omega
     by_cases h32 : k + 32 ≤ s.size
     ·have d32 : decide ((32 : Int) ≤ (s.size : Int) - (k : Int)) = true := by rw [decide_eq_true_iff]; omega
      -- {Y
      have hml : ((s.data.toList.drop k).take 32).length = 32 := by rw [List.length_take, List.length_drop, len_data]; omega
      have hpd : pDig p = ({ p.1 with dig := (s.data.toList.drop k).take 32 }, some (s.data.toList.drop (k + 32))) := by
       unfold pDig
       rw [hp2, take_ok (by rw [List.length_drop, len_data]; omega), if_neg (by intro e; have e2 := congrArg List.length e; simp only at e2; rw [hml] at e2; cases e2), List.drop_drop]
      have HM : Hid (∀ j (hj : j < 32), ∃ hq : k + j < s.data.toList.length, ((s.data.toList.drop k).take 32)[j]? = some (s.data.toList[k + j]'hq)) := by
       intro j hj
       have hq : k + j < s.data.toList.length := by rw [len_data]; omega
       refine ⟨hq, ?_⟩
       rw [List.getElem?_take_of_lt (by omega), List.getElem?_drop, List.getElem?_eq_getElem hq]
      have HPD := y_ hpd
      have HML := y_ hml
      generalize (s.data.toList.drop k).take 32 = m at *
      have HPK2 : Hid (Plc s.data.toList (some (s.data.toList.drop (k + 32))) ((k : Int) + 32)) := .inr ⟨k + 32, by rw [len_data]; omega, rfl, by omega⟩
      clear hpd hml HPL hp2
      go_upto_region 14 with (fail)
      clear p0 p1 p2 p3 dk0 d32
      have HY0 : Hid (Blk wi g4 39 ({ p.1 with dig := m.take 0 ++ p.1.dig.drop 0 } : S).cells) := HY.out
      go_wp2_with fail
      go_loopw [11] (fun i wr => ∃ j : Nat, j ≤ 32 ∧ i = .int .i64 (j : Int) ∧ Hid (Blk wr g4 39 ({ p.1 with dig := m.take j ++ p.1.dig.drop j } : S).cells) ∧ Hid (But g4 wi wr)) (fun i _ => 32 - (intOf i).toNat)
      case atStart => exact ⟨0, by omega, rfl, HY0, But.refl _ _⟩
      case round =>
       obtain ⟨j, hj, rfl, HYJ, HB⟩ := hrel
       clear HY0
       have hjd : (m.take j ++ p.1.dig.drop j).length = 32 := by rw [List.length_append, List.length_take, List.length_drop, HML.out, HD]; omega
       by_cases hjl : j < 32
       ·have dj : decide ((j : Int) < 32) = true := by rw [decide_eq_true_iff]; omega
        obtain ⟨hq, hmj⟩ := HM.out j hjl
        have hjm : j < m.length := by rw [HML.out]; exact hjl
        rw [List.getElem?_eq_getElem hjm] at hmj
        injection hmj with hmj
        have hix := index_any s (k + j) (by rw [len_data] at hq; exact hq)
        rw [← hmj, show ((k + j : Nat) : Int) = (k : Int) + (j : Int) by omega] at hix
        have hbl := HYJ.out.set_ (3 + j) (byteV m[j])
        rw [set_dig _ j _ (by rw [hjd]; exact hjl)] at hbl
        have hset : (m.take j ++ p.1.dig.drop j).set j m[j] = m.take (j + 1) ++ p.1.dig.drop (j + 1) := set_next m p.1.dig j hjm (by rw [HD]; exact hjl)
        simp only at hbl
        rw [hset] at hbl
        have r1 : wr.cell? ⟨g4, 3 + j, none⟩ = some (byteV ((m.take j ++ p.1.dig.drop j)[j]'(by rw [hjd]; exact hjl))) := range_dig HYJ.out j _ (by rw [List.getElem?_map, List.getElem?_eq_getElem (by rw [hjd]; exact hjl)]; rfl)
        have f1 := HYJ.out.frozen (3 + j)
        generalize byteV ((m.take j ++ p.1.dig.drop j)[j]'(by rw [hjd]; exact hjl)) = old at *
        have HBL : Hid (Blk (wr.setCell ⟨g4, 3 + j, none⟩ (.int .u8 (m[j].toNat : Int))) g4 39 ({ p.1 with dig := m.take (j + 1) ++ p.1.dig.drop (j + 1) } : S).cells) := hbl
        have HB2 : Hid (But g4 wi (wr.setCell ⟨g4, 3 + j, none⟩ (.int .u8 (m[j].toNat : Int)))) := HB.out.trans (But.set_ _ _ _ _)
        have hcl := (m[j]).toNat_lt
        clear hbl hset hq hmj HYJ HB hjd
        generalize m[j].toNat = c at *
        go_wp2_with fail
        go_roundw
        case rel => exact ⟨j + 1, by omega, by go_num, HBL, HB2⟩
        case measure => simp [intOf]; omega
       ·have hje : j = 32 := by omega
        subst hje
        have dj : decide (((32 : Nat) : Int) < 32) = false := by decide
        have HYn : Hid (Blk wr g4 39 (pDig p).1.cells) := by
         rw [HPD.out]
         have h := HYJ.out
         rw [List.take_of_length_le (by rw [HML.out]; exact Nat.le_refl _), List.drop_of_length_le (by rw [HD]; exact Nat.le_refl _), List.append_nil] at h
         exact h
        have HPLn : Hid (Plc s.data.toList (pDig p).2 ((k : Int) + 32)) := by rw [HPD.out]; exact HPK2.out
        have HDn : (pDig p).1.dig.length = 32 := pDig_len p HD
        have HFn := y_ (HF.out.but HB.out (by omega))
        have H2n := y_ (H2.out.but HB.out (by omega))
        have Xn := y_ (X.out.trans_but HB.out l4)
        clear HF H2 X HY HD HB HYJ HPK2 HPD HM HML hjd
        go_upto_region 21 with (fail)
        generalize pDig p = p at *
        generalize (k : Int) + 32 = a at HPLn ⊢
        generalize wr = wi at *
        have HY := HYn
        have HD := HDn
        have HF := HFn
        have H2 := H2n
        have X := Xn
        have HPL := HPLn
        clear HYn HDn HFn H2n Xn HPLn
        have p0 : wi.cell? ⟨g5, 0, none⟩ = some (.bool true) := HF.out.cell 0
        have p1 : wi.cell? ⟨g5, 1, none⟩ = some (.bool true) := HF.out.cell 1
        have p2 : wi.cell? ⟨g5, 2, none⟩ = some (.bool true) := HF.out.cell 2
        have p3 : wi.cell? ⟨g5, 3, none⟩ = some (.bool true) := HF.out.cell 3
        have C1 := y_ (took_any s p.2 a wi hs HPL.out)
        go_wp2_with fail
        refine (C1.out).mono ?_
        rintro e wj ⟨a1, rfl, hp1, xj⟩
        have HP1 := y_ hp1
        clear C1 hp1 p0 p1 p2 p3
        have HYn := y_ (HY.out.ext xj)
        have HFn := y_ (HF.out.ext xj)
        have H2n := y_ (H2.out.ext xj)
        have Xn := y_ (X.out.trans xj)
        clear xj HY HF H2 X
        try clear wi
        have HY := HYn
        have HF := HFn
        have H2 := H2n
        have X := Xn
        clear HYn HFn H2n Xn
        generalize wj = wi at *
        have C2 := y_ (counted_any s (textS p.2).2 a1 wi hs HP1.out)
        go_wp2_with fail
        refine (C2.out).mono ?_
        rintro e wj ⟨a2, rfl, hp2, xj⟩
        have HP2 : Hid (Plc s.data.toList (pThing p).2 a2) := hp2
        clear C2 hp2 HP1 HPL
        have HYn := y_ (HY.out.ext xj)
        have HFn := y_ (HF.out.ext xj)
        have H2n := y_ (H2.out.ext xj)
        have Xn := y_ (X.out.trans xj)
        clear xj HY HF H2 X
        try clear wi
        have HY := HYn
        have HF := HFn
        have H2 := H2n
        have X := Xn
        clear HYn HFn H2n Xn
        generalize wj = wi at *
        have r1 : wi.cell? ⟨g4, 35, none⟩ = some (.string p.1.typ) := by rw [HY.out.cell, at35 p.1 HD]
        have r2 : wi.cell? ⟨g4, 36, none⟩ = some (.int .i64 p.1.size) := by rw [HY.out.cell, at36 p.1 HD]
        have f1 := HY.out.frozen 35
        have f2 := HY.out.frozen 36
        have hs0 := HY.out.set_ 35 (.string ⟨(textS p.2).1.toArray⟩)
        rw [set35 p.1 HD] at hs0
        have hs1 := hs0.set_ 36 (.int .i64 ((numS (textS p.2).2).1 : Int))
        rw [set36 ({ p.1 with typ := ⟨(textS p.2).1.toArray⟩ } : S) HD] at hs1
        have hbx := (But.set_ g4 wi 35 (.string ⟨(textS p.2).1.toArray⟩)).trans (But.set_ g4 _ 36 (.int .i64 ((numS (textS p.2).2).1 : Int)))
        have HYn : Hid (Blk ((wi.setCell ⟨g4, 35, none⟩ (.string ⟨(textS p.2).1.toArray⟩)).setCell ⟨g4, 36, none⟩ (.int .i64 ((numS (textS p.2).2).1 : Int))) g4 39 (pThing p).1.cells) := hs1
        clear hs0 hs1
        go_upto_region 27 with (fail)
        clear r1 r2 f1 f2
        have HDn : (pThing p).1.dig.length = 32 := HD
        have HFn := y_ (HF.out.but hbx (by omega))
        have H2n := y_ (H2.out.but hbx (by omega))
        have Xn := y_ (X.out.trans_but hbx l4)
        clear hbx HY HD HF H2 X
        generalize ((wi.setCell ⟨g4, 35, none⟩ (.string ⟨(textS p.2).1.toArray⟩)).setCell ⟨g4, 36, none⟩ (.int .i64 ((numS (textS p.2).2).1 : Int))) = wi at *
        generalize pThing p = p at *
        generalize a2 = a at *
        have HY := HYn
        have HD := HDn
        have HF := HFn
        have H2 := H2n
        have X := Xn
        have HPL := HP2
        clear HYn HDn HFn H2n Xn HP2
        have p0 : wi.cell? ⟨g5, 0, none⟩ = some (.bool true) := HF.out.cell 0
        have p1 : wi.cell? ⟨g5, 1, none⟩ = some (.bool true) := HF.out.cell 1
        have p2 : wi.cell? ⟨g5, 2, none⟩ = some (.bool true) := HF.out.cell 2
        have p3 : wi.cell? ⟨g5, 3, none⟩ = some (.bool true) := HF.out.cell 3
        have C2 := y_ (counted_any s p.2 a wi hs HPL.out)
        go_wp2_with fail
        refine (C2.out).mono ?_
        rintro e wj ⟨a2, rfl, hp2, xj⟩
        have HP2 : Hid (Plc s.data.toList (pAt p).2 a2) := hp2
        clear C2 hp2 HPL p0 p1 p2 p3
        have HYn := y_ (HY.out.ext xj)
        have HFn := y_ (HF.out.ext xj)
        have H2n := y_ (H2.out.ext xj)
        have Xn := y_ (X.out.trans xj)
        clear xj HY HF H2 X
        try clear wi
        have HY := HYn
        have HF := HFn
        have H2 := H2n
        have X := Xn
        clear HYn HFn H2n Xn
        generalize wj = wi at *
        have r1 : wi.cell? ⟨g4, 37, none⟩ = some (.int .i64 p.1.at_) := by rw [HY.out.cell, at37 p.1 HD]
        have f1 := HY.out.frozen 37
        have hs0 := HY.out.set_ 37 (.int .i64 ((numS p.2).1 : Int))
        rw [set37 p.1 HD] at hs0
        have hbx := But.set_ g4 wi 37 (.int .i64 ((numS p.2).1 : Int))
        have HYn : Hid (Blk (wi.setCell ⟨g4, 37, none⟩ (.int .i64 ((numS p.2).1 : Int))) g4 39 (pAt p).1.cells) := hs0
        clear hs0
        go_upto_region 31 with (fail)
        clear r1 f1
        have HDn : (pAt p).1.dig.length = 32 := HD
        have HFn := y_ (HF.out.but hbx (by omega))
        have H2n := y_ (H2.out.but hbx (by omega))
        have Xn := y_ (X.out.trans_but hbx l4)
        clear hbx HY HD HF H2 X
        generalize (wi.setCell ⟨g4, 37, none⟩ (.int .i64 ((numS p.2).1 : Int))) = wi at *
        generalize pAt p = p at *
        generalize a2 = a at *
        have HY := HYn
        have HD := HDn
        have HF := HFn
        have H2 := H2n
        have X := Xn
        have HPL := HP2
        clear HYn HDn HFn H2n Xn HP2
        have p0 : wi.cell? ⟨g5, 0, none⟩ = some (.bool true) := HF.out.cell 0
        have p1 : wi.cell? ⟨g5, 1, none⟩ = some (.bool true) := HF.out.cell 1
        have p2 : wi.cell? ⟨g5, 2, none⟩ = some (.bool true) := HF.out.cell 2
        have p3 : wi.cell? ⟨g5, 3, none⟩ = some (.bool true) := HF.out.cell 3
        rcases HPL.out with ⟨hp2, ha⟩ | ⟨k, hk, hp2, ha⟩
        ·have HV : Hid (parseV s.data.toList = .tuple #[.agg S.none.cells.toArray, .bool false]) := by
          show parseV _ = _
          unfold parseV parse
          rw [HR.out, if_neg (by rw [hp2]; simp)]
         subst ha
         have da : ((-1 : Int) != (s.size : Int)) = true := by rw [bne_iff_ne]; omega
         clear HR hp2 HPL
         go_upto_region 32 with (fail)
         refine wp_region_lit ?_
         refine wpList_val rfl (.agg S.none.cells.toArray) (by as_aux_lemma => kernel_rfl) ?_
         simp only [z_1, z_2, z_3, z_4, z_5, z_b, z_6, z_7, z_8, z_9, z_0]
         have h2 := H2.out
         refine wpList_store_mid rfl 39 _ _ rfl g2 0 ((S.none).cells).toArray rfl ?_ (h2.there _ (by have e1 := cells_length _ none_dig; have e2 := cells_length _ none_dig; rw [z_a]; omega)) (by rw [z_a, cells_length _ none_dig]; exact size38) (all_oneCell_toArray (oneS _)) ?_
         ·rfl
         simp only [z_c]
         simp only [z_1, z_2, z_3, z_4, z_5, z_b, z_6, z_7, z_8, z_9, z_0]
         have HN := y_ (h2.setAll S.none.cells rfl)
         have XN := y_ (X.out.trans_but (But.setCells g2 S.none.cells 0 wi) l2)
         generalize wi.setCells g2 0 S.none.cells = wn at *
         clear h2 H2 X
         go_wp2_with fail
         exact bodyPost_ret (results_row2 rfl _ _ g2 39 (S.none.cells).toArray (0, 0) _ rfl HN.out undS rfl (by rw [z_a, cells_length _ none_dig]; exact size38)) rfl ⟨by rw [HV.out]; rfl, XN.out⟩
        ·subst ha
         rw [len_data] at hk
         by_cases hks : k = s.size
         ·have da : ((k : Int) != (s.size : Int)) = false := by rw [hks]; simp
          have hp3 : p.2 = some [] := by rw [hp2, List.drop_of_length_le (by rw [len_data]; omega)]
          have CG := y_ (goodR_any p.1 HD wi)
          cases hg : good p.1 with
          | true =>
            have HV : Hid (parseV s.data.toList = .tuple #[.agg p.1.cells.toArray, .bool true]) := by
             show parseV _ = _
             unfold parseV parse
             rw [HR.out, if_pos ⟨hp3, hg⟩]
            rw [hg] at CG
            clear HR hp2 hp3 hg HPL
            go_upto_region 31 with (fail)
            refine wp_region_lit ?_
            repeat (first | refine wpList_ldr rfl _ _ rfl g4 rfl _ _ _ HY undS (by rw [cells_length p.1 HD]; exact size38) ?_ | go_step)
            refine (CG.out).mono ?_
            rintro e wj ⟨rfl, xj⟩
            rename_i hK
            refine hK _ _ ?_
            clear CG p0 p1 p2 p3
            have HYn := y_ (HY.out.ext xj)
            have HFn := y_ (HF.out.ext xj)
            have H2n := y_ (H2.out.ext xj)
            have Xn := y_ (X.out.trans xj)
            clear xj HY HF H2 X
            try clear wi
            have HY := HYn
            have HF := HFn
            have H2 := H2n
            have X := Xn
            clear HYn HFn H2n Xn
            generalize wj = wi at *
            go_upto_region 33 with (fail)
            refine wp_region_lit ?_
            have hyo := HY.out
            have h2 := H2.out
            refine wpList_load_row rfl 39 _ rfl g4 rfl 39 (p.1.cells).toArray (0, 0) _ hyo undS rfl (by rw [z_a, cells_length p.1 HD]; exact size38) ?_
            simp only [z_1, z_2, z_3, z_4, z_5, z_b, z_6, z_7, z_8, z_9, z_0]
            refine wpList_store_mid rfl 39 _ _ rfl g2 0 ((p.1).cells).toArray rfl ?_ (h2.there _ (by have e1 := cells_length _ HD; have e2 := cells_length _ none_dig; rw [z_a]; omega)) (by rw [z_a, cells_length _ HD]; exact size38) (all_oneCell_toArray (oneS _)) ?_
            ·rfl
            simp only [z_c]
            simp only [z_1, z_2, z_3, z_4, z_5, z_b, z_6, z_7, z_8, z_9, z_0]
            have HN := y_ (h2.setAll p.1.cells ((cells_length _ HD).trans (cells_length _ none_dig).symm))
            have XN := y_ (X.out.trans_but (But.setCells g2 p.1.cells 0 wi) l2)
            generalize wi.setCells g2 0 p.1.cells = wn at *
            clear h2 hyo H2 X HY
            go_wp2_with fail
            exact bodyPost_ret (results_row2 rfl _ _ g2 39 (p.1.cells).toArray (0, 0) _ rfl HN.out undS rfl (by rw [z_a, cells_length _ HD]; exact size38)) rfl ⟨by rw [HV.out]; rfl, XN.out⟩
          | false =>
            have HV : Hid (parseV s.data.toList = .tuple #[.agg S.none.cells.toArray, .bool false]) := by
             show parseV _ = _
             unfold parseV parse
             rw [HR.out, if_neg (by rw [hg]; simp)]
            rw [hg] at CG
            clear HR hp2 hp3 hg HPL
            go_upto_region 31 with (fail)
            refine wp_region_lit ?_
            repeat (first | refine wpList_ldr rfl _ _ rfl g4 rfl _ _ _ HY undS (by rw [cells_length p.1 HD]; exact size38) ?_ | go_step)
            refine (CG.out).mono ?_
            rintro e wj ⟨rfl, xj⟩
            rename_i hK
            refine hK _ _ ?_
            clear CG p0 p1 p2 p3
            have HYn := y_ (HY.out.ext xj)
            have HFn := y_ (HF.out.ext xj)
            have H2n := y_ (H2.out.ext xj)
            have Xn := y_ (X.out.trans xj)
            clear xj HY HF H2 X
            try clear wi
            have HY := HYn
            have HF := HFn
            have H2 := H2n
            have X := Xn
            clear HYn HFn H2n Xn
            generalize wj = wi at *
            go_upto_region 32 with (fail)
            refine wp_region_lit ?_
            refine wpList_val rfl (.agg S.none.cells.toArray) (by as_aux_lemma => kernel_rfl) ?_
            simp only [z_1, z_2, z_3, z_4, z_5, z_b, z_6, z_7, z_8, z_9, z_0]
            have h2 := H2.out
            refine wpList_store_mid rfl 39 _ _ rfl g2 0 ((S.none).cells).toArray rfl ?_ (h2.there _ (by have e1 := cells_length _ none_dig; have e2 := cells_length _ none_dig; rw [z_a]; omega)) (by rw [z_a, cells_length _ none_dig]; exact size38) (all_oneCell_toArray (oneS _)) ?_
            ·rfl
            simp only [z_c]
            simp only [z_1, z_2, z_3, z_4, z_5, z_b, z_6, z_7, z_8, z_9, z_0]
            have HN := y_ (h2.setAll S.none.cells rfl)
            have XN := y_ (X.out.trans_but (But.setCells g2 S.none.cells 0 wi) l2)
            generalize wi.setCells g2 0 S.none.cells = wn at *
            clear h2 H2 X
            go_wp2_with fail
            exact bodyPost_ret (results_row2 rfl _ _ g2 39 (S.none.cells).toArray (0, 0) _ rfl HN.out undS rfl (by rw [z_a, cells_length _ none_dig]; exact size38)) rfl ⟨by rw [HV.out]; rfl, XN.out⟩
         ·have da : ((k : Int) != (s.size : Int)) = true := by rw [bne_iff_ne]; omega
          have HV : Hid (parseV s.data.toList = .tuple #[.agg S.none.cells.toArray, .bool false]) := by
           show parseV _ = _
           unfold parseV parse
           rw [HR.out, if_neg]
           rintro ⟨h1, -⟩
           rw [hp2] at h1
           injection h1 with h1
           have := congrArg List.length h1
           rw [List.length_drop, len_data] at this
           simp at this
           omega
          clear HR hp2 HPL
          go_upto_region 32 with (fail)
          refine wp_region_lit ?_
          refine wpList_val rfl (.agg S.none.cells.toArray) (by as_aux_lemma => kernel_rfl) ?_
          simp only [z_1, z_2, z_3, z_4, z_5, z_b, z_6, z_7, z_8, z_9, z_0]
          have h2 := H2.out
          refine wpList_store_mid rfl 39 _ _ rfl g2 0 ((S.none).cells).toArray rfl ?_ (h2.there _ (by have e1 := cells_length _ none_dig; have e2 := cells_length _ none_dig; rw [z_a]; omega)) (by rw [z_a, cells_length _ none_dig]; exact size38) (all_oneCell_toArray (oneS _)) ?_
          ·rfl
          simp only [z_c]
          simp only [z_1, z_2, z_3, z_4, z_5, z_b, z_6, z_7, z_8, z_9, z_0]
          have HN := y_ (h2.setAll S.none.cells rfl)
          have XN := y_ (X.out.trans_but (But.setCells g2 S.none.cells 0 wi) l2)
          generalize wi.setCells g2 0 S.none.cells = wn at *
          clear h2 H2 X
          go_wp2_with fail
          exact bodyPost_ret (results_row2 rfl _ _ g2 39 (S.none.cells).toArray (0, 0) _ rfl HN.out undS rfl (by rw [z_a, cells_length _ none_dig]; exact size38)) rfl ⟨by rw [HV.out]; rfl, XN.out⟩
      -- Y}
     ·have d32 : decide ((32 : Int) ≤ (s.size : Int) - (k : Int)) = false := by rw [decide_eq_false_iff_not]; omega
      have hpd : pDig p = (p.1, none) := by unfold pDig; rw [hp2, take_no (by rw [List.length_drop, len_data]; omega)]; rfl
      -- {M
      go_upto_region 21 with (fail)
      clear p0 p1 p2 p3 HPL hp2
      have HPL : Hid (Plc s.data.toList (pDig p).2 (-1)) := .inl ⟨by rw [hpd], rfl⟩
      have HYn : Hid (Blk wi g4 39 (pDig p).1.cells) := by rw [hpd]; exact HY.out
      have HDn : (pDig p).1.dig.length = 32 := pDig_len p HD
      clear HY HD hpd
      generalize pDig p = p at *
      generalize (-1 : Int) = a at HPL ⊢
      have HY := HYn
      have HD := HDn
      clear HYn HDn
      clear dk0 d32
      have p0 : wi.cell? ⟨g5, 0, none⟩ = some (.bool true) := HF.out.cell 0
      have p1 : wi.cell? ⟨g5, 1, none⟩ = some (.bool true) := HF.out.cell 1
      have p2 : wi.cell? ⟨g5, 2, none⟩ = some (.bool true) := HF.out.cell 2
      have p3 : wi.cell? ⟨g5, 3, none⟩ = some (.bool true) := HF.out.cell 3
      have C1 := y_ (took_any s p.2 a wi hs HPL.out)
      go_wp2_with fail
      refine (C1.out).mono ?_
      rintro e wj ⟨a1, rfl, hp1, xj⟩
      have HP1 := y_ hp1
      clear C1 hp1 p0 p1 p2 p3
      have HYn := y_ (HY.out.ext xj)
      have HFn := y_ (HF.out.ext xj)
      have H2n := y_ (H2.out.ext xj)
      have Xn := y_ (X.out.trans xj)
      clear xj HY HF H2 X
      try clear wi
      have HY := HYn
      have HF := HFn
      have H2 := H2n
      have X := Xn
      clear HYn HFn H2n Xn
      generalize wj = wi at *
      have C2 := y_ (counted_any s (textS p.2).2 a1 wi hs HP1.out)
      go_wp2_with fail
      refine (C2.out).mono ?_
      rintro e wj ⟨a2, rfl, hp2, xj⟩
      have HP2 : Hid (Plc s.data.toList (pThing p).2 a2) := hp2
      clear C2 hp2 HP1 HPL
      have HYn := y_ (HY.out.ext xj)
      have HFn := y_ (HF.out.ext xj)
      have H2n := y_ (H2.out.ext xj)
      have Xn := y_ (X.out.trans xj)
      clear xj HY HF H2 X
      try clear wi
      have HY := HYn
      have HF := HFn
      have H2 := H2n
      have X := Xn
      clear HYn HFn H2n Xn
      generalize wj = wi at *
      have r1 : wi.cell? ⟨g4, 35, none⟩ = some (.string p.1.typ) := by rw [HY.out.cell, at35 p.1 HD]
      have r2 : wi.cell? ⟨g4, 36, none⟩ = some (.int .i64 p.1.size) := by rw [HY.out.cell, at36 p.1 HD]
      have f1 := HY.out.frozen 35
      have f2 := HY.out.frozen 36
      have hs0 := HY.out.set_ 35 (.string ⟨(textS p.2).1.toArray⟩)
      rw [set35 p.1 HD] at hs0
      have hs1 := hs0.set_ 36 (.int .i64 ((numS (textS p.2).2).1 : Int))
      rw [set36 ({ p.1 with typ := ⟨(textS p.2).1.toArray⟩ } : S) HD] at hs1
      have hbx := (But.set_ g4 wi 35 (.string ⟨(textS p.2).1.toArray⟩)).trans (But.set_ g4 _ 36 (.int .i64 ((numS (textS p.2).2).1 : Int)))
      have HYn : Hid (Blk ((wi.setCell ⟨g4, 35, none⟩ (.string ⟨(textS p.2).1.toArray⟩)).setCell ⟨g4, 36, none⟩ (.int .i64 ((numS (textS p.2).2).1 : Int))) g4 39 (pThing p).1.cells) := hs1
      clear hs0 hs1
      go_upto_region 27 with (fail)
      clear r1 r2 f1 f2
      have HDn : (pThing p).1.dig.length = 32 := HD
      have HFn := y_ (HF.out.but hbx (by omega))
      have H2n := y_ (H2.out.but hbx (by omega))
      have Xn := y_ (X.out.trans_but hbx l4)
      clear hbx HY HD HF H2 X
      generalize ((wi.setCell ⟨g4, 35, none⟩ (.string ⟨(textS p.2).1.toArray⟩)).setCell ⟨g4, 36, none⟩ (.int .i64 ((numS (textS p.2).2).1 : Int))) = wi at *
      generalize pThing p = p at *
      generalize a2 = a at *
      have HY := HYn
      have HD := HDn
      have HF := HFn
      have H2 := H2n
      have X := Xn
      have HPL := HP2
      clear HYn HDn HFn H2n Xn HP2
      have p0 : wi.cell? ⟨g5, 0, none⟩ = some (.bool true) := HF.out.cell 0
      have p1 : wi.cell? ⟨g5, 1, none⟩ = some (.bool true) := HF.out.cell 1
      have p2 : wi.cell? ⟨g5, 2, none⟩ = some (.bool true) := HF.out.cell 2
      have p3 : wi.cell? ⟨g5, 3, none⟩ = some (.bool true) := HF.out.cell 3
      have C2 := y_ (counted_any s p.2 a wi hs HPL.out)
      go_wp2_with fail
      refine (C2.out).mono ?_
      rintro e wj ⟨a2, rfl, hp2, xj⟩
      have HP2 : Hid (Plc s.data.toList (pAt p).2 a2) := hp2
      clear C2 hp2 HPL p0 p1 p2 p3
      have HYn := y_ (HY.out.ext xj)
      have HFn := y_ (HF.out.ext xj)
      have H2n := y_ (H2.out.ext xj)
      have Xn := y_ (X.out.trans xj)
      clear xj HY HF H2 X
      try clear wi
      have HY := HYn
      have HF := HFn
      have H2 := H2n
      have X := Xn
      clear HYn HFn H2n Xn
      generalize wj = wi at *
      have r1 : wi.cell? ⟨g4, 37, none⟩ = some (.int .i64 p.1.at_) := by rw [HY.out.cell, at37 p.1 HD]
      have f1 := HY.out.frozen 37
      have hs0 := HY.out.set_ 37 (.int .i64 ((numS p.2).1 : Int))
      rw [set37 p.1 HD] at hs0
      have hbx := But.set_ g4 wi 37 (.int .i64 ((numS p.2).1 : Int))
      have HYn : Hid (Blk (wi.setCell ⟨g4, 37, none⟩ (.int .i64 ((numS p.2).1 : Int))) g4 39 (pAt p).1.cells) := hs0
      clear hs0
      go_upto_region 31 with (fail)
      clear r1 f1
      have HDn : (pAt p).1.dig.length = 32 := HD
      have HFn := y_ (HF.out.but hbx (by omega))
      have H2n := y_ (H2.out.but hbx (by omega))
      have Xn := y_ (X.out.trans_but hbx l4)
      clear hbx HY HD HF H2 X
      generalize (wi.setCell ⟨g4, 37, none⟩ (.int .i64 ((numS p.2).1 : Int))) = wi at *
      generalize pAt p = p at *
      generalize a2 = a at *
      have HY := HYn
      have HD := HDn
      have HF := HFn
      have H2 := H2n
      have X := Xn
      have HPL := HP2
      clear HYn HDn HFn H2n Xn HP2
      have p0 : wi.cell? ⟨g5, 0, none⟩ = some (.bool true) := HF.out.cell 0
      have p1 : wi.cell? ⟨g5, 1, none⟩ = some (.bool true) := HF.out.cell 1
      have p2 : wi.cell? ⟨g5, 2, none⟩ = some (.bool true) := HF.out.cell 2
      have p3 : wi.cell? ⟨g5, 3, none⟩ = some (.bool true) := HF.out.cell 3
      rcases HPL.out with ⟨hp2, ha⟩ | ⟨k, hk, hp2, ha⟩
      ·have HV : Hid (parseV s.data.toList = .tuple #[.agg S.none.cells.toArray, .bool false]) := by
        show parseV _ = _
        unfold parseV parse
        rw [HR.out, if_neg (by rw [hp2]; simp)]
       subst ha
       have da : ((-1 : Int) != (s.size : Int)) = true := by rw [bne_iff_ne]; omega
       clear HR hp2 HPL
       go_upto_region 32 with (fail)
       refine wp_region_lit ?_
       refine wpList_val rfl (.agg S.none.cells.toArray) (by as_aux_lemma => kernel_rfl) ?_
       simp only [z_1, z_2, z_3, z_4, z_5, z_b, z_6, z_7, z_8, z_9, z_0]
       have h2 := H2.out
       refine wpList_store_mid rfl 39 _ _ rfl g2 0 ((S.none).cells).toArray rfl ?_ (h2.there _ (by have e1 := cells_length _ none_dig; have e2 := cells_length _ none_dig; rw [z_a]; omega)) (by rw [z_a, cells_length _ none_dig]; exact size38) (all_oneCell_toArray (oneS _)) ?_
       ·rfl
       simp only [z_c]
       simp only [z_1, z_2, z_3, z_4, z_5, z_b, z_6, z_7, z_8, z_9, z_0]
       have HN := y_ (h2.setAll S.none.cells rfl)
       have XN := y_ (X.out.trans_but (But.setCells g2 S.none.cells 0 wi) l2)
       generalize wi.setCells g2 0 S.none.cells = wn at *
       clear h2 H2 X
       go_wp2_with fail
       exact bodyPost_ret (results_row2 rfl _ _ g2 39 (S.none.cells).toArray (0, 0) _ rfl HN.out undS rfl (by rw [z_a, cells_length _ none_dig]; exact size38)) rfl ⟨by rw [HV.out]; rfl, XN.out⟩
      ·subst ha
       rw [len_data] at hk
       by_cases hks : k = s.size
       ·have da : ((k : Int) != (s.size : Int)) = false := by rw [hks]; simp
        have hp3 : p.2 = some [] := by rw [hp2, List.drop_of_length_le (by rw [len_data]; omega)]
        have CG := y_ (goodR_any p.1 HD wi)
        cases hg : good p.1 with
        | true =>
          have HV : Hid (parseV s.data.toList = .tuple #[.agg p.1.cells.toArray, .bool true]) := by
           show parseV _ = _
           unfold parseV parse
           rw [HR.out, if_pos ⟨hp3, hg⟩]
          rw [hg] at CG
          clear HR hp2 hp3 hg HPL
          go_upto_region 31 with (fail)
          refine wp_region_lit ?_
          repeat (first | refine wpList_ldr rfl _ _ rfl g4 rfl _ _ _ HY undS (by rw [cells_length p.1 HD]; exact size38) ?_ | go_step)
          refine (CG.out).mono ?_
          rintro e wj ⟨rfl, xj⟩
          rename_i hK
          refine hK _ _ ?_
          clear CG p0 p1 p2 p3
          have HYn := y_ (HY.out.ext xj)
          have HFn := y_ (HF.out.ext xj)
          have H2n := y_ (H2.out.ext xj)
          have Xn := y_ (X.out.trans xj)
          clear xj HY HF H2 X
          try clear wi
          have HY := HYn
          have HF := HFn
          have H2 := H2n
          have X := Xn
          clear HYn HFn H2n Xn
          generalize wj = wi at *
          go_upto_region 33 with (fail)
          refine wp_region_lit ?_
          have hyo := HY.out
          have h2 := H2.out
          refine wpList_load_row rfl 39 _ rfl g4 rfl 39 (p.1.cells).toArray (0, 0) _ hyo undS rfl (by rw [z_a, cells_length p.1 HD]; exact size38) ?_
          simp only [z_1, z_2, z_3, z_4, z_5, z_b, z_6, z_7, z_8, z_9, z_0]
          refine wpList_store_mid rfl 39 _ _ rfl g2 0 ((p.1).cells).toArray rfl ?_ (h2.there _ (by have e1 := cells_length _ HD; have e2 := cells_length _ none_dig; rw [z_a]; omega)) (by rw [z_a, cells_length _ HD]; exact size38) (all_oneCell_toArray (oneS _)) ?_
          ·rfl
          simp only [z_c]
          simp only [z_1, z_2, z_3, z_4, z_5, z_b, z_6, z_7, z_8, z_9, z_0]
          have HN := y_ (h2.setAll p.1.cells ((cells_length _ HD).trans (cells_length _ none_dig).symm))
          have XN := y_ (X.out.trans_but (But.setCells g2 p.1.cells 0 wi) l2)
          generalize wi.setCells g2 0 p.1.cells = wn at *
          clear h2 hyo H2 X HY
          go_wp2_with fail
          exact bodyPost_ret (results_row2 rfl _ _ g2 39 (p.1.cells).toArray (0, 0) _ rfl HN.out undS rfl (by rw [z_a, cells_length _ HD]; exact size38)) rfl ⟨by rw [HV.out]; rfl, XN.out⟩
        | false =>
          have HV : Hid (parseV s.data.toList = .tuple #[.agg S.none.cells.toArray, .bool false]) := by
           show parseV _ = _
           unfold parseV parse
           rw [HR.out, if_neg (by rw [hg]; simp)]
          rw [hg] at CG
          clear HR hp2 hp3 hg HPL
          go_upto_region 31 with (fail)
          refine wp_region_lit ?_
          repeat (first | refine wpList_ldr rfl _ _ rfl g4 rfl _ _ _ HY undS (by rw [cells_length p.1 HD]; exact size38) ?_ | go_step)
          refine (CG.out).mono ?_
          rintro e wj ⟨rfl, xj⟩
          rename_i hK
          refine hK _ _ ?_
          clear CG p0 p1 p2 p3
          have HYn := y_ (HY.out.ext xj)
          have HFn := y_ (HF.out.ext xj)
          have H2n := y_ (H2.out.ext xj)
          have Xn := y_ (X.out.trans xj)
          clear xj HY HF H2 X
          try clear wi
          have HY := HYn
          have HF := HFn
          have H2 := H2n
          have X := Xn
          clear HYn HFn H2n Xn
          generalize wj = wi at *
          go_upto_region 32 with (fail)
          refine wp_region_lit ?_
          refine wpList_val rfl (.agg S.none.cells.toArray) (by as_aux_lemma => kernel_rfl) ?_
          simp only [z_1, z_2, z_3, z_4, z_5, z_b, z_6, z_7, z_8, z_9, z_0]
          have h2 := H2.out
          refine wpList_store_mid rfl 39 _ _ rfl g2 0 ((S.none).cells).toArray rfl ?_ (h2.there _ (by have e1 := cells_length _ none_dig; have e2 := cells_length _ none_dig; rw [z_a]; omega)) (by rw [z_a, cells_length _ none_dig]; exact size38) (all_oneCell_toArray (oneS _)) ?_
          ·rfl
          simp only [z_c]
          simp only [z_1, z_2, z_3, z_4, z_5, z_b, z_6, z_7, z_8, z_9, z_0]
          have HN := y_ (h2.setAll S.none.cells rfl)
          have XN := y_ (X.out.trans_but (But.setCells g2 S.none.cells 0 wi) l2)
          generalize wi.setCells g2 0 S.none.cells = wn at *
          clear h2 H2 X
          go_wp2_with fail
          exact bodyPost_ret (results_row2 rfl _ _ g2 39 (S.none.cells).toArray (0, 0) _ rfl HN.out undS rfl (by rw [z_a, cells_length _ none_dig]; exact size38)) rfl ⟨by rw [HV.out]; rfl, XN.out⟩
       ·have da : ((k : Int) != (s.size : Int)) = true := by rw [bne_iff_ne]; omega
        have HV : Hid (parseV s.data.toList = .tuple #[.agg S.none.cells.toArray, .bool false]) := by
         show parseV _ = _
         unfold parseV parse
         rw [HR.out, if_neg]
         rintro ⟨h1, -⟩
         rw [hp2] at h1
         injection h1 with h1
         have := congrArg List.length h1
         rw [List.length_drop, len_data] at this
         simp at this
         omega
        clear HR hp2 HPL
        go_upto_region 32 with (fail)
        refine wp_region_lit ?_
        refine wpList_val rfl (.agg S.none.cells.toArray) (by as_aux_lemma => kernel_rfl) ?_
        simp only [z_1, z_2, z_3, z_4, z_5, z_b, z_6, z_7, z_8, z_9, z_0]
        have h2 := H2.out
        refine wpList_store_mid rfl 39 _ _ rfl g2 0 ((S.none).cells).toArray rfl ?_ (h2.there _ (by have e1 := cells_length _ none_dig; have e2 := cells_length _ none_dig; rw [z_a]; omega)) (by rw [z_a, cells_length _ none_dig]; exact size38) (all_oneCell_toArray (oneS _)) ?_
        ·rfl
        simp only [z_c]
        simp only [z_1, z_2, z_3, z_4, z_5, z_b, z_6, z_7, z_8, z_9, z_0]
        have HN := y_ (h2.setAll S.none.cells rfl)
        have XN := y_ (X.out.trans_but (But.setCells g2 S.none.cells 0 wi) l2)
        generalize wi.setCells g2 0 S.none.cells = wn at *
        clear h2 H2 X
        go_wp2_with fail
        exact bodyPost_ret (results_row2 rfl _ _ g2 39 (S.none.cells).toArray (0, 0) _ rfl HN.out undS rfl (by rw [z_a, cells_length _ none_dig]; exact size38)) rfl ⟨by rw [HV.out]; rfl, XN.out⟩
      -- M}
    -- A}
   ·
    -- {B
    have HR : Hid (parsed s.data.toList = pAt (pNames p)) := HPR
    rw [show (F.cells ⟨true, false, false, true⟩) = [.bool true, .bool false, .bool false, .bool true] from rfl]
    go_upto_region 7 with (fail)
    have hbf : Blk (w5.alloc (Obj.cells #[Value.bool true, Value.bool false, Value.bool false, Value.bool true] 130)) w5.heap.size 130 [.bool true, .bool false, .bool false, .bool true] := Blk.new w5 130 #[Value.bool true, Value.bool false, Value.bool false, Value.bool true]
    have hxf := Reg.Ext.alloc w5 (Obj.cells #[Value.bool true, Value.bool false, Value.bool false, Value.bool true] 130)
    have HF := y_ hbf
    have HYn := y_ (HY.out.ext hxf)
    have H2n := y_ (H2.out.ext hxf)
    have Xn := y_ (X.out.trans hxf)
    have l45 := HY.out.lt
    clear HY H2 X hbf hxf
    have HY := HYn
    have H2 := H2n
    have X := Xn
    clear HYn H2n Xn
    generalize w5.alloc (Obj.cells #[Value.bool true, Value.bool false, Value.bool false, Value.bool true] 130) = wi at *
    generalize w5.heap.size = g5 at *
    generalize (1 : Int) = a at HPL ⊢
    have p0 : wi.cell? ⟨g5, 0, none⟩ = some (.bool true) := HF.out.cell 0
    have p1 : wi.cell? ⟨g5, 1, none⟩ = some (.bool false) := HF.out.cell 1
    have p2 : wi.cell? ⟨g5, 2, none⟩ = some (.bool false) := HF.out.cell 2
    have p3 : wi.cell? ⟨g5, 3, none⟩ = some (.bool true) := HF.out.cell 3
    have C1 := y_ (took_any s p.2 a wi hs HPL.out)
    go_wp2_with fail
    refine (C1.out).mono ?_
    rintro e wj ⟨a1, rfl, hp1, xj⟩
    have HP1 := y_ hp1
    clear C1 hp1 p0 p1 p2 p3
    have HYn := y_ (HY.out.ext xj)
    have HFn := y_ (HF.out.ext xj)
    have H2n := y_ (H2.out.ext xj)
    have Xn := y_ (X.out.trans xj)
    clear xj HY HF H2 X
    try clear wi
    have HY := HYn
    have HF := HFn
    have H2 := H2n
    have X := Xn
    clear HYn HFn H2n Xn
    generalize wj = wi at *
    have C2 := y_ (took_any s (textS p.2).2 a1 wi hs HP1.out)
    go_wp2_with fail
    refine (C2.out).mono ?_
    rintro e wj ⟨a2, rfl, hp2, xj⟩
    have HP2 : Hid (Plc s.data.toList (pNames p).2 a2) := hp2
    clear C2 hp2 HP1 HPL
    have HYn := y_ (HY.out.ext xj)
    have HFn := y_ (HF.out.ext xj)
    have H2n := y_ (H2.out.ext xj)
    have Xn := y_ (X.out.trans xj)
    clear xj HY HF H2 X
    try clear wi
    have HY := HYn
    have HF := HFn
    have H2 := H2n
    have X := Xn
    clear HYn HFn H2n Xn
    generalize wj = wi at *
    have r1 : wi.cell? ⟨g4, 1, none⟩ = some (.string p.1.repo) := HY.out.cell 1
    have r2 : wi.cell? ⟨g4, 2, none⟩ = some (.string p.1.tag) := HY.out.cell 2
    have f1 := HY.out.frozen 1
    have f2 := HY.out.frozen 2
    have hs0 := (HY.out.set_ 1 (.string ⟨(textS p.2).1.toArray⟩)).set_ 2 (.string ⟨(textS (textS p.2).2).1.toArray⟩)
    rw [set1, set2] at hs0
    have hbx := (But.set_ g4 wi 1 (.string ⟨(textS p.2).1.toArray⟩)).trans (But.set_ g4 _ 2 (.string ⟨(textS (textS p.2).2).1.toArray⟩))
    have HYn : Hid (Blk ((wi.setCell ⟨g4, 1, none⟩ (.string ⟨(textS p.2).1.toArray⟩)).setCell ⟨g4, 2, none⟩ (.string ⟨(textS (textS p.2).2).1.toArray⟩)) g4 39 (pNames p).1.cells) := hs0
    clear hs0
    go_upto_region 13 with (fail)
    clear r1 r2 f1 f2
    have HDn : (pNames p).1.dig.length = 32 := HD
    have HFn := y_ (HF.out.but hbx (by omega))
    have H2n := y_ (H2.out.but hbx (by omega))
    have Xn := y_ (X.out.trans_but hbx l4)
    clear hbx HY HD HF H2 X
    generalize ((wi.setCell ⟨g4, 1, none⟩ (.string ⟨(textS p.2).1.toArray⟩)).setCell ⟨g4, 2, none⟩ (.string ⟨(textS (textS p.2).2).1.toArray⟩)) = wi at *
    generalize pNames p = p at *
    generalize a2 = a at *
    have HY := HYn
    have HD := HDn
    have HF := HFn
    have H2 := H2n
    have X := Xn
    have HPL := HP2
    clear HYn HDn HFn H2n Xn HP2
    have p0 : wi.cell? ⟨g5, 0, none⟩ = some (.bool true) := HF.out.cell 0
    have p1 : wi.cell? ⟨g5, 1, none⟩ = some (.bool false) := HF.out.cell 1
    have p2 : wi.cell? ⟨g5, 2, none⟩ = some (.bool false) := HF.out.cell 2
    have p3 : wi.cell? ⟨g5, 3, none⟩ = some (.bool true) := HF.out.cell 3
    have C2 := y_ (counted_any s p.2 a wi hs HPL.out)
    go_wp2_with fail
    refine (C2.out).mono ?_
    rintro e wj ⟨a2, rfl, hp2, xj⟩
    have HP2 : Hid (Plc s.data.toList (pAt p).2 a2) := hp2
    clear C2 hp2 HPL p0 p1 p2 p3
    have HYn := y_ (HY.out.ext xj)
    have HFn := y_ (HF.out.ext xj)
    have H2n := y_ (H2.out.ext xj)
    have Xn := y_ (X.out.trans xj)
    clear xj HY HF H2 X
    try clear wi
    have HY := HYn
    have HF := HFn
    have H2 := H2n
    have X := Xn
    clear HYn HFn H2n Xn
    generalize wj = wi at *
    have r1 : wi.cell? ⟨g4, 37, none⟩ = some (.int .i64 p.1.at_) := by rw [HY.out.cell, at37 p.1 HD]
    have f1 := HY.out.frozen 37
    have hs0 := HY.out.set_ 37 (.int .i64 ((numS p.2).1 : Int))
    rw [set37 p.1 HD] at hs0
    have hbx := But.set_ g4 wi 37 (.int .i64 ((numS p.2).1 : Int))
    have HYn : Hid (Blk (wi.setCell ⟨g4, 37, none⟩ (.int .i64 ((numS p.2).1 : Int))) g4 39 (pAt p).1.cells) := hs0
    clear hs0
    go_upto_region 31 with (fail)
    clear r1 f1
    have HDn : (pAt p).1.dig.length = 32 := HD
    have HFn := y_ (HF.out.but hbx (by omega))
    have H2n := y_ (H2.out.but hbx (by omega))
    have Xn := y_ (X.out.trans_but hbx l4)
    clear hbx HY HD HF H2 X
    generalize (wi.setCell ⟨g4, 37, none⟩ (.int .i64 ((numS p.2).1 : Int))) = wi at *
    generalize pAt p = p at *
    generalize a2 = a at *
    have HY := HYn
    have HD := HDn
    have HF := HFn
    have H2 := H2n
    have X := Xn
    have HPL := HP2
    clear HYn HDn HFn H2n Xn HP2
    have p0 : wi.cell? ⟨g5, 0, none⟩ = some (.bool true) := HF.out.cell 0
    have p1 : wi.cell? ⟨g5, 1, none⟩ = some (.bool false) := HF.out.cell 1
    have p2 : wi.cell? ⟨g5, 2, none⟩ = some (.bool false) := HF.out.cell 2
    have p3 : wi.cell? ⟨g5, 3, none⟩ = some (.bool true) := HF.out.cell 3
    rcases HPL.out with ⟨hp2, ha⟩ | ⟨k, hk, hp2, ha⟩
    ·have HV : Hid (parseV s.data.toList = .tuple #[.agg S.none.cells.toArray, .bool false]) := by
      show parseV _ = _
      unfold parseV parse
      rw [HR.out, if_neg (by rw [hp2]; simp)]
     subst ha
     have da : ((-1 : Int) != (s.size : Int)) = true := by rw [bne_iff_ne]; omega
     clear HR hp2 HPL
     go_upto_region 32 with (fail)
     refine wp_region_lit ?_
     refine wpList_val rfl (.agg S.none.cells.toArray) (by as_aux_lemma => kernel_rfl) ?_
     simp only [z_1, z_2, z_3, z_4, z_5, z_b, z_6, z_7, z_8, z_9, z_0]
     have h2 := H2.out
     refine wpList_store_mid rfl 39 _ _ rfl g2 0 ((S.none).cells).toArray rfl ?_ (h2.there _ (by have e1 := cells_length _ none_dig; have e2 := cells_length _ none_dig; rw [z_a]; omega)) (by rw [z_a, cells_length _ none_dig]; exact size38) (all_oneCell_toArray (oneS _)) ?_
     ·rfl
     simp only [z_c]
     simp only [z_1, z_2, z_3, z_4, z_5, z_b, z_6, z_7, z_8, z_9, z_0]
     have HN := y_ (h2.setAll S.none.cells rfl)
     have XN := y_ (X.out.trans_but (But.setCells g2 S.none.cells 0 wi) l2)
     generalize wi.setCells g2 0 S.none.cells = wn at *
     clear h2 H2 X
     go_wp2_with fail
     exact bodyPost_ret (results_row2 rfl _ _ g2 39 (S.none.cells).toArray (0, 0) _ rfl HN.out undS rfl (by rw [z_a, cells_length _ none_dig]; exact size38)) rfl ⟨by rw [HV.out]; rfl, XN.out⟩
    ·subst ha
     rw [len_data] at hk
     by_cases hks : k = s.size
     ·have da : ((k : Int) != (s.size : Int)) = false := by rw [hks]; simp
      have hp3 : p.2 = some [] := by rw [hp2, List.drop_of_length_le (by rw [len_data]; omega)]
      have CG := y_ (goodR_any p.1 HD wi)
      cases hg : good p.1 with
      | true =>
        have HV : Hid (parseV s.data.toList = .tuple #[.agg p.1.cells.toArray, .bool true]) := by
         show parseV _ = _
         unfold parseV parse
         rw [HR.out, if_pos ⟨hp3, hg⟩]
        rw [hg] at CG
        clear HR hp2 hp3 hg HPL
        go_upto_region 31 with (fail)
        refine wp_region_lit ?_
        repeat (first | refine wpList_ldr rfl _ _ rfl g4 rfl _ _ _ HY undS (by rw [cells_length p.1 HD]; exact size38) ?_ | go_step)
        refine (CG.out).mono ?_
        rintro e wj ⟨rfl, xj⟩
        rename_i hK
        refine hK _ _ ?_
        clear CG p0 p1 p2 p3
        have HYn := y_ (HY.out.ext xj)
        have HFn := y_ (HF.out.ext xj)
        have H2n := y_ (H2.out.ext xj)
        have Xn := y_ (X.out.trans xj)
        clear xj HY HF H2 X
        try clear wi
        have HY := HYn
        have HF := HFn
        have H2 := H2n
        have X := Xn
        clear HYn HFn H2n Xn
        generalize wj = wi at *
        go_upto_region 33 with (fail)
        refine wp_region_lit ?_
        have hyo := HY.out
        have h2 := H2.out
        refine wpList_load_row rfl 39 _ rfl g4 rfl 39 (p.1.cells).toArray (0, 0) _ hyo undS rfl (by rw [z_a, cells_length p.1 HD]; exact size38) ?_
        simp only [z_1, z_2, z_3, z_4, z_5, z_b, z_6, z_7, z_8, z_9, z_0]
        refine wpList_store_mid rfl 39 _ _ rfl g2 0 ((p.1).cells).toArray rfl ?_ (h2.there _ (by have e1 := cells_length _ HD; have e2 := cells_length _ none_dig; rw [z_a]; omega)) (by rw [z_a, cells_length _ HD]; exact size38) (all_oneCell_toArray (oneS _)) ?_
        ·rfl
        simp only [z_c]
        simp only [z_1, z_2, z_3, z_4, z_5, z_b, z_6, z_7, z_8, z_9, z_0]
        have HN := y_ (h2.setAll p.1.cells ((cells_length _ HD).trans (cells_length _ none_dig).symm))
        have XN := y_ (X.out.trans_but (But.setCells g2 p.1.cells 0 wi) l2)
        generalize wi.setCells g2 0 p.1.cells = wn at *
        clear h2 hyo H2 X HY
        go_wp2_with fail
        exact bodyPost_ret (results_row2 rfl _ _ g2 39 (p.1.cells).toArray (0, 0) _ rfl HN.out undS rfl (by rw [z_a, cells_length _ HD]; exact size38)) rfl ⟨by rw [HV.out]; rfl, XN.out⟩
      | false =>
        have HV : Hid (parseV s.data.toList = .tuple #[.agg S.none.cells.toArray, .bool false]) := by
         show parseV _ = _
         unfold parseV parse
         rw [HR.out, if_neg (by rw [hg]; simp)]
        rw [hg] at CG
        clear HR hp2 hp3 hg HPL
        go_upto_region 31 with (fail)
        refine wp_region_lit ?_
        repeat (first | refine wpList_ldr rfl _ _ rfl g4 rfl _ _ _ HY undS (by rw [cells_length p.1 HD]; exact size38) ?_ | go_step)
        refine (CG.out).mono ?_
        rintro e wj ⟨rfl, xj⟩
        rename_i hK
        refine hK _ _ ?_
        clear CG p0 p1 p2 p3
        have HYn := y_ (HY.out.ext xj)
        have HFn := y_ (HF.out.ext xj)
        have H2n := y_ (H2.out.ext xj)
        have Xn := y_ (X.out.trans xj)
        clear xj HY HF H2 X
        try clear wi
        have HY := HYn
        have HF := HFn
        have H2 := H2n
        have X := Xn
        clear HYn HFn H2n Xn
        generalize wj = wi at *
        go_upto_region 32 with (fail)
        refine wp_region_lit ?_
        refine wpList_val rfl (.agg S.none.cells.toArray) (by as_aux_lemma => kernel_rfl) ?_
        simp only [z_1, z_2, z_3, z_4, z_5, z_b, z_6, z_7, z_8, z_9, z_0]
        have h2 := H2.out
        refine wpList_store_mid rfl 39 _ _ rfl g2 0 ((S.none).cells).toArray rfl ?_ (h2.there _ (by have e1 := cells_length _ none_dig; have e2 := cells_length _ none_dig; rw [z_a]; omega)) (by rw [z_a, cells_length _ none_dig]; exact size38) (all_oneCell_toArray (oneS _)) ?_
        ·rfl
        simp only [z_c]
        simp only [z_1, z_2, z_3, z_4, z_5, z_b, z_6, z_7, z_8, z_9, z_0]
        have HN := y_ (h2.setAll S.none.cells rfl)
        have XN := y_ (X.out.trans_but (But.setCells g2 S.none.cells 0 wi) l2)
        generalize wi.setCells g2 0 S.none.cells = wn at *
        clear h2 H2 X
        go_wp2_with fail
        exact bodyPost_ret (results_row2 rfl _ _ g2 39 (S.none.cells).toArray (0, 0) _ rfl HN.out undS rfl (by rw [z_a, cells_length _ none_dig]; exact size38)) rfl ⟨by rw [HV.out]; rfl, XN.out⟩
     ·have da : ((k : Int) != (s.size : Int)) = true := by rw [bne_iff_ne]; omega
      have HV : Hid (parseV s.data.toList = .tuple #[.agg S.none.cells.toArray, .bool false]) := by
       show parseV _ = _
       unfold parseV parse
       rw [HR.out, if_neg]
       rintro ⟨h1, -⟩
       rw [hp2] at h1
       injection h1 with h1
       have := congrArg List.length h1
       rw [List.length_drop, len_data] at this
       simp at this
       omega
      clear HR hp2 HPL
      go_upto_region 32 with (fail)
      refine wp_region_lit ?_
      refine wpList_val rfl (.agg S.none.cells.toArray) (by as_aux_lemma => kernel_rfl) ?_
      simp only [z_1, z_2, z_3, z_4, z_5, z_b, z_6, z_7, z_8, z_9, z_0]
      have h2 := H2.out
      refine wpList_store_mid rfl 39 _ _ rfl g2 0 ((S.none).cells).toArray rfl ?_ (h2.there _ (by have e1 := cells_length _ none_dig; have e2 := cells_length _ none_dig; rw [z_a]; omega)) (by rw [z_a, cells_length _ none_dig]; exact size38) (all_oneCell_toArray (oneS _)) ?_
      ·rfl
      simp only [z_c]
      simp only [z_1, z_2, z_3, z_4, z_5, z_b, z_6, z_7, z_8, z_9, z_0]
      have HN := y_ (h2.setAll S.none.cells rfl)
      have XN := y_ (X.out.trans_but (But.setCells g2 S.none.cells 0 wi) l2)
      generalize wi.setCells g2 0 S.none.cells = wn at *
      clear h2 H2 X
      go_wp2_with fail
      exact bodyPost_ret (results_row2 rfl _ _ g2 39 (S.none.cells).toArray (0, 0) _ rfl HN.out undS rfl (by rw [z_a, cells_length _ none_dig]; exact size38)) rfl ⟨by rw [HV.out]; rfl, XN.out⟩
    -- B}
   ·
    -- {C
    have HR : Hid (parsed s.data.toList = pNames p) := HPR
    rw [show (F.cells ⟨true, false, false, false⟩) = [.bool true, .bool false, .bool false, .bool false] from rfl]
    go_upto_region 7 with (fail)
    have hbf : Blk (w5.alloc (Obj.cells #[Value.bool true, Value.bool false, Value.bool false, Value.bool false] 130)) w5.heap.size 130 [.bool true, .bool false, .bool false, .bool false] := Blk.new w5 130 #[Value.bool true, Value.bool false, Value.bool false, Value.bool false]
    have hxf := Reg.Ext.alloc w5 (Obj.cells #[Value.bool true, Value.bool false, Value.bool false, Value.bool false] 130)
    have HF := y_ hbf
    have HYn := y_ (HY.out.ext hxf)
    have H2n := y_ (H2.out.ext hxf)
    have Xn := y_ (X.out.trans hxf)
    have l45 := HY.out.lt
    clear HY H2 X hbf hxf
    have HY := HYn
    have H2 := H2n
    have X := Xn
    clear HYn H2n Xn
    generalize w5.alloc (Obj.cells #[Value.bool true, Value.bool false, Value.bool false, Value.bool false] 130) = wi at *
    generalize w5.heap.size = g5 at *
    generalize (1 : Int) = a at HPL ⊢
    have p0 : wi.cell? ⟨g5, 0, none⟩ = some (.bool true) := HF.out.cell 0
    have p1 : wi.cell? ⟨g5, 1, none⟩ = some (.bool false) := HF.out.cell 1
    have p2 : wi.cell? ⟨g5, 2, none⟩ = some (.bool false) := HF.out.cell 2
    have p3 : wi.cell? ⟨g5, 3, none⟩ = some (.bool false) := HF.out.cell 3
    have C1 := y_ (took_any s p.2 a wi hs HPL.out)
    go_wp2_with fail
    refine (C1.out).mono ?_
    rintro e wj ⟨a1, rfl, hp1, xj⟩
    have HP1 := y_ hp1
    clear C1 hp1 p0 p1 p2 p3
    have HYn := y_ (HY.out.ext xj)
    have HFn := y_ (HF.out.ext xj)
    have H2n := y_ (H2.out.ext xj)
    have Xn := y_ (X.out.trans xj)
    clear xj HY HF H2 X
    try clear wi
    have HY := HYn
    have HF := HFn
    have H2 := H2n
    have X := Xn
    clear HYn HFn H2n Xn
    generalize wj = wi at *
    have C2 := y_ (took_any s (textS p.2).2 a1 wi hs HP1.out)
    go_wp2_with fail
    refine (C2.out).mono ?_
    rintro e wj ⟨a2, rfl, hp2, xj⟩
    have HP2 : Hid (Plc s.data.toList (pNames p).2 a2) := hp2
    clear C2 hp2 HP1 HPL
    have HYn := y_ (HY.out.ext xj)
    have HFn := y_ (HF.out.ext xj)
    have H2n := y_ (H2.out.ext xj)
    have Xn := y_ (X.out.trans xj)
    clear xj HY HF H2 X
    try clear wi
    have HY := HYn
    have HF := HFn
    have H2 := H2n
    have X := Xn
    clear HYn HFn H2n Xn
    generalize wj = wi at *
    have r1 : wi.cell? ⟨g4, 1, none⟩ = some (.string p.1.repo) := HY.out.cell 1
    have r2 : wi.cell? ⟨g4, 2, none⟩ = some (.string p.1.tag) := HY.out.cell 2
    have f1 := HY.out.frozen 1
    have f2 := HY.out.frozen 2
    have hs0 := (HY.out.set_ 1 (.string ⟨(textS p.2).1.toArray⟩)).set_ 2 (.string ⟨(textS (textS p.2).2).1.toArray⟩)
    rw [set1, set2] at hs0
    have hbx := (But.set_ g4 wi 1 (.string ⟨(textS p.2).1.toArray⟩)).trans (But.set_ g4 _ 2 (.string ⟨(textS (textS p.2).2).1.toArray⟩))
    have HYn : Hid (Blk ((wi.setCell ⟨g4, 1, none⟩ (.string ⟨(textS p.2).1.toArray⟩)).setCell ⟨g4, 2, none⟩ (.string ⟨(textS (textS p.2).2).1.toArray⟩)) g4 39 (pNames p).1.cells) := hs0
    clear hs0
    go_upto_region 13 with (fail)
    clear r1 r2 f1 f2
    have HDn : (pNames p).1.dig.length = 32 := HD
    have HFn := y_ (HF.out.but hbx (by omega))
    have H2n := y_ (H2.out.but hbx (by omega))
    have Xn := y_ (X.out.trans_but hbx l4)
    clear hbx HY HD HF H2 X
    generalize ((wi.setCell ⟨g4, 1, none⟩ (.string ⟨(textS p.2).1.toArray⟩)).setCell ⟨g4, 2, none⟩ (.string ⟨(textS (textS p.2).2).1.toArray⟩)) = wi at *
    generalize pNames p = p at *
    generalize a2 = a at *
    have HY := HYn
    have HD := HDn
    have HF := HFn
    have H2 := H2n
    have X := Xn
    have HPL := HP2
    clear HYn HDn HFn H2n Xn HP2
    have p0 : wi.cell? ⟨g5, 0, none⟩ = some (.bool true) := HF.out.cell 0
    have p1 : wi.cell? ⟨g5, 1, none⟩ = some (.bool false) := HF.out.cell 1
    have p2 : wi.cell? ⟨g5, 2, none⟩ = some (.bool false) := HF.out.cell 2
    have p3 : wi.cell? ⟨g5, 3, none⟩ = some (.bool false) := HF.out.cell 3
    rcases HPL.out with ⟨hp2, ha⟩ | ⟨k, hk, hp2, ha⟩
    ·have HV : Hid (parseV s.data.toList = .tuple #[.agg S.none.cells.toArray, .bool false]) := by
      show parseV _ = _
      unfold parseV parse
      rw [HR.out, if_neg (by rw [hp2]; simp)]
     subst ha
     have da : ((-1 : Int) != (s.size : Int)) = true := by rw [bne_iff_ne]; omega
     clear HR hp2 HPL
     go_upto_region 32 with (fail)
     refine wp_region_lit ?_
     refine wpList_val rfl (.agg S.none.cells.toArray) (by as_aux_lemma => kernel_rfl) ?_
     simp only [z_1, z_2, z_3, z_4, z_5, z_b, z_6, z_7, z_8, z_9, z_0]
     have h2 := H2.out
     refine wpList_store_mid rfl 39 _ _ rfl g2 0 ((S.none).cells).toArray rfl ?_ (h2.there _ (by have e1 := cells_length _ none_dig; have e2 := cells_length _ none_dig; rw [z_a]; omega)) (by rw [z_a, cells_length _ none_dig]; exact size38) (all_oneCell_toArray (oneS _)) ?_
     ·rfl
     simp only [z_c]
     simp only [z_1, z_2, z_3, z_4, z_5, z_b, z_6, z_7, z_8, z_9, z_0]
     have HN := y_ (h2.setAll S.none.cells rfl)
     have XN := y_ (X.out.trans_but (But.setCells g2 S.none.cells 0 wi) l2)
     generalize wi.setCells g2 0 S.none.cells = wn at *
     clear h2 H2 X
     go_wp2_with fail
     exact bodyPost_ret (results_row2 rfl _ _ g2 39 (S.none.cells).toArray (0, 0) _ rfl HN.out undS rfl (by rw [z_a, cells_length _ none_dig]; exact size38)) rfl ⟨by rw [HV.out]; rfl, XN.out⟩
    ·subst ha
     rw [len_data] at hk
     by_cases hks : k = s.size
     ·have da : ((k : Int) != (s.size : Int)) = false := by rw [hks]; simp
      have hp3 : p.2 = some [] := by rw [hp2, List.drop_of_length_le (by rw [len_data]; omega)]
      have CG := y_ (goodR_any p.1 HD wi)
      cases hg : good p.1 with
      | true =>
        have HV : Hid (parseV s.data.toList = .tuple #[.agg p.1.cells.toArray, .bool true]) := by
         show parseV _ = _
         unfold parseV parse
         rw [HR.out, if_pos ⟨hp3, hg⟩]
        rw [hg] at CG
        clear HR hp2 hp3 hg HPL
        go_upto_region 31 with (fail)
        refine wp_region_lit ?_
        repeat (first | refine wpList_ldr rfl _ _ rfl g4 rfl _ _ _ HY undS (by rw [cells_length p.1 HD]; exact size38) ?_ | go_step)
        refine (CG.out).mono ?_
        rintro e wj ⟨rfl, xj⟩
        rename_i hK
        refine hK _ _ ?_
        clear CG p0 p1 p2 p3
        have HYn := y_ (HY.out.ext xj)
        have HFn := y_ (HF.out.ext xj)
        have H2n := y_ (H2.out.ext xj)
        have Xn := y_ (X.out.trans xj)
        clear xj HY HF H2 X
        try clear wi
        have HY := HYn
        have HF := HFn
        have H2 := H2n
        have X := Xn
        clear HYn HFn H2n Xn
        generalize wj = wi at *
        go_upto_region 33 with (fail)
        refine wp_region_lit ?_
        have hyo := HY.out
        have h2 := H2.out
        refine wpList_load_row rfl 39 _ rfl g4 rfl 39 (p.1.cells).toArray (0, 0) _ hyo undS rfl (by rw [z_a, cells_length p.1 HD]; exact size38) ?_
        simp only [z_1, z_2, z_3, z_4, z_5, z_b, z_6, z_7, z_8, z_9, z_0]
        refine wpList_store_mid rfl 39 _ _ rfl g2 0 ((p.1).cells).toArray rfl ?_ (h2.there _ (by have e1 := cells_length _ HD; have e2 := cells_length _ none_dig; rw [z_a]; omega)) (by rw [z_a, cells_length _ HD]; exact size38) (all_oneCell_toArray (oneS _)) ?_
        ·rfl
        simp only [z_c]
        simp only [z_1, z_2, z_3, z_4, z_5, z_b, z_6, z_7, z_8, z_9, z_0]
        have HN := y_ (h2.setAll p.1.cells ((cells_length _ HD).trans (cells_length _ none_dig).symm))
        have XN := y_ (X.out.trans_but (But.setCells g2 p.1.cells 0 wi) l2)
        generalize wi.setCells g2 0 p.1.cells = wn at *
        clear h2 hyo H2 X HY
        go_wp2_with fail
        exact bodyPost_ret (results_row2 rfl _ _ g2 39 (p.1.cells).toArray (0, 0) _ rfl HN.out undS rfl (by rw [z_a, cells_length _ HD]; exact size38)) rfl ⟨by rw [HV.out]; rfl, XN.out⟩
      | false =>
        have HV : Hid (parseV s.data.toList = .tuple #[.agg S.none.cells.toArray, .bool false]) := by
         show parseV _ = _
         unfold parseV parse
         rw [HR.out, if_neg (by rw [hg]; simp)]
        rw [hg] at CG
        clear HR hp2 hp3 hg HPL
        go_upto_region 31 with (fail)
        refine wp_region_lit ?_
        repeat (first | refine wpList_ldr rfl _ _ rfl g4 rfl _ _ _ HY undS (by rw [cells_length p.1 HD]; exact size38) ?_ | go_step)
        refine (CG.out).mono ?_
        rintro e wj ⟨rfl, xj⟩
        rename_i hK
        refine hK _ _ ?_
        clear CG p0 p1 p2 p3
        have HYn := y_ (HY.out.ext xj)
        have HFn := y_ (HF.out.ext xj)
        have H2n := y_ (H2.out.ext xj)
        have Xn := y_ (X.out.trans xj)
        clear xj HY HF H2 X
        try clear wi
        have HY := HYn
        have HF := HFn
        have H2 := H2n
        have X := Xn
        clear HYn HFn H2n Xn
        generalize wj = wi at *
        go_upto_region 32 with (fail)
        refine wp_region_lit ?_
        refine wpList_val rfl (.agg S.none.cells.toArray) (by as_aux_lemma => kernel_rfl) ?_
        simp only [z_1, z_2, z_3, z_4, z_5, z_b, z_6, z_7, z_8, z_9, z_0]
        have h2 := H2.out
        refine wpList_store_mid rfl 39 _ _ rfl g2 0 ((S.none).cells).toArray rfl ?_ (h2.there _ (by have e1 := cells_length _ none_dig; have e2 := cells_length _ none_dig; rw [z_a]; omega)) (by rw [z_a, cells_length _ none_dig]; exact size38) (all_oneCell_toArray (oneS _)) ?_
        ·rfl
        simp only [z_c]
        simp only [z_1, z_2, z_3, z_4, z_5, z_b, z_6, z_7, z_8, z_9, z_0]
        have HN := y_ (h2.setAll S.none.cells rfl)
        have XN := y_ (X.out.trans_but (But.setCells g2 S.none.cells 0 wi) l2)
        generalize wi.setCells g2 0 S.none.cells = wn at *
        clear h2 H2 X
        go_wp2_with fail
        exact bodyPost_ret (results_row2 rfl _ _ g2 39 (S.none.cells).toArray (0, 0) _ rfl HN.out undS rfl (by rw [z_a, cells_length _ none_dig]; exact size38)) rfl ⟨by rw [HV.out]; rfl, XN.out⟩
     ·have da : ((k : Int) != (s.size : Int)) = true := by rw [bne_iff_ne]; omega
      have HV : Hid (parseV s.data.toList = .tuple #[.agg S.none.cells.toArray, .bool false]) := by
       show parseV _ = _
       unfold parseV parse
       rw [HR.out, if_neg]
       rintro ⟨h1, -⟩
       rw [hp2] at h1
       injection h1 with h1
       have := congrArg List.length h1
       rw [List.length_drop, len_data] at this
       simp at this
       omega
      clear HR hp2 HPL
      go_upto_region 32 with (fail)
      refine wp_region_lit ?_
      refine wpList_val rfl (.agg S.none.cells.toArray) (by as_aux_lemma => kernel_rfl) ?_
      simp only [z_1, z_2, z_3, z_4, z_5, z_b, z_6, z_7, z_8, z_9, z_0]
      have h2 := H2.out
      refine wpList_store_mid rfl 39 _ _ rfl g2 0 ((S.none).cells).toArray rfl ?_ (h2.there _ (by have e1 := cells_length _ none_dig; have e2 := cells_length _ none_dig; rw [z_a]; omega)) (by rw [z_a, cells_length _ none_dig]; exact size38) (all_oneCell_toArray (oneS _)) ?_
      ·rfl
      simp only [z_c]
      simp only [z_1, z_2, z_3, z_4, z_5, z_b, z_6, z_7, z_8, z_9, z_0]
      have HN := y_ (h2.setAll S.none.cells rfl)
      have XN := y_ (X.out.trans_but (But.setCells g2 S.none.cells 0 wi) l2)
      generalize wi.setCells g2 0 S.none.cells = wn at *
      clear h2 H2 X
      go_wp2_with fail
      exact bodyPost_ret (results_row2 rfl _ _ g2 39 (S.none.cells).toArray (0, 0) _ rfl HN.out undS rfl (by rw [z_a, cells_length _ none_dig]; exact size38)) rfl ⟨by rw [HV.out]; rfl, XN.out⟩
    -- C}
   ·
    -- {D
    have HR : Hid (parsed s.data.toList = pThing (pDig p)) := HPR
    rw [show (F.cells ⟨false, true, true, false⟩) = [.bool false, .bool true, .bool true, .bool false] from rfl]
    go_upto_region 7 with (fail)
    have hbf : Blk (w5.alloc (Obj.cells #[Value.bool false, Value.bool true, Value.bool true, Value.bool false] 130)) w5.heap.size 130 [.bool false, .bool true, .bool true, .bool false] := Blk.new w5 130 #[Value.bool false, Value.bool true, Value.bool true, Value.bool false]
    have hxf := Reg.Ext.alloc w5 (Obj.cells #[Value.bool false, Value.bool true, Value.bool true, Value.bool false] 130)
    have HF := y_ hbf
    have HYn := y_ (HY.out.ext hxf)
    have H2n := y_ (H2.out.ext hxf)
    have Xn := y_ (X.out.trans hxf)
    have l45 := HY.out.lt
    clear HY H2 X hbf hxf
    have HY := HYn
    have H2 := H2n
    have X := Xn
    clear HYn H2n Xn
    generalize w5.alloc (Obj.cells #[Value.bool false, Value.bool true, Value.bool true, Value.bool false] 130) = wi at *
    generalize w5.heap.size = g5 at *
    generalize (1 : Int) = a at HPL ⊢
    have p0 : wi.cell? ⟨g5, 0, none⟩ = some (.bool false) := HF.out.cell 0
    have p1 : wi.cell? ⟨g5, 1, none⟩ = some (.bool true) := HF.out.cell 1
    have p2 : wi.cell? ⟨g5, 2, none⟩ = some (.bool true) := HF.out.cell 2
    have p3 : wi.cell? ⟨g5, 3, none⟩ = some (.bool false) := HF.out.cell 3
    rcases HPL.out with ⟨hp2, ha⟩ | ⟨k, hk, hp2, ha⟩
    ·have hpd : pDig p = (p.1, none) := by unfold pDig; rw [hp2]; rfl
     subst ha
     -- {N
     go_upto_region 21 with (fail)
     clear p0 p1 p2 p3 HPL hp2
     have HPL : Hid (Plc s.data.toList (pDig p).2 (-1)) := .inl ⟨by rw [hpd], rfl⟩
     have HYn : Hid (Blk wi g4 39 (pDig p).1.cells) := by rw [hpd]; exact HY.out
     have HDn : (pDig p).1.dig.length = 32 := pDig_len p HD
     clear HY HD hpd
     generalize pDig p = p at *
     generalize (-1 : Int) = a at HPL ⊢
     have HY := HYn
     have HD := HDn
     clear HYn HDn
     have p0 : wi.cell? ⟨g5, 0, none⟩ = some (.bool false) := HF.out.cell 0
     have p1 : wi.cell? ⟨g5, 1, none⟩ = some (.bool true) := HF.out.cell 1
     have p2 : wi.cell? ⟨g5, 2, none⟩ = some (.bool true) := HF.out.cell 2
     have p3 : wi.cell? ⟨g5, 3, none⟩ = some (.bool false) := HF.out.cell 3
     have C1 := y_ (took_any s p.2 a wi hs HPL.out)
     go_wp2_with fail
     refine (C1.out).mono ?_
     rintro e wj ⟨a1, rfl, hp1, xj⟩
     have HP1 := y_ hp1
     clear C1 hp1 p0 p1 p2 p3
     have HYn := y_ (HY.out.ext xj)
     have HFn := y_ (HF.out.ext xj)
     have H2n := y_ (H2.out.ext xj)
     have Xn := y_ (X.out.trans xj)
     clear xj HY HF H2 X
     try clear wi
     have HY := HYn
     have HF := HFn
     have H2 := H2n
     have X := Xn
     clear HYn HFn H2n Xn
     generalize wj = wi at *
     have C2 := y_ (counted_any s (textS p.2).2 a1 wi hs HP1.out)
     go_wp2_with fail
     refine (C2.out).mono ?_
     rintro e wj ⟨a2, rfl, hp2, xj⟩
     have HP2 : Hid (Plc s.data.toList (pThing p).2 a2) := hp2
     clear C2 hp2 HP1 HPL
     have HYn := y_ (HY.out.ext xj)
     have HFn := y_ (HF.out.ext xj)
     have H2n := y_ (H2.out.ext xj)
     have Xn := y_ (X.out.trans xj)
     clear xj HY HF H2 X
     try clear wi
     have HY := HYn
     have HF := HFn
     have H2 := H2n
     have X := Xn
     clear HYn HFn H2n Xn
     generalize wj = wi at *
     have r1 : wi.cell? ⟨g4, 35, none⟩ = some (.string p.1.typ) := by rw [HY.out.cell, at35 p.1 HD]
     have r2 : wi.cell? ⟨g4, 36, none⟩ = some (.int .i64 p.1.size) := by rw [HY.out.cell, at36 p.1 HD]
     have f1 := HY.out.frozen 35
     have f2 := HY.out.frozen 36
     have hs0 := HY.out.set_ 35 (.string ⟨(textS p.2).1.toArray⟩)
     rw [set35 p.1 HD] at hs0
     have hs1 := hs0.set_ 36 (.int .i64 ((numS (textS p.2).2).1 : Int))
     rw [set36 ({ p.1 with typ := ⟨(textS p.2).1.toArray⟩ } : S) HD] at hs1
     have hbx := (But.set_ g4 wi 35 (.string ⟨(textS p.2).1.toArray⟩)).trans (But.set_ g4 _ 36 (.int .i64 ((numS (textS p.2).2).1 : Int)))
     have HYn : Hid (Blk ((wi.setCell ⟨g4, 35, none⟩ (.string ⟨(textS p.2).1.toArray⟩)).setCell ⟨g4, 36, none⟩ (.int .i64 ((numS (textS p.2).2).1 : Int))) g4 39 (pThing p).1.cells) := hs1
     clear hs0 hs1
     go_upto_region 27 with (fail)
     clear r1 r2 f1 f2
     have HDn : (pThing p).1.dig.length = 32 := HD
     have HFn := y_ (HF.out.but hbx (by omega))
     have H2n := y_ (H2.out.but hbx (by omega))
     have Xn := y_ (X.out.trans_but hbx l4)
     clear hbx HY HD HF H2 X
     generalize ((wi.setCell ⟨g4, 35, none⟩ (.string ⟨(textS p.2).1.toArray⟩)).setCell ⟨g4, 36, none⟩ (.int .i64 ((numS (textS p.2).2).1 : Int))) = wi at *
     generalize pThing p = p at *
     generalize a2 = a at *
     have HY := HYn
     have HD := HDn
     have HF := HFn
     have H2 := H2n
     have X := Xn
     have HPL := HP2
     clear HYn HDn HFn H2n Xn HP2
     have p0 : wi.cell? ⟨g5, 0, none⟩ = some (.bool false) := HF.out.cell 0
     have p1 : wi.cell? ⟨g5, 1, none⟩ = some (.bool true) := HF.out.cell 1
     have p2 : wi.cell? ⟨g5, 2, none⟩ = some (.bool true) := HF.out.cell 2
     have p3 : wi.cell? ⟨g5, 3, none⟩ = some (.bool false) := HF.out.cell 3
     rcases HPL.out with ⟨hp2, ha⟩ | ⟨k, hk, hp2, ha⟩
     ·have HV : Hid (parseV s.data.toList = .tuple #[.agg S.none.cells.toArray, .bool false]) := by
       show parseV _ = _
       unfold parseV parse
       rw [HR.out, if_neg (by rw [hp2]; simp)]
      subst ha
      have da : ((-1 : Int) != (s.size : Int)) = true := by rw [bne_iff_ne]; omega
      clear HR hp2 HPL
      go_upto_region 32 with (fail)
      refine wp_region_lit ?_
      refine wpList_val rfl (.agg S.none.cells.toArray) (by as_aux_lemma => kernel_rfl) ?_
      simp only [z_1, z_2, z_3, z_4, z_5, z_b, z_6, z_7, z_8, z_9, z_0]
      have h2 := H2.out
      refine wpList_store_mid rfl 39 _ _ rfl g2 0 ((S.none).cells).toArray rfl ?_ (h2.there _ (by have e1 := cells_length _ none_dig; have e2 := cells_length _ none_dig; rw [z_a]; omega)) (by rw [z_a, cells_length _ none_dig]; exact size38) (all_oneCell_toArray (oneS _)) ?_
      ·rfl
      simp only [z_c]
      simp only [z_1, z_2, z_3, z_4, z_5, z_b, z_6, z_7, z_8, z_9, z_0]
      have HN := y_ (h2.setAll S.none.cells rfl)
      have XN := y_ (X.out.trans_but (But.setCells g2 S.none.cells 0 wi) l2)
      generalize wi.setCells g2 0 S.none.cells = wn at *
      clear h2 H2 X
      go_wp2_with fail
      exact bodyPost_ret (results_row2 rfl _ _ g2 39 (S.none.cells).toArray (0, 0) _ rfl HN.out undS rfl (by rw [z_a, cells_length _ none_dig]; exact size38)) rfl ⟨by rw [HV.out]; rfl, XN.out⟩
     ·subst ha
      rw [len_data] at hk
      by_cases hks : k = s.size
      ·have da : ((k : Int) != (s.size : Int)) = false := by rw [hks]; simp
       have hp3 : p.2 = some [] := by rw [hp2, List.drop_of_length_le (by rw [len_data]; omega)]
       have CG := y_ (goodR_any p.1 HD wi)
       cases hg : good p.1 with
       | true =>
         have HV : Hid (parseV s.data.toList = .tuple #[.agg p.1.cells.toArray, .bool true]) := by
          show parseV _ = _
          unfold parseV parse
          rw [HR.out, if_pos ⟨hp3, hg⟩]
         rw [hg] at CG
         clear HR hp2 hp3 hg HPL
         go_upto_region 31 with (fail)
         refine wp_region_lit ?_
         repeat (first | refine wpList_ldr rfl _ _ rfl g4 rfl _ _ _ HY undS (by rw [cells_length p.1 HD]; exact size38) ?_ | go_step)
         refine (CG.out).mono ?_
         rintro e wj ⟨rfl, xj⟩
         rename_i hK
         refine hK _ _ ?_
         clear CG p0 p1 p2 p3
         have HYn := y_ (HY.out.ext xj)
         have HFn := y_ (HF.out.ext xj)
         have H2n := y_ (H2.out.ext xj)
         have Xn := y_ (X.out.trans xj)
         clear xj HY HF H2 X
         try clear wi
         have HY := HYn
         have HF := HFn
         have H2 := H2n
         have X := Xn
         clear HYn HFn H2n Xn
         generalize wj = wi at *
         go_upto_region 33 with (fail)
         refine wp_region_lit ?_
         have hyo := HY.out
         have h2 := H2.out
         refine wpList_load_row rfl 39 _ rfl g4 rfl 39 (p.1.cells).toArray (0, 0) _ hyo undS rfl (by rw [z_a, cells_length p.1 HD]; exact size38) ?_
         simp only [z_1, z_2, z_3, z_4, z_5, z_b, z_6, z_7, z_8, z_9, z_0]
         refine wpList_store_mid rfl 39 _ _ rfl g2 0 ((p.1).cells).toArray rfl ?_ (h2.there _ (by have e1 := cells_length _ HD; have e2 := cells_length _ none_dig; rw [z_a]; omega)) (by rw [z_a, cells_length _ HD]; exact size38) (all_oneCell_toArray (oneS _)) ?_
         ·rfl
         simp only [z_c]
         simp only [z_1, z_2, z_3, z_4, z_5, z_b, z_6, z_7, z_8, z_9, z_0]
         have HN := y_ (h2.setAll p.1.cells ((cells_length _ HD).trans (cells_length _ none_dig).symm))
         have XN := y_ (X.out.trans_but (But.setCells g2 p.1.cells 0 wi) l2)
         generalize wi.setCells g2 0 p.1.cells = wn at *
         clear h2 hyo H2 X HY
         go_wp2_with fail
         exact bodyPost_ret (results_row2 rfl _ _ g2 39 (p.1.cells).toArray (0, 0) _ rfl HN.out undS rfl (by rw [z_a, cells_length _ HD]; exact size38)) rfl ⟨by rw [HV.out]; rfl, XN.out⟩
       | false =>
         have HV : Hid (parseV s.data.toList = .tuple #[.agg S.none.cells.toArray, .bool false]) := by
          show parseV _ = _
          unfold parseV parse
          rw [HR.out, if_neg (by rw [hg]; simp)]
         rw [hg] at CG
         clear HR hp2 hp3 hg HPL
         go_upto_region 31 with (fail)
         refine wp_region_lit ?_
         repeat (first | refine wpList_ldr rfl _ _ rfl g4 rfl _ _ _ HY undS (by rw [cells_length p.1 HD]; exact size38) ?_ | go_step)
         refine (CG.out).mono ?_
         rintro e wj ⟨rfl, xj⟩
         rename_i hK
         refine hK _ _ ?_
         clear CG p0 p1 p2 p3
         have HYn := y_ (HY.out.ext xj)
         have HFn := y_ (HF.out.ext xj)
         have H2n := y_ (H2.out.ext xj)
         have Xn := y_ (X.out.trans xj)
         clear xj HY HF H2 X
         try clear wi
         have HY := HYn
         have HF := HFn
         have H2 := H2n
         have X := Xn
         clear HYn HFn H2n Xn
         generalize wj = wi at *
         go_upto_region 32 with (fail)
         refine wp_region_lit ?_
         refine wpList_val rfl (.agg S.none.cells.toArray) (by as_aux_lemma => kernel_rfl) ?_
         simp only [z_1, z_2, z_3, z_4, z_5, z_b, z_6, z_7, z_8, z_9, z_0]
         have h2 := H2.out
         refine wpList_store_mid rfl 39 _ _ rfl g2 0 ((S.none).cells).toArray rfl ?_ (h2.there _ (by have e1 := cells_length _ none_dig; have e2 := cells_length _ none_dig; rw [z_a]; omega)) (by rw [z_a, cells_length _ none_dig]; exact size38) (all_oneCell_toArray (oneS _)) ?_
         ·rfl
         simp only [z_c]
         simp only [z_1, z_2, z_3, z_4, z_5, z_b, z_6, z_7, z_8, z_9, z_0]
         have HN := y_ (h2.setAll S.none.cells rfl)
         have XN := y_ (X.out.trans_but (But.setCells g2 S.none.cells 0 wi) l2)
         generalize wi.setCells g2 0 S.none.cells = wn at *
         clear h2 H2 X
         go_wp2_with fail
         exact bodyPost_ret (results_row2 rfl _ _ g2 39 (S.none.cells).toArray (0, 0) _ rfl HN.out undS rfl (by rw [z_a, cells_length _ none_dig]; exact size38)) rfl ⟨by rw [HV.out]; rfl, XN.out⟩
      ·have da : ((k : Int) != (s.size : Int)) = true := by rw [bne_iff_ne]; omega
       have HV : Hid (parseV s.data.toList = .tuple #[.agg S.none.cells.toArray, .bool false]) := by
        show parseV _ = _
        unfold parseV parse
        rw [HR.out, if_neg]
        rintro ⟨h1, -⟩
        rw [hp2] at h1
        injection h1 with h1
        have := congrArg List.length h1
        rw [List.length_drop, len_data] at this
        simp at this
        omega
       clear HR hp2 HPL
       go_upto_region 32 with (fail)
       refine wp_region_lit ?_
       refine wpList_val rfl (.agg S.none.cells.toArray) (by as_aux_lemma => kernel_rfl) ?_
       simp only [z_1, z_2, z_3, z_4, z_5, z_b, z_6, z_7, z_8, z_9, z_0]
       have h2 := H2.out
       refine wpList_store_mid rfl 39 _ _ rfl g2 0 ((S.none).cells).toArray rfl ?_ (h2.there _ (by have e1 := cells_length _ none_dig; have e2 := cells_length _ none_dig; rw [z_a]; omega)) (by rw [z_a, cells_length _ none_dig]; exact size38) (all_oneCell_toArray (oneS _)) ?_
       ·rfl
       simp only [z_c]
       simp only [z_1, z_2, z_3, z_4, z_5, z_b, z_6, z_7, z_8, z_9, z_0]
       have HN := y_ (h2.setAll S.none.cells rfl)
       have XN := y_ (X.out.trans_but (But.setCells g2 S.none.cells 0 wi) l2)
       generalize wi.setCells g2 0 S.none.cells = wn at *
       clear h2 H2 X
       go_wp2_with fail
       exact bodyPost_ret (results_row2 rfl _ _ g2 39 (S.none.cells).toArray (0, 0) _ rfl HN.out undS rfl (by rw [z_a, cells_length _ none_dig]; exact size38)) rfl ⟨by rw [HV.out]; rfl, XN.out⟩
     -- N}
    ·subst ha
     rw [len_data] at hk
     have dk0 : decide ((0 : Int) ≤ (k : Int)) = true := by rw [decide_eq_true_iff]; omega
     by_cases h32 : k + 32 ≤ s.size
     ·have d32 : decide ((32 : Int) ≤ (s.size : Int) - (k : Int)) = true := by rw [decide_eq_true_iff]; omega
      -- {Y
      have hml : ((s.data.toList.drop k).take 32).length = 32 := by rw [List.length_take, List.length_drop, len_data]; omega
      have hpd : pDig p = ({ p.1 with dig := (s.data.toList.drop k).take 32 }, some (s.data.toList.drop (k + 32))) := by
       unfold pDig
       rw [hp2, take_ok (by rw [List.length_drop, len_data]; omega), if_neg (by intro e; have e2 := congrArg List.length e; simp only at e2; rw [hml] at e2; cases e2), List.drop_drop]
      have HM : Hid (∀ j (hj : j < 32), ∃ hq : k + j < s.data.toList.length, ((s.data.toList.drop k).take 32)[j]? = some (s.data.toList[k + j]'hq)) := by
       intro j hj
       have hq : k + j < s.data.toList.length := by rw [len_data]; omega
       refine ⟨hq, ?_⟩
       rw [List.getElem?_take_of_lt (by omega), List.getElem?_drop, List.getElem?_eq_getElem hq]
      have HPD := y_ hpd
      have HML := y_ hml
      generalize (s.data.toList.drop k).take 32 = m at *
      have HPK2 : Hid (Plc s.data.toList (some (s.data.toList.drop (k + 32))) ((k : Int) + 32)) := .inr ⟨k + 32, by rw [len_data]; omega, rfl, by omega⟩
      clear hpd hml HPL hp2
      go_upto_region 14 with (fail)
      clear p0 p1 p2 p3 dk0 d32
      have HY0 : Hid (Blk wi g4 39 ({ p.1 with dig := m.take 0 ++ p.1.dig.drop 0 } : S).cells) := HY.out
      go_wp2_with fail
      go_loopw [11] (fun i wr => ∃ j : Nat, j ≤ 32 ∧ i = .int .i64 (j : Int) ∧ Hid (Blk wr g4 39 ({ p.1 with dig := m.take j ++ p.1.dig.drop j } : S).cells) ∧ Hid (But g4 wi wr)) (fun i _ => 32 - (intOf i).toNat)
      case atStart => exact ⟨0, by omega, rfl, HY0, But.refl _ _⟩
      case round =>
       obtain ⟨j, hj, rfl, HYJ, HB⟩ := hrel
       clear HY0
       have hjd : (m.take j ++ p.1.dig.drop j).length = 32 := by rw [List.length_append, List.length_take, List.length_drop, HML.out, HD]; omega
       by_cases hjl : j < 32
       ·have dj : decide ((j : Int) < 32) = true := by rw [decide_eq_true_iff]; omega
        obtain ⟨hq, hmj⟩ := HM.out j hjl
        have hjm : j < m.length := by rw [HML.out]; exact hjl
        rw [List.getElem?_eq_getElem hjm] at hmj
        injection hmj with hmj
        have hix := index_any s (k + j) (by rw [len_data] at hq; exact hq)
        rw [← hmj, show ((k + j : Nat) : Int) = (k : Int) + (j : Int) by omega] at hix
        have hbl := HYJ.out.set_ (3 + j) (byteV m[j])
        rw [set_dig _ j _ (by rw [hjd]; exact hjl)] at hbl
        have hset : (m.take j ++ p.1.dig.drop j).set j m[j] = m.take (j + 1) ++ p.1.dig.drop (j + 1) := set_next m p.1.dig j hjm (by rw [HD]; exact hjl)
        simp only at hbl
        rw [hset] at hbl
        have r1 : wr.cell? ⟨g4, 3 + j, none⟩ = some (byteV ((m.take j ++ p.1.dig.drop j)[j]'(by rw [hjd]; exact hjl))) := range_dig HYJ.out j _ (by rw [List.getElem?_map, List.getElem?_eq_getElem (by rw [hjd]; exact hjl)]; rfl)
        have f1 := HYJ.out.frozen (3 + j)
        generalize byteV ((m.take j ++ p.1.dig.drop j)[j]'(by rw [hjd]; exact hjl)) = old at *
        have HBL : Hid (Blk (wr.setCell ⟨g4, 3 + j, none⟩ (.int .u8 (m[j].toNat : Int))) g4 39 ({ p.1 with dig := m.take (j + 1) ++ p.1.dig.drop (j + 1) } : S).cells) := hbl
        have HB2 : Hid (But g4 wi (wr.setCell ⟨g4, 3 + j, none⟩ (.int .u8 (m[j].toNat : Int)))) := HB.out.trans (But.set_ _ _ _ _)
        have hcl := (m[j]).toNat_lt
        clear hbl hset hq hmj HYJ HB hjd
        generalize m[j].toNat = c at *
        go_wp2_with fail
        go_roundw
        case rel => exact ⟨j + 1, by omega, by go_num, HBL, HB2⟩
        case measure => simp [intOf]; omega
       ·have hje : j = 32 := by omega
        subst hje
        have dj : decide (((32 : Nat) : Int) < 32) = false := by decide
        have HYn : Hid (Blk wr g4 39 (pDig p).1.cells) := by
         rw [HPD.out]
         have h := HYJ.out
         rw [List.take_of_length_le (by rw [HML.out]; exact Nat.le_refl _), List.drop_of_length_le (by rw [HD]; exact Nat.le_refl _), List.append_nil] at h
         exact h
        have HPLn : Hid (Plc s.data.toList (pDig p).2 ((k : Int) + 32)) := by rw [HPD.out]; exact HPK2.out
        have HDn : (pDig p).1.dig.length = 32 := pDig_len p HD
        have HFn := y_ (HF.out.but HB.out (by omega))
        have H2n := y_ (H2.out.but HB.out (by omega))
        have Xn := y_ (X.out.trans_but HB.out l4)
        clear HF H2 X HY HD HB HYJ HPK2 HPD HM HML hjd
        go_upto_region 21 with (fail)
        generalize pDig p = p at *
        generalize (k : Int) + 32 = a at HPLn ⊢
        generalize wr = wi at *
        have HY := HYn
        have HD := HDn
        have HF := HFn
        have H2 := H2n
        have X := Xn
        have HPL := HPLn
        clear HYn HDn HFn H2n Xn HPLn
        have p0 : wi.cell? ⟨g5, 0, none⟩ = some (.bool false) := HF.out.cell 0
        have p1 : wi.cell? ⟨g5, 1, none⟩ = some (.bool true) := HF.out.cell 1
        have p2 : wi.cell? ⟨g5, 2, none⟩ = some (.bool true) := HF.out.cell 2
        have p3 : wi.cell? ⟨g5, 3, none⟩ = some (.bool false) := HF.out.cell 3
        have C1 := y_ (took_any s p.2 a wi hs HPL.out)
        go_wp2_with fail
        refine (C1.out).mono ?_
        rintro e wj ⟨a1, rfl, hp1, xj⟩
        have HP1 := y_ hp1
        clear C1 hp1 p0 p1 p2 p3
        have HYn := y_ (HY.out.ext xj)
        have HFn := y_ (HF.out.ext xj)
        have H2n := y_ (H2.out.ext xj)
        have Xn := y_ (X.out.trans xj)
        clear xj HY HF H2 X
        try clear wi
        have HY := HYn
        have HF := HFn
        have H2 := H2n
        have X := Xn
        clear HYn HFn H2n Xn
        generalize wj = wi at *
        have C2 := y_ (counted_any s (textS p.2).2 a1 wi hs HP1.out)
        go_wp2_with fail
        refine (C2.out).mono ?_
        rintro e wj ⟨a2, rfl, hp2, xj⟩
        have HP2 : Hid (Plc s.data.toList (pThing p).2 a2) := hp2
        clear C2 hp2 HP1 HPL
        have HYn := y_ (HY.out.ext xj)
        have HFn := y_ (HF.out.ext xj)
        have H2n := y_ (H2.out.ext xj)
        have Xn := y_ (X.out.trans xj)
        clear xj HY HF H2 X
        try clear wi
        have HY := HYn
        have HF := HFn
        have H2 := H2n
        have X := Xn
        clear HYn HFn H2n Xn
        generalize wj = wi at *
        have r1 : wi.cell? ⟨g4, 35, none⟩ = some (.string p.1.typ) := by rw [HY.out.cell, at35 p.1 HD]
        have r2 : wi.cell? ⟨g4, 36, none⟩ = some (.int .i64 p.1.size) := by rw [HY.out.cell, at36 p.1 HD]
        have f1 := HY.out.frozen 35
        have f2 := HY.out.frozen 36
        have hs0 := HY.out.set_ 35 (.string ⟨(textS p.2).1.toArray⟩)
        rw [set35 p.1 HD] at hs0
        have hs1 := hs0.set_ 36 (.int .i64 ((numS (textS p.2).2).1 : Int))
        rw [set36 ({ p.1 with typ := ⟨(textS p.2).1.toArray⟩ } : S) HD] at hs1
        have hbx := (But.set_ g4 wi 35 (.string ⟨(textS p.2).1.toArray⟩)).trans (But.set_ g4 _ 36 (.int .i64 ((numS (textS p.2).2).1 : Int)))
        have HYn : Hid (Blk ((wi.setCell ⟨g4, 35, none⟩ (.string ⟨(textS p.2).1.toArray⟩)).setCell ⟨g4, 36, none⟩ (.int .i64 ((numS (textS p.2).2).1 : Int))) g4 39 (pThing p).1.cells) := hs1
        clear hs0 hs1
        go_upto_region 27 with (fail)
        clear r1 r2 f1 f2
        have HDn : (pThing p).1.dig.length = 32 := HD
        have HFn := y_ (HF.out.but hbx (by omega))
        have H2n := y_ (H2.out.but hbx (by omega))
        have Xn := y_ (X.out.trans_but hbx l4)
        clear hbx HY HD HF H2 X
        generalize ((wi.setCell ⟨g4, 35, none⟩ (.string ⟨(textS p.2).1.toArray⟩)).setCell ⟨g4, 36, none⟩ (.int .i64 ((numS (textS p.2).2).1 : Int))) = wi at *
        generalize pThing p = p at *
        generalize a2 = a at *
        have HY := HYn
        have HD := HDn
        have HF := HFn
        have H2 := H2n
        have X := Xn
        have HPL := HP2
        clear HYn HDn HFn H2n Xn HP2
        have p0 : wi.cell? ⟨g5, 0, none⟩ = some (.bool false) := HF.out.cell 0
        have p1 : wi.cell? ⟨g5, 1, none⟩ = some (.bool true) := HF.out.cell 1
        have p2 : wi.cell? ⟨g5, 2, none⟩ = some (.bool true) := HF.out.cell 2
        have p3 : wi.cell? ⟨g5, 3, none⟩ = some (.bool false) := HF.out.cell 3
        rcases HPL.out with ⟨hp2, ha⟩ | ⟨k, hk, hp2, ha⟩
        ·have HV : Hid (parseV s.data.toList = .tuple #[.agg S.none.cells.toArray, .bool false]) := by
          show parseV _ = _
          unfold parseV parse
          rw [HR.out, if_neg (by rw [hp2]; simp)]
         subst ha
         have da : ((-1 : Int) != (s.size : Int)) = true := by rw [bne_iff_ne]; omega
         clear HR hp2 HPL
         go_upto_region 32 with (fail)
         refine wp_region_lit ?_
         refine wpList_val rfl (.agg S.none.cells.toArray) (by as_aux_lemma => kernel_rfl) ?_
         simp only [z_1, z_2, z_3, z_4, z_5, z_b, z_6, z_7, z_8, z_9, z_0]
         have h2 := H2.out
         refine wpList_store_mid rfl 39 _ _ rfl g2 0 ((S.none).cells).toArray rfl ?_ (h2.there _ (by have e1 := cells_length _ none_dig; have e2 := cells_length _ none_dig; rw [z_a]; omega)) (by rw [z_a, cells_length _ none_dig]; exact size38) (all_oneCell_toArray (oneS _)) ?_
         ·rfl
         simp only [z_c]
         simp only [z_1, z_2, z_3, z_4, z_5, z_b, z_6, z_7, z_8, z_9, z_0]
         have HN := y_ (h2.setAll S.none.cells rfl)
         have XN := y_ (X.out.trans_but (But.setCells g2 S.none.cells 0 wi) l2)
         generalize wi.setCells g2 0 S.none.cells = wn at *
         clear h2 H2 X
         go_wp2_with fail
         exact bodyPost_ret (results_row2 rfl _ _ g2 39 (S.none.cells).toArray (0, 0) _ rfl HN.out undS rfl (by rw [z_a, cells_length _ none_dig]; exact size38)) rfl ⟨by rw [HV.out]; rfl, XN.out⟩
        ·subst ha
         rw [len_data] at hk
         by_cases hks : k = s.size
         ·have da : ((k : Int) != (s.size : Int)) = false := by rw [hks]; simp
          have hp3 : p.2 = some [] := by rw [hp2, List.drop_of_length_le (by rw [len_data]; omega)]
          have CG := y_ (goodR_any p.1 HD wi)
          cases hg : good p.1 with
          | true =>
            have HV : Hid (parseV s.data.toList = .tuple #[.agg p.1.cells.toArray, .bool true]) := by
             show parseV _ = _
             unfold parseV parse
             rw [HR.out, if_pos ⟨hp3, hg⟩]
            rw [hg] at CG
            clear HR hp2 hp3 hg HPL
            go_upto_region 31 with (fail)
            refine wp_region_lit ?_
            repeat (first | refine wpList_ldr rfl _ _ rfl g4 rfl _ _ _ HY undS (by rw [cells_length p.1 HD]; exact size38) ?_ | go_step)
            refine (CG.out).mono ?_
            rintro e wj ⟨rfl, xj⟩
            rename_i hK
            refine hK _ _ ?_
            clear CG p0 p1 p2 p3
            have HYn := y_ (HY.out.ext xj)
            have HFn := y_ (HF.out.ext xj)
            have H2n := y_ (H2.out.ext xj)
            have Xn := y_ (X.out.trans xj)
            clear xj HY HF H2 X
            try clear wi
            have HY := HYn
            have HF := HFn
            have H2 := H2n
            have X := Xn
            clear HYn HFn H2n Xn
            generalize wj = wi at *
            go_upto_region 33 with (fail)
            refine wp_region_lit ?_
            have hyo := HY.out
            have h2 := H2.out
            refine wpList_load_row rfl 39 _ rfl g4 rfl 39 (p.1.cells).toArray (0, 0) _ hyo undS rfl (by rw [z_a, cells_length p.1 HD]; exact size38) ?_
            simp only [z_1, z_2, z_3, z_4, z_5, z_b, z_6, z_7, z_8, z_9, z_0]
            refine wpList_store_mid rfl 39 _ _ rfl g2 0 ((p.1).cells).toArray rfl ?_ (h2.there _ (by have e1 := cells_length _ HD; have e2 := cells_length _ none_dig; rw [z_a]; omega)) (by rw [z_a, cells_length _ HD]; exact size38) (all_oneCell_toArray (oneS _)) ?_
            ·rfl
            simp only [z_c]
            simp only [z_1, z_2, z_3, z_4, z_5, z_b, z_6, z_7, z_8, z_9, z_0]
            have HN := y_ (h2.setAll p.1.cells ((cells_length _ HD).trans (cells_length _ none_dig).symm))
            have XN := y_ (X.out.trans_but (But.setCells g2 p.1.cells 0 wi) l2)
            generalize wi.setCells g2 0 p.1.cells = wn at *
            clear h2 hyo H2 X HY
            go_wp2_with fail
            exact bodyPost_ret (results_row2 rfl _ _ g2 39 (p.1.cells).toArray (0, 0) _ rfl HN.out undS rfl (by rw [z_a, cells_length _ HD]; exact size38)) rfl ⟨by rw [HV.out]; rfl, XN.out⟩
          | false =>
            have HV : Hid (parseV s.data.toList = .tuple #[.agg S.none.cells.toArray, .bool false]) := by
             show parseV _ = _
             unfold parseV parse
             rw [HR.out, if_neg (by rw [hg]; simp)]
            rw [hg] at CG
            clear HR hp2 hp3 hg HPL
            go_upto_region 31 with (fail)
            refine wp_region_lit ?_
            repeat (first | refine wpList_ldr rfl _ _ rfl g4 rfl _ _ _ HY undS (by rw [cells_length p.1 HD]; exact size38) ?_ | go_step)
            refine (CG.out).mono ?_
            rintro e wj ⟨rfl, xj⟩
            rename_i hK
            refine hK _ _ ?_
            clear CG p0 p1 p2 p3
            have HYn := y_ (HY.out.ext xj)
            have HFn := y_ (HF.out.ext xj)
            have H2n := y_ (H2.out.ext xj)
            have Xn := y_ (X.out.trans xj)
            clear xj HY HF H2 X
            try clear wi
            have HY := HYn
            have HF := HFn
            have H2 := H2n
            have X := Xn
            clear HYn HFn H2n Xn
            generalize wj = wi at *
            go_upto_region 32 with (fail)
            refine wp_region_lit ?_
            refine wpList_val rfl (.agg S.none.cells.toArray) (by as_aux_lemma => kernel_rfl) ?_
            simp only [z_1, z_2, z_3, z_4, z_5, z_b, z_6, z_7, z_8, z_9, z_0]
            have h2 := H2.out
            refine wpList_store_mid rfl 39 _ _ rfl g2 0 ((S.none).cells).toArray rfl ?_ (h2.there _ (by have e1 := cells_length _ none_dig; have e2 := cells_length _ none_dig; rw [z_a]; omega)) (by rw [z_a, cells_length _ none_dig]; exact size38) (all_oneCell_toArray (oneS _)) ?_
            ·rfl
            simp only [z_c]
            simp only [z_1, z_2, z_3, z_4, z_5, z_b, z_6, z_7, z_8, z_9, z_0]
            have HN := y_ (h2.setAll S.none.cells rfl)
            have XN := y_ (X.out.trans_but (But.setCells g2 S.none.cells 0 wi) l2)
            generalize wi.setCells g2 0 S.none.cells = wn at *
            clear h2 H2 X
            go_wp2_with fail
            exact bodyPost_ret (results_row2 rfl _ _ g2 39 (S.none.cells).toArray (0, 0) _ rfl HN.out undS rfl (by rw [z_a, cells_length _ none_dig]; exact size38)) rfl ⟨by rw [HV.out]; rfl, XN.out⟩
         ·have da : ((k : Int) != (s.size : Int)) = true := by rw [bne_iff_ne]; omega
          have HV : Hid (parseV s.data.toList = .tuple #[.agg S.none.cells.toArray, .bool false]) := by
           show parseV _ = _
           unfold parseV parse
           rw [HR.out, if_neg]
           rintro ⟨h1, -⟩
           rw [hp2] at h1
           injection h1 with h1
           have := congrArg List.length h1
           rw [List.length_drop, len_data] at this
           simp at this
           omega
          clear HR hp2 HPL
          go_upto_region 32 with (fail)
          refine wp_region_lit ?_
          refine wpList_val rfl (.agg S.none.cells.toArray) (by as_aux_lemma => kernel_rfl) ?_
          simp only [z_1, z_2, z_3, z_4, z_5, z_b, z_6, z_7, z_8, z_9, z_0]
          have h2 := H2.out
          refine wpList_store_mid rfl 39 _ _ rfl g2 0 ((S.none).cells).toArray rfl ?_ (h2.there _ (by have e1 := cells_length _ none_dig; have e2 := cells_length _ none_dig; rw [z_a]; omega)) (by rw [z_a, cells_length _ none_dig]; exact size38) (all_oneCell_toArray (oneS _)) ?_
          ·rfl
          simp only [z_c]
          simp only [z_1, z_2, z_3, z_4, z_5, z_b, z_6, z_7, z_8, z_9, z_0]
          have HN := y_ (h2.setAll S.none.cells rfl)
          have XN := y_ (X.out.trans_but (But.setCells g2 S.none.cells 0 wi) l2)
          generalize wi.setCells g2 0 S.none.cells = wn at *
          clear h2 H2 X
          go_wp2_with fail
          exact bodyPost_ret (results_row2 rfl _ _ g2 39 (S.none.cells).toArray (0, 0) _ rfl HN.out undS rfl (by rw [z_a, cells_length _ none_dig]; exact size38)) rfl ⟨by rw [HV.out]; rfl, XN.out⟩
      -- Y}
     ·have d32 : decide ((32 : Int) ≤ (s.size : Int) - (k : Int)) = false := by rw [decide_eq_false_iff_not]; omega
      have hpd : pDig p = (p.1, none) := by unfold pDig; rw [hp2, take_no (by rw [List.length_drop, len_data]; omega)]; rfl
      -- {M
      go_upto_region 21 with (fail)
      clear p0 p1 p2 p3 HPL hp2
      have HPL : Hid (Plc s.data.toList (pDig p).2 (-1)) := .inl ⟨by rw [hpd], rfl⟩
      have HYn : Hid (Blk wi g4 39 (pDig p).1.cells) := by rw [hpd]; exact HY.out
      have HDn : (pDig p).1.dig.length = 32 := pDig_len p HD
      clear HY HD hpd
      generalize pDig p = p at *
      generalize (-1 : Int) = a at HPL ⊢
      have HY := HYn
      have HD := HDn
      clear HYn HDn
      clear dk0 d32
      have p0 : wi.cell? ⟨g5, 0, none⟩ = some (.bool false) := HF.out.cell 0
      have p1 : wi.cell? ⟨g5, 1, none⟩ = some (.bool true) := HF.out.cell 1
      have p2 : wi.cell? ⟨g5, 2, none⟩ = some (.bool true) := HF.out.cell 2
      have p3 : wi.cell? ⟨g5, 3, none⟩ = some (.bool false) := HF.out.cell 3
      have C1 := y_ (took_any s p.2 a wi hs HPL.out)
      go_wp2_with fail
      refine (C1.out).mono ?_
      rintro e wj ⟨a1, rfl, hp1, xj⟩
      have HP1 := y_ hp1
      clear C1 hp1 p0 p1 p2 p3
      have HYn := y_ (HY.out.ext xj)
      have HFn := y_ (HF.out.ext xj)
      have H2n := y_ (H2.out.ext xj)
      have Xn := y_ (X.out.trans xj)
      clear xj HY HF H2 X
      try clear wi
      have HY := HYn
      have HF := HFn
      have H2 := H2n
      have X := Xn
      clear HYn HFn H2n Xn
      generalize wj = wi at *
      have C2 := y_ (counted_any s (textS p.2).2 a1 wi hs HP1.out)
      go_wp2_with fail
      refine (C2.out).mono ?_
      rintro e wj ⟨a2, rfl, hp2, xj⟩
      have HP2 : Hid (Plc s.data.toList (pThing p).2 a2) := hp2
      clear C2 hp2 HP1 HPL
      have HYn := y_ (HY.out.ext xj)
      have HFn := y_ (HF.out.ext xj)
      have H2n := y_ (H2.out.ext xj)
      have Xn := y_ (X.out.trans xj)
      clear xj HY HF H2 X
      try clear wi
      have HY := HYn
      have HF := HFn
      have H2 := H2n
      have X := Xn
      clear HYn HFn H2n Xn
      generalize wj = wi at *
      have r1 : wi.cell? ⟨g4, 35, none⟩ = some (.string p.1.typ) := by rw [HY.out.cell, at35 p.1 HD]
      have r2 : wi.cell? ⟨g4, 36, none⟩ = some (.int .i64 p.1.size) := by rw [HY.out.cell, at36 p.1 HD]
      have f1 := HY.out.frozen 35
      have f2 := HY.out.frozen 36
      have hs0 := HY.out.set_ 35 (.string ⟨(textS p.2).1.toArray⟩)
      rw [set35 p.1 HD] at hs0
      have hs1 := hs0.set_ 36 (.int .i64 ((numS (textS p.2).2).1 : Int))
      rw [set36 ({ p.1 with typ := ⟨(textS p.2).1.toArray⟩ } : S) HD] at hs1
      have hbx := (But.set_ g4 wi 35 (.string ⟨(textS p.2).1.toArray⟩)).trans (But.set_ g4 _ 36 (.int .i64 ((numS (textS p.2).2).1 : Int)))
      have HYn : Hid (Blk ((wi.setCell ⟨g4, 35, none⟩ (.string ⟨(textS p.2).1.toArray⟩)).setCell ⟨g4, 36, none⟩ (.int .i64 ((numS (textS p.2).2).1 : Int))) g4 39 (pThing p).1.cells) := hs1
      clear hs0 hs1
      go_upto_region 27 with (fail)
      clear r1 r2 f1 f2
      have HDn : (pThing p).1.dig.length = 32 := HD
      have HFn := y_ (HF.out.but hbx (by omega))
      have H2n := y_ (H2.out.but hbx (by omega))
      have Xn := y_ (X.out.trans_but hbx l4)
      clear hbx HY HD HF H2 X
      generalize ((wi.setCell ⟨g4, 35, none⟩ (.string ⟨(textS p.2).1.toArray⟩)).setCell ⟨g4, 36, none⟩ (.int .i64 ((numS (textS p.2).2).1 : Int))) = wi at *
      generalize pThing p = p at *
      generalize a2 = a at *
      have HY := HYn
      have HD := HDn
      have HF := HFn
      have H2 := H2n
      have X := Xn
      have HPL := HP2
      clear HYn HDn HFn H2n Xn HP2
      have p0 : wi.cell? ⟨g5, 0, none⟩ = some (.bool false) := HF.out.cell 0
      have p1 : wi.cell? ⟨g5, 1, none⟩ = some (.bool true) := HF.out.cell 1
      have p2 : wi.cell? ⟨g5, 2, none⟩ = some (.bool true) := HF.out.cell 2
      have p3 : wi.cell? ⟨g5, 3, none⟩ = some (.bool false) := HF.out.cell 3
      rcases HPL.out with ⟨hp2, ha⟩ | ⟨k, hk, hp2, ha⟩
      ·have HV : Hid (parseV s.data.toList = .tuple #[.agg S.none.cells.toArray, .bool false]) := by
        show parseV _ = _
        unfold parseV parse
        rw [HR.out, if_neg (by rw [hp2]; simp)]
       subst ha
       have da : ((-1 : Int) != (s.size : Int)) = true := by rw [bne_iff_ne]; omega
       clear HR hp2 HPL
       go_upto_region 32 with (fail)
       refine wp_region_lit ?_
       refine wpList_val rfl (.agg S.none.cells.toArray) (by as_aux_lemma => kernel_rfl) ?_
       simp only [z_1, z_2, z_3, z_4, z_5, z_b, z_6, z_7, z_8, z_9, z_0]
       have h2 := H2.out
       refine wpList_store_mid rfl 39 _ _ rfl g2 0 ((S.none).cells).toArray rfl ?_ (h2.there _ (by have e1 := cells_length _ none_dig; have e2 := cells_length _ none_dig; rw [z_a]; omega)) (by rw [z_a, cells_length _ none_dig]; exact size38) (all_oneCell_toArray (oneS _)) ?_
       ·rfl
       simp only [z_c]
       simp only [z_1, z_2, z_3, z_4, z_5, z_b, z_6, z_7, z_8, z_9, z_0]
       have HN := y_ (h2.setAll S.none.cells rfl)
       have XN := y_ (X.out.trans_but (But.setCells g2 S.none.cells 0 wi) l2)
       generalize wi.setCells g2 0 S.none.cells = wn at *
       clear h2 H2 X
       go_wp2_with fail
       exact bodyPost_ret (results_row2 rfl _ _ g2 39 (S.none.cells).toArray (0, 0) _ rfl HN.out undS rfl (by rw [z_a, cells_length _ none_dig]; exact size38)) rfl ⟨by rw [HV.out]; rfl, XN.out⟩
      ·subst ha
       rw [len_data] at hk
       by_cases hks : k = s.size
       ·have da : ((k : Int) != (s.size : Int)) = false := by rw [hks]; simp
        have hp3 : p.2 = some [] := by rw [hp2, List.drop_of_length_le (by rw [len_data]; omega)]
        have CG := y_ (goodR_any p.1 HD wi)
        cases hg : good p.1 with
        | true =>
          have HV : Hid (parseV s.data.toList = .tuple #[.agg p.1.cells.toArray, .bool true]) := by
           show parseV _ = _
           unfold parseV parse
           rw [HR.out, if_pos ⟨hp3, hg⟩]
          rw [hg] at CG
          clear HR hp2 hp3 hg HPL
          go_upto_region 31 with (fail)
          refine wp_region_lit ?_
          repeat (first | refine wpList_ldr rfl _ _ rfl g4 rfl _ _ _ HY undS (by rw [cells_length p.1 HD]; exact size38) ?_ | go_step)
          refine (CG.out).mono ?_
          rintro e wj ⟨rfl, xj⟩
          rename_i hK
          refine hK _ _ ?_
          clear CG p0 p1 p2 p3
          have HYn := y_ (HY.out.ext xj)
          have HFn := y_ (HF.out.ext xj)
          have H2n := y_ (H2.out.ext xj)
          have Xn := y_ (X.out.trans xj)
          clear xj HY HF H2 X
          try clear wi
          have HY := HYn
          have HF := HFn
          have H2 := H2n
          have X := Xn
          clear HYn HFn H2n Xn
          generalize wj = wi at *
          go_upto_region 33 with (fail)
          refine wp_region_lit ?_
          have hyo := HY.out
          have h2 := H2.out
          refine wpList_load_row rfl 39 _ rfl g4 rfl 39 (p.1.cells).toArray (0, 0) _ hyo undS rfl (by rw [z_a, cells_length p.1 HD]; exact size38) ?_
          simp only [z_1, z_2, z_3, z_4, z_5, z_b, z_6, z_7, z_8, z_9, z_0]
          refine wpList_store_mid rfl 39 _ _ rfl g2 0 ((p.1).cells).toArray rfl ?_ (h2.there _ (by have e1 := cells_length _ HD; have e2 := cells_length _ none_dig; rw [z_a]; omega)) (by rw [z_a, cells_length _ HD]; exact size38) (all_oneCell_toArray (oneS _)) ?_
          ·rfl
          simp only [z_c]
          simp only [z_1, z_2, z_3, z_4, z_5, z_b, z_6, z_7, z_8, z_9, z_0]
          have HN := y_ (h2.setAll p.1.cells ((cells_length _ HD).trans (cells_length _ none_dig).symm))
          have XN := y_ (X.out.trans_but (But.setCells g2 p.1.cells 0 wi) l2)
          generalize wi.setCells g2 0 p.1.cells = wn at *
          clear h2 hyo H2 X HY
          go_wp2_with fail
          exact bodyPost_ret (results_row2 rfl _ _ g2 39 (p.1.cells).toArray (0, 0) _ rfl HN.out undS rfl (by rw [z_a, cells_length _ HD]; exact size38)) rfl ⟨by rw [HV.out]; rfl, XN.out⟩
        | false =>
          have HV : Hid (parseV s.data.toList = .tuple #[.agg S.none.cells.toArray, .bool false]) := by
           show parseV _ = _
           unfold parseV parse
           rw [HR.out, if_neg (by rw [hg]; simp)]
          rw [hg] at CG
          clear HR hp2 hp3 hg HPL
          go_upto_region 31 with (fail)
          refine wp_region_lit ?_
          repeat (first | refine wpList_ldr rfl _ _ rfl g4 rfl _ _ _ HY undS (by rw [cells_length p.1 HD]; exact size38) ?_ | go_step)
          refine (CG.out).mono ?_
          rintro e wj ⟨rfl, xj⟩
          rename_i hK
          refine hK _ _ ?_
          clear CG p0 p1 p2 p3
          have HYn := y_ (HY.out.ext xj)
          have HFn := y_ (HF.out.ext xj)
          have H2n := y_ (H2.out.ext xj)
          have Xn := y_ (X.out.trans xj)
          clear xj HY HF H2 X
          try clear wi
          have HY := HYn
          have HF := HFn
          have H2 := H2n
          have X := Xn
          clear HYn HFn H2n Xn
          generalize wj = wi at *
          go_upto_region 32 with (fail)
          refine wp_region_lit ?_
          refine wpList_val rfl (.agg S.none.cells.toArray) (by as_aux_lemma => kernel_rfl) ?_
          simp only [z_1, z_2, z_3, z_4, z_5, z_b, z_6, z_7, z_8, z_9, z_0]
          have h2 := H2.out
          refine wpList_store_mid rfl 39 _ _ rfl g2 0 ((S.none).cells).toArray rfl ?_ (h2.there _ (by have e1 := cells_length _ none_dig; have e2 := cells_length _ none_dig; rw [z_a]; omega)) (by rw [z_a, cells_length _ none_dig]; exact size38) (all_oneCell_toArray (oneS _)) ?_
          ·rfl
          simp only [z_c]
          simp only [z_1, z_2, z_3, z_4, z_5, z_b, z_6, z_7, z_8, z_9, z_0]
          have HN := y_ (h2.setAll S.none.cells rfl)
          have XN := y_ (X.out.trans_but (But.setCells g2 S.none.cells 0 wi) l2)
          generalize wi.setCells g2 0 S.none.cells = wn at *
          clear h2 H2 X
          go_wp2_with fail
          exact bodyPost_ret (results_row2 rfl _ _ g2 39 (S.none.cells).toArray (0, 0) _ rfl HN.out undS rfl (by rw [z_a, cells_length _ none_dig]; exact size38)) rfl ⟨by rw [HV.out]; rfl, XN.out⟩
       ·have da : ((k : Int) != (s.size : Int)) = true := by rw [bne_iff_ne]; omega
        have HV : Hid (parseV s.data.toList = .tuple #[.agg S.none.cells.toArray, .bool false]) := by
         show parseV _ = _
         unfold parseV parse
         rw [HR.out, if_neg]
         rintro ⟨h1, -⟩
         rw [hp2] at h1
         injection h1 with h1
         have := congrArg List.length h1
         rw [List.length_drop, len_data] at this
         simp at this
         omega
        clear HR hp2 HPL
        go_upto_region 32 with (fail)
        refine wp_region_lit ?_
        refine wpList_val rfl (.agg S.none.cells.toArray) (by as_aux_lemma => kernel_rfl) ?_
        simp only [z_1, z_2, z_3, z_4, z_5, z_b, z_6, z_7, z_8, z_9, z_0]
        have h2 := H2.out
        refine wpList_store_mid rfl 39 _ _ rfl g2 0 ((S.none).cells).toArray rfl ?_ (h2.there _ (by have e1 := cells_length _ none_dig; have e2 := cells_length _ none_dig; rw [z_a]; omega)) (by rw [z_a, cells_length _ none_dig]; exact size38) (all_oneCell_toArray (oneS _)) ?_
        ·rfl
        simp only [z_c]
        simp only [z_1, z_2, z_3, z_4, z_5, z_b, z_6, z_7, z_8, z_9, z_0]
        have HN := y_ (h2.setAll S.none.cells rfl)
        have XN := y_ (X.out.trans_but (But.setCells g2 S.none.cells 0 wi) l2)
        generalize wi.setCells g2 0 S.none.cells = wn at *
        clear h2 H2 X
        go_wp2_with fail
        exact bodyPost_ret (results_row2 rfl _ _ g2 39 (S.none.cells).toArray (0, 0) _ rfl HN.out undS rfl (by rw [z_a, cells_length _ none_dig]; exact size38)) rfl ⟨by rw [HV.out]; rfl, XN.out⟩
      -- M}
    -- D}
   ·
    -- {E
    have HR : Hid (parsed s.data.toList = pDig p) := HPR
    rw [show (F.cells ⟨false, true, false, false⟩) = [.bool false, .bool true, .bool false, .bool false] from rfl]
    go_upto_region 7 with (fail)
    have hbf : Blk (w5.alloc (Obj.cells #[Value.bool false, Value.bool true, Value.bool false, Value.bool false] 130)) w5.heap.size 130 [.bool false, .bool true, .bool false, .bool false] := Blk.new w5 130 #[Value.bool false, Value.bool true, Value.bool false, Value.bool false]
    have hxf := Reg.Ext.alloc w5 (Obj.cells #[Value.bool false, Value.bool true, Value.bool false, Value.bool false] 130)
    have HF := y_ hbf
    have HYn := y_ (HY.out.ext hxf)
    have H2n := y_ (H2.out.ext hxf)
    have Xn := y_ (X.out.trans hxf)
    have l45 := HY.out.lt
    clear HY H2 X hbf hxf
    have HY := HYn
    have H2 := H2n
    have X := Xn
    clear HYn H2n Xn
    generalize w5.alloc (Obj.cells #[Value.bool false, Value.bool true, Value.bool false, Value.bool false] 130) = wi at *
    generalize w5.heap.size = g5 at *
    generalize (1 : Int) = a at HPL ⊢
    have p0 : wi.cell? ⟨g5, 0, none⟩ = some (.bool false) := HF.out.cell 0
    have p1 : wi.cell? ⟨g5, 1, none⟩ = some (.bool true) := HF.out.cell 1
    have p2 : wi.cell? ⟨g5, 2, none⟩ = some (.bool false) := HF.out.cell 2
    have p3 : wi.cell? ⟨g5, 3, none⟩ = some (.bool false) := HF.out.cell 3
    rcases HPL.out with ⟨hp2, ha⟩ | ⟨k, hk, hp2, ha⟩
    ·have hpd : pDig p = (p.1, none) := by unfold pDig; rw [hp2]; rfl
     subst ha
     -- {N
     go_upto_region 21 with (fail)
     clear p0 p1 p2 p3 HPL hp2
     have HPL : Hid (Plc s.data.toList (pDig p).2 (-1)) := .inl ⟨by rw [hpd], rfl⟩
     have HYn : Hid (Blk wi g4 39 (pDig p).1.cells) := by rw [hpd]; exact HY.out
     have HDn : (pDig p).1.dig.length = 32 := pDig_len p HD
     clear HY HD hpd
     generalize pDig p = p at *
     generalize (-1 : Int) = a at HPL ⊢
     have HY := HYn
     have HD := HDn
     clear HYn HDn
     have p0 : wi.cell? ⟨g5, 0, none⟩ = some (.bool false) := HF.out.cell 0
     have p1 : wi.cell? ⟨g5, 1, none⟩ = some (.bool true) := HF.out.cell 1
     have p2 : wi.cell? ⟨g5, 2, none⟩ = some (.bool false) := HF.out.cell 2
     have p3 : wi.cell? ⟨g5, 3, none⟩ = some (.bool false) := HF.out.cell 3
     rcases HPL.out with ⟨hp2, ha⟩ | ⟨k, hk, hp2, ha⟩
     ·have HV : Hid (parseV s.data.toList = .tuple #[.agg S.none.cells.toArray, .bool false]) := by
       show parseV _ = _
       unfold parseV parse
       rw [HR.out, if_neg (by rw [hp2]; simp)]
      subst ha
      have da : ((-1 : Int) != (s.size : Int)) = true := by rw [bne_iff_ne]; omega
      clear HR hp2 HPL
      go_upto_region 32 with (fail)
      refine wp_region_lit ?_
      refine wpList_val rfl (.agg S.none.cells.toArray) (by as_aux_lemma => kernel_rfl) ?_
      simp only [z_1, z_2, z_3, z_4, z_5, z_b, z_6, z_7, z_8, z_9, z_0]
      have h2 := H2.out
      refine wpList_store_mid rfl 39 _ _ rfl g2 0 ((S.none).cells).toArray rfl ?_ (h2.there _ (by have e1 := cells_length _ none_dig; have e2 := cells_length _ none_dig; rw [z_a]; omega)) (by rw [z_a, cells_length _ none_dig]; exact size38) (all_oneCell_toArray (oneS _)) ?_
      ·rfl
      simp only [z_c]
      simp only [z_1, z_2, z_3, z_4, z_5, z_b, z_6, z_7, z_8, z_9, z_0]
      have HN := y_ (h2.setAll S.none.cells rfl)
      have XN := y_ (X.out.trans_but (But.setCells g2 S.none.cells 0 wi) l2)
      generalize wi.setCells g2 0 S.none.cells = wn at *
      clear h2 H2 X
      go_wp2_with fail
      exact bodyPost_ret (results_row2 rfl _ _ g2 39 (S.none.cells).toArray (0, 0) _ rfl HN.out undS rfl (by rw [z_a, cells_length _ none_dig]; exact size38)) rfl ⟨by rw [HV.out]; rfl, XN.out⟩
     ·subst ha
      rw [len_data] at hk
      by_cases hks : k = s.size
      ·have da : ((k : Int) != (s.size : Int)) = false := by rw [hks]; simp
       have hp3 : p.2 = some [] := by rw [hp2, List.drop_of_length_le (by rw [len_data]; omega)]
       have CG := y_ (goodR_any p.1 HD wi)
       cases hg : good p.1 with
       | true =>
         have HV : Hid (parseV s.data.toList = .tuple #[.agg p.1.cells.toArray, .bool true]) := by
          show parseV _ = _
          unfold parseV parse
          rw [HR.out, if_pos ⟨hp3, hg⟩]
         rw [hg] at CG
         clear HR hp2 hp3 hg HPL
         go_upto_region 31 with (fail)
         refine wp_region_lit ?_
         repeat (first | refine wpList_ldr rfl _ _ rfl g4 rfl _ _ _ HY undS (by rw [cells_length p.1 HD]; exact size38) ?_ | go_step)
         refine (CG.out).mono ?_
         rintro e wj ⟨rfl, xj⟩
         rename_i hK
         refine hK _ _ ?_
         clear CG p0 p1 p2 p3
         have HYn := y_ (HY.out.ext xj)
         have HFn := y_ (HF.out.ext xj)
         have H2n := y_ (H2.out.ext xj)
         have Xn := y_ (X.out.trans xj)
         clear xj HY HF H2 X
         try clear wi
         have HY := HYn
         have HF := HFn
         have H2 := H2n
         have X := Xn
         clear HYn HFn H2n Xn
         generalize wj = wi at *
         go_upto_region 33 with (fail)
         refine wp_region_lit ?_
         have hyo := HY.out
         have h2 := H2.out
         refine wpList_load_row rfl 39 _ rfl g4 rfl 39 (p.1.cells).toArray (0, 0) _ hyo undS rfl (by rw [z_a, cells_length p.1 HD]; exact size38) ?_
         simp only [z_1, z_2, z_3, z_4, z_5, z_b, z_6, z_7, z_8, z_9, z_0]
         refine wpList_store_mid rfl 39 _ _ rfl g2 0 ((p.1).cells).toArray rfl ?_ (h2.there _ (by have e1 := cells_length _ HD; have e2 := cells_length _ none_dig; rw [z_a]; omega)) (by rw [z_a, cells_length _ HD]; exact size38) (all_oneCell_toArray (oneS _)) ?_
         ·rfl
         simp only [z_c]
         simp only [z_1, z_2, z_3, z_4, z_5, z_b, z_6, z_7, z_8, z_9, z_0]
         have HN := y_ (h2.setAll p.1.cells ((cells_length _ HD).trans (cells_length _ none_dig).symm))
         have XN := y_ (X.out.trans_but (But.setCells g2 p.1.cells 0 wi) l2)
         generalize wi.setCells g2 0 p.1.cells = wn at *
         clear h2 hyo H2 X HY
         go_wp2_with fail
         exact bodyPost_ret (results_row2 rfl _ _ g2 39 (p.1.cells).toArray (0, 0) _ rfl HN.out undS rfl (by rw [z_a, cells_length _ HD]; exact size38)) rfl ⟨by rw [HV.out]; rfl, XN.out⟩
       | false =>
         have HV : Hid (parseV s.data.toList = .tuple #[.agg S.none.cells.toArray, .bool false]) := by
          show parseV _ = _
          unfold parseV parse
          rw [HR.out, if_neg (by rw [hg]; simp)]
         rw [hg] at CG
         clear HR hp2 hp3 hg HPL
         go_upto_region 31 with (fail)
         refine wp_region_lit ?_
         repeat (first | refine wpList_ldr rfl _ _ rfl g4 rfl _ _ _ HY undS (by rw [cells_length p.1 HD]; exact size38) ?_ | go_step)
         refine (CG.out).mono ?_
         rintro e wj ⟨rfl, xj⟩
         rename_i hK
         refine hK _ _ ?_
         clear CG p0 p1 p2 p3
         have HYn := y_ (HY.out.ext xj)
         have HFn := y_ (HF.out.ext xj)
         have H2n := y_ (H2.out.ext xj)
         have Xn := y_ (X.out.trans xj)
         clear xj HY HF H2 X
         try clear wi
         have HY := HYn
         have HF := HFn
         have H2 := H2n
         have X := Xn
         clear HYn HFn H2n Xn
         generalize wj = wi at *
         go_upto_region 32 with (fail)
         refine wp_region_lit ?_
         refine wpList_val rfl (.agg S.none.cells.toArray) (by as_aux_lemma => kernel_rfl) ?_
         simp only [z_1, z_2, z_3, z_4, z_5, z_b, z_6, z_7, z_8, z_9, z_0]
         have h2 := H2.out
         refine wpList_store_mid rfl 39 _ _ rfl g2 0 ((S.none).cells).toArray rfl ?_ (h2.there _ (by have e1 := cells_length _ none_dig; have e2 := cells_length _ none_dig; rw [z_a]; omega)) (by rw [z_a, cells_length _ none_dig]; exact size38) (all_oneCell_toArray (oneS _)) ?_
         ·rfl
         simp only [z_c]
         simp only [z_1, z_2, z_3, z_4, z_5, z_b, z_6, z_7, z_8, z_9, z_0]
         have HN := y_ (h2.setAll S.none.cells rfl)
         have XN := y_ (X.out.trans_but (But.setCells g2 S.none.cells 0 wi) l2)
         generalize wi.setCells g2 0 S.none.cells = wn at *
         clear h2 H2 X
         go_wp2_with fail
         exact bodyPost_ret (results_row2 rfl _ _ g2 39 (S.none.cells).toArray (0, 0) _ rfl HN.out undS rfl (by rw [z_a, cells_length _ none_dig]; exact size38)) rfl ⟨by rw [HV.out]; rfl, XN.out⟩
      ·have da : ((k : Int) != (s.size : Int)) = true := by rw [bne_iff_ne]; omega
       have HV : Hid (parseV s.data.toList = .tuple #[.agg S.none.cells.toArray, .bool false]) := by
        show parseV _ = _
        unfold parseV parse
        rw [HR.out, if_neg]
        rintro ⟨h1, -⟩
        rw [hp2] at h1
        injection h1 with h1
        have := congrArg List.length h1
        rw [List.length_drop, len_data] at this
        simp at this
        omega
       clear HR hp2 HPL
       go_upto_region 32 with (fail)
       refine wp_region_lit ?_
       refine wpList_val rfl (.agg S.none.cells.toArray) (by as_aux_lemma => kernel_rfl) ?_
       simp only [z_1, z_2, z_3, z_4, z_5, z_b, z_6, z_7, z_8, z_9, z_0]
       have h2 := H2.out
       refine wpList_store_mid rfl 39 _ _ rfl g2 0 ((S.none).cells).toArray rfl ?_ (h2.there _ (by have e1 := cells_length _ none_dig; have e2 := cells_length _ none_dig; rw [z_a]; omega)) (by rw [z_a, cells_length _ none_dig]; exact size38) (all_oneCell_toArray (oneS _)) ?_
       ·rfl
       simp only [z_c]
       simp only [z_1, z_2, z_3, z_4, z_5, z_b, z_6, z_7, z_8, z_9, z_0]
       have HN := y_ (h2.setAll S.none.cells rfl)
       have XN := y_ (X.out.trans_but (But.setCells g2 S.none.cells 0 wi) l2)
       generalize wi.setCells g2 0 S.none.cells = wn at *
       clear h2 H2 X
       go_wp2_with fail
       exact bodyPost_ret (results_row2 rfl _ _ g2 39 (S.none.cells).toArray (0, 0) _ rfl HN.out undS rfl (by rw [z_a, cells_length _ none_dig]; exact size38)) rfl ⟨by rw [HV.out]; rfl, XN.out⟩
     -- N}
    ·subst ha
     rw [len_data] at hk
     have dk0 : decide ((0 : Int) ≤ (k : Int)) = true := by rw [decide_eq_true_iff]; omega
     by_cases h32 : k + 32 ≤ s.size
     ·have d32 : decide ((32 : Int) ≤ (s.size : Int) - (k : Int)) = true := by rw [decide_eq_true_iff]; omega
      -- {Y
      have hml : ((s.data.toList.drop k).take 32).length = 32 := by rw [List.length_take, List.length_drop, len_data]; omega
      have hpd : pDig p = ({ p.1 with dig := (s.data.toList.drop k).take 32 }, some (s.data.toList.drop (k + 32))) := by
       unfold pDig
       rw [hp2, take_ok (by rw [List.length_drop, len_data]; omega), if_neg (by intro e; have e2 := congrArg List.length e; simp only at e2; rw [hml] at e2; cases e2), List.drop_drop]
      have HM : Hid (∀ j (hj : j < 32), ∃ hq : k + j < s.data.toList.length, ((s.data.toList.drop k).take 32)[j]? = some (s.data.toList[k + j]'hq)) := by
       intro j hj
       have hq : k + j < s.data.toList.length := by rw [len_data]; omega
       refine ⟨hq, ?_⟩
       rw [List.getElem?_take_of_lt (by omega), List.getElem?_drop, List.getElem?_eq_getElem hq]
      have HPD := y_ hpd
      have HML := y_ hml
      generalize (s.data.toList.drop k).take 32 = m at *
      have HPK2 : Hid (Plc s.data.toList (some (s.data.toList.drop (k + 32))) ((k : Int) + 32)) := .inr ⟨k + 32, by rw [len_data]; omega, rfl, by omega⟩
      clear hpd hml HPL hp2
      go_upto_region 14 with (fail)
      clear p0 p1 p2 p3 dk0 d32
      have HY0 : Hid (Blk wi g4 39 ({ p.1 with dig := m.take 0 ++ p.1.dig.drop 0 } : S).cells) := HY.out
      go_wp2_with fail
      go_loopw [11] (fun i wr => ∃ j : Nat, j ≤ 32 ∧ i = .int .i64 (j : Int) ∧ Hid (Blk wr g4 39 ({ p.1 with dig := m.take j ++ p.1.dig.drop j } : S).cells) ∧ Hid (But g4 wi wr)) (fun i _ => 32 - (intOf i).toNat)
      case atStart => exact ⟨0, by omega, rfl, HY0, But.refl _ _⟩
      case round =>
       obtain ⟨j, hj, rfl, HYJ, HB⟩ := hrel
       clear HY0
       have hjd : (m.take j ++ p.1.dig.drop j).length = 32 := by rw [List.length_append, List.length_take, List.length_drop, HML.out, HD]; omega
       by_cases hjl : j < 32
       ·have dj : decide ((j : Int) < 32) = true := by rw [decide_eq_true_iff]; omega
        obtain ⟨hq, hmj⟩ := HM.out j hjl
        have hjm : j < m.length := by rw [HML.out]; exact hjl
        rw [List.getElem?_eq_getElem hjm] at hmj
        injection hmj with hmj
        have hix := index_any s (k + j) (by rw [len_data] at hq; exact hq)
        rw [← hmj, show ((k + j : Nat) : Int) = (k : Int) + (j : Int) by omega] at hix
        have hbl := HYJ.out.set_ (3 + j) (byteV m[j])
        rw [set_dig _ j _ (by rw [hjd]; exact hjl)] at hbl
        have hset : (m.take j ++ p.1.dig.drop j).set j m[j] = m.take (j + 1) ++ p.1.dig.drop (j + 1) := set_next m p.1.dig j hjm (by rw [HD]; exact hjl)
        simp only at hbl
        rw [hset] at hbl
        have r1 : wr.cell? ⟨g4, 3 + j, none⟩ = some (byteV ((m.take j ++ p.1.dig.drop j)[j]'(by rw [hjd]; exact hjl))) := range_dig HYJ.out j _ (by rw [List.getElem?_map, List.getElem?_eq_getElem (by rw [hjd]; exact hjl)]; rfl)
        have f1 := HYJ.out.frozen (3 + j)
        generalize byteV ((m.take j ++ p.1.dig.drop j)[j]'(by rw [hjd]; exact hjl)) = old at *
        have HBL : Hid (Blk (wr.setCell ⟨g4, 3 + j, none⟩ (.int .u8 (m[j].toNat : Int))) g4 39 ({ p.1 with dig := m.take (j + 1) ++ p.1.dig.drop (j + 1) } : S).cells) := hbl
        have HB2 : Hid (But g4 wi (wr.setCell ⟨g4, 3 + j, none⟩ (.int .u8 (m[j].toNat : Int)))) := HB.out.trans (But.set_ _ _ _ _)
        have hcl := (m[j]).toNat_lt
        clear hbl hset hq hmj HYJ HB hjd
        generalize m[j].toNat = c at *
        go_wp2_with fail
        go_roundw
        case rel => exact ⟨j + 1, by omega, by go_num, HBL, HB2⟩
        case measure => simp [intOf]; omega
       ·have hje : j = 32 := by omega
        subst hje
        have dj : decide (((32 : Nat) : Int) < 32) = false := by decide
        have HYn : Hid (Blk wr g4 39 (pDig p).1.cells) := by
         rw [HPD.out]
         have h := HYJ.out
         rw [List.take_of_length_le (by rw [HML.out]; exact Nat.le_refl _), List.drop_of_length_le (by rw [HD]; exact Nat.le_refl _), List.append_nil] at h
         exact h
        have HPLn : Hid (Plc s.data.toList (pDig p).2 ((k : Int) + 32)) := by rw [HPD.out]; exact HPK2.out
        have HDn : (pDig p).1.dig.length = 32 := pDig_len p HD
        have HFn := y_ (HF.out.but HB.out (by omega))
        have H2n := y_ (H2.out.but HB.out (by omega))
        have Xn := y_ (X.out.trans_but HB.out l4)
        clear HF H2 X HY HD HB HYJ HPK2 HPD HM HML hjd
        go_upto_region 21 with (fail)
        generalize pDig p = p at *
        generalize (k : Int) + 32 = a at HPLn ⊢
        generalize wr = wi at *
        have HY := HYn
        have HD := HDn
        have HF := HFn
        have H2 := H2n
        have X := Xn
        have HPL := HPLn
        clear HYn HDn HFn H2n Xn HPLn
        have p0 : wi.cell? ⟨g5, 0, none⟩ = some (.bool false) := HF.out.cell 0
        have p1 : wi.cell? ⟨g5, 1, none⟩ = some (.bool true) := HF.out.cell 1
        have p2 : wi.cell? ⟨g5, 2, none⟩ = some (.bool false) := HF.out.cell 2
        have p3 : wi.cell? ⟨g5, 3, none⟩ = some (.bool false) := HF.out.cell 3
        rcases HPL.out with ⟨hp2, ha⟩ | ⟨k, hk, hp2, ha⟩
        ·have HV : Hid (parseV s.data.toList = .tuple #[.agg S.none.cells.toArray, .bool false]) := by
          show parseV _ = _
          unfold parseV parse
          rw [HR.out, if_neg (by rw [hp2]; simp)]
         subst ha
         have da : ((-1 : Int) != (s.size : Int)) = true := by rw [bne_iff_ne]; omega
         clear HR hp2 HPL
         go_upto_region 32 with (fail)
         refine wp_region_lit ?_
         refine wpList_val rfl (.agg S.none.cells.toArray) (by as_aux_lemma => kernel_rfl) ?_
         simp only [z_1, z_2, z_3, z_4, z_5, z_b, z_6, z_7, z_8, z_9, z_0]
         have h2 := H2.out
         refine wpList_store_mid rfl 39 _ _ rfl g2 0 ((S.none).cells).toArray rfl ?_ (h2.there _ (by have e1 := cells_length _ none_dig; have e2 := cells_length _ none_dig; rw [z_a]; omega)) (by rw [z_a, cells_length _ none_dig]; exact size38) (all_oneCell_toArray (oneS _)) ?_
         ·rfl
         simp only [z_c]
         simp only [z_1, z_2, z_3, z_4, z_5, z_b, z_6, z_7, z_8, z_9, z_0]
         have HN := y_ (h2.setAll S.none.cells rfl)
         have XN := y_ (X.out.trans_but (But.setCells g2 S.none.cells 0 wi) l2)
         generalize wi.setCells g2 0 S.none.cells = wn at *
         clear h2 H2 X
         go_wp2_with fail
         exact bodyPost_ret (results_row2 rfl _ _ g2 39 (S.none.cells).toArray (0, 0) _ rfl HN.out undS rfl (by rw [z_a, cells_length _ none_dig]; exact size38)) rfl ⟨by rw [HV.out]; rfl, XN.out⟩
        ·subst ha
         rw [len_data] at hk
         by_cases hks : k = s.size
         ·have da : ((k : Int) != (s.size : Int)) = false := by rw [hks]; simp
          have hp3 : p.2 = some [] := by rw [hp2, List.drop_of_length_le (by rw [len_data]; omega)]
          have CG := y_ (goodR_any p.1 HD wi)
          cases hg : good p.1 with
          | true =>
            have HV : Hid (parseV s.data.toList = .tuple #[.agg p.1.cells.toArray, .bool true]) := by
             show parseV _ = _
             unfold parseV parse
             rw [HR.out, if_pos ⟨hp3, hg⟩]
            rw [hg] at CG
            clear HR hp2 hp3 hg HPL
            go_upto_region 31 with (fail)
            refine wp_region_lit ?_
            repeat (first | refine wpList_ldr rfl _ _ rfl g4 rfl _ _ _ HY undS (by rw [cells_length p.1 HD]; exact size38) ?_ | go_step)
            refine (CG.out).mono ?_
            rintro e wj ⟨rfl, xj⟩
            rename_i hK
            refine hK _ _ ?_
            clear CG p0 p1 p2 p3
            have HYn := y_ (HY.out.ext xj)
            have HFn := y_ (HF.out.ext xj)
            have H2n := y_ (H2.out.ext xj)
            have Xn := y_ (X.out.trans xj)
            clear xj HY HF H2 X
            try clear wi
            have HY := HYn
            have HF := HFn
            have H2 := H2n
            have X := Xn
            clear HYn HFn H2n Xn
            generalize wj = wi at *
            go_upto_region 33 with (fail)
            refine wp_region_lit ?_
            have hyo := HY.out
            have h2 := H2.out
            refine wpList_load_row rfl 39 _ rfl g4 rfl 39 (p.1.cells).toArray (0, 0) _ hyo undS rfl (by rw [z_a, cells_length p.1 HD]; exact size38) ?_
            simp only [z_1, z_2, z_3, z_4, z_5, z_b, z_6, z_7, z_8, z_9, z_0]
            refine wpList_store_mid rfl 39 _ _ rfl g2 0 ((p.1).cells).toArray rfl ?_ (h2.there _ (by have e1 := cells_length _ HD; have e2 := cells_length _ none_dig; rw [z_a]; omega)) (by rw [z_a, cells_length _ HD]; exact size38) (all_oneCell_toArray (oneS _)) ?_
            ·rfl
            simp only [z_c]
            simp only [z_1, z_2, z_3, z_4, z_5, z_b, z_6, z_7, z_8, z_9, z_0]
            have HN := y_ (h2.setAll p.1.cells ((cells_length _ HD).trans (cells_length _ none_dig).symm))
            have XN := y_ (X.out.trans_but (But.setCells g2 p.1.cells 0 wi) l2)
            generalize wi.setCells g2 0 p.1.cells = wn at *
            clear h2 hyo H2 X HY
            go_wp2_with fail
            exact bodyPost_ret (results_row2 rfl _ _ g2 39 (p.1.cells).toArray (0, 0) _ rfl HN.out undS rfl (by rw [z_a, cells_length _ HD]; exact size38)) rfl ⟨by rw [HV.out]; rfl, XN.out⟩
          | false =>
            have HV : Hid (parseV s.data.toList = .tuple #[.agg S.none.cells.toArray, .bool false]) := by
             show parseV _ = _
             unfold parseV parse
             rw [HR.out, if_neg (by rw [hg]; simp)]
            rw [hg] at CG
            clear HR hp2 hp3 hg HPL
            go_upto_region 31 with (fail)
            refine wp_region_lit ?_
            repeat (first | refine wpList_ldr rfl _ _ rfl g4 rfl _ _ _ HY undS (by rw [cells_length p.1 HD]; exact size38) ?_ | go_step)
            refine (CG.out).mono ?_
            rintro e wj ⟨rfl, xj⟩
            rename_i hK
            refine hK _ _ ?_
            clear CG p0 p1 p2 p3
            have HYn := y_ (HY.out.ext xj)
            have HFn := y_ (HF.out.ext xj)
            have H2n := y_ (H2.out.ext xj)
            have Xn := y_ (X.out.trans xj)
            clear xj HY HF H2 X
            try clear wi
            have HY := HYn
            have HF := HFn
            have H2 := H2n
            have X := Xn
            clear HYn HFn H2n Xn
            generalize wj = wi at *
            go_upto_region 32 with (fail)
            refine wp_region_lit ?_
            refine wpList_val rfl (.agg S.none.cells.toArray) (by as_aux_lemma => kernel_rfl) ?_
            simp only [z_1, z_2, z_3, z_4, z_5, z_b, z_6, z_7, z_8, z_9, z_0]
            have h2 := H2.out
            refine wpList_store_mid rfl 39 _ _ rfl g2 0 ((S.none).cells).toArray rfl ?_ (h2.there _ (by have e1 := cells_length _ none_dig; have e2 := cells_length _ none_dig; rw [z_a]; omega)) (by rw [z_a, cells_length _ none_dig]; exact size38) (all_oneCell_toArray (oneS _)) ?_
            ·rfl
            simp only [z_c]
            simp only [z_1, z_2, z_3, z_4, z_5, z_b, z_6, z_7, z_8, z_9, z_0]
            have HN := y_ (h2.setAll S.none.cells rfl)
            have XN := y_ (X.out.trans_but (But.setCells g2 S.none.cells 0 wi) l2)
            generalize wi.setCells g2 0 S.none.cells = wn at *
            clear h2 H2 X
            go_wp2_with fail
            exact bodyPost_ret (results_row2 rfl _ _ g2 39 (S.none.cells).toArray (0, 0) _ rfl HN.out undS rfl (by rw [z_a, cells_length _ none_dig]; exact size38)) rfl ⟨by rw [HV.out]; rfl, XN.out⟩
         ·have da : ((k : Int) != (s.size : Int)) = true := by rw [bne_iff_ne]; omega
          have HV : Hid (parseV s.data.toList = .tuple #[.agg S.none.cells.toArray, .bool false]) := by
           show parseV _ = _
           unfold parseV parse
           rw [HR.out, if_neg]
           rintro ⟨h1, -⟩
           rw [hp2] at h1
           injection h1 with h1
           have := congrArg List.length h1
           rw [List.length_drop, len_data] at this
           simp at this
           omega
          clear HR hp2 HPL
          go_upto_region 32 with (fail)
          refine wp_region_lit ?_
          refine wpList_val rfl (.agg S.none.cells.toArray) (by as_aux_lemma => kernel_rfl) ?_
          simp only [z_1, z_2, z_3, z_4, z_5, z_b, z_6, z_7, z_8, z_9, z_0]
          have h2 := H2.out
          refine wpList_store_mid rfl 39 _ _ rfl g2 0 ((S.none).cells).toArray rfl ?_ (h2.there _ (by have e1 := cells_length _ none_dig; have e2 := cells_length _ none_dig; rw [z_a]; omega)) (by rw [z_a, cells_length _ none_dig]; exact size38) (all_oneCell_toArray (oneS _)) ?_
          ·rfl
          simp only [z_c]
          simp only [z_1, z_2, z_3, z_4, z_5, z_b, z_6, z_7, z_8, z_9, z_0]
          have HN := y_ (h2.setAll S.none.cells rfl)
          have XN := y_ (X.out.trans_but (But.setCells g2 S.none.cells 0 wi) l2)
          generalize wi.setCells g2 0 S.none.cells = wn at *
          clear h2 H2 X
          go_wp2_with fail
          exact bodyPost_ret (results_row2 rfl _ _ g2 39 (S.none.cells).toArray (0, 0) _ rfl HN.out undS rfl (by rw [z_a, cells_length _ none_dig]; exact size38)) rfl ⟨by rw [HV.out]; rfl, XN.out⟩
      -- Y}
     ·have d32 : decide ((32 : Int) ≤ (s.size : Int) - (k : Int)) = false := by rw [decide_eq_false_iff_not]; omega
      have hpd : pDig p = (p.1, none) := by unfold pDig; rw [hp2, take_no (by rw [List.length_drop, len_data]; omega)]; rfl
      -- {M
      go_upto_region 21 with (fail)
      clear p0 p1 p2 p3 HPL hp2
      have HPL : Hid (Plc s.data.toList (pDig p).2 (-1)) := .inl ⟨by rw [hpd], rfl⟩
      have HYn : Hid (Blk wi g4 39 (pDig p).1.cells) := by rw [hpd]; exact HY.out
      have HDn : (pDig p).1.dig.length = 32 := pDig_len p HD
      clear HY HD hpd
      generalize pDig p = p at *
      generalize (-1 : Int) = a at HPL ⊢
      have HY := HYn
      have HD := HDn
      clear HYn HDn
      clear dk0 d32
      have p0 : wi.cell? ⟨g5, 0, none⟩ = some (.bool false) := HF.out.cell 0
      have p1 : wi.cell? ⟨g5, 1, none⟩ = some (.bool true) := HF.out.cell 1
      have p2 : wi.cell? ⟨g5, 2, none⟩ = some (.bool false) := HF.out.cell 2
      have p3 : wi.cell? ⟨g5, 3, none⟩ = some (.bool false) := HF.out.cell 3
      rcases HPL.out with ⟨hp2, ha⟩ | ⟨k, hk, hp2, ha⟩
      ·have HV : Hid (parseV s.data.toList = .tuple #[.agg S.none.cells.toArray, .bool false]) := by
        show parseV _ = _
        unfold parseV parse
        rw [HR.out, if_neg (by rw [hp2]; simp)]
       subst ha
       have da : ((-1 : Int) != (s.size : Int)) = true := by rw [bne_iff_ne]; omega
       clear HR hp2 HPL
       go_upto_region 32 with (fail)
       refine wp_region_lit ?_
       refine wpList_val rfl (.agg S.none.cells.toArray) (by as_aux_lemma => kernel_rfl) ?_
       simp only [z_1, z_2, z_3, z_4, z_5, z_b, z_6, z_7, z_8, z_9, z_0]
       have h2 := H2.out
       refine wpList_store_mid rfl 39 _ _ rfl g2 0 ((S.none).cells).toArray rfl ?_ (h2.there _ (by have e1 := cells_length _ none_dig; have e2 := cells_length _ none_dig; rw [z_a]; omega)) (by rw [z_a, cells_length _ none_dig]; exact size38) (all_oneCell_toArray (oneS _)) ?_
       ·rfl
       simp only [z_c]
       simp only [z_1, z_2, z_3, z_4, z_5, z_b, z_6, z_7, z_8, z_9, z_0]
       have HN := y_ (h2.setAll S.none.cells rfl)
       have XN := y_ (X.out.trans_but (But.setCells g2 S.none.cells 0 wi) l2)
       generalize wi.setCells g2 0 S.none.cells = wn at *
       clear h2 H2 X
       go_wp2_with fail
       exact bodyPost_ret (results_row2 rfl _ _ g2 39 (S.none.cells).toArray (0, 0) _ rfl HN.out undS rfl (by rw [z_a, cells_length _ none_dig]; exact size38)) rfl ⟨by rw [HV.out]; rfl, XN.out⟩
      ·subst ha
       rw [len_data] at hk
       by_cases hks : k = s.size
       ·have da : ((k : Int) != (s.size : Int)) = false := by rw [hks]; simp
        have hp3 : p.2 = some [] := by rw [hp2, List.drop_of_length_le (by rw [len_data]; omega)]
        have CG := y_ (goodR_any p.1 HD wi)
        cases hg : good p.1 with
        | true =>
          have HV : Hid (parseV s.data.toList = .tuple #[.agg p.1.cells.toArray, .bool true]) := by
           show parseV _ = _
           unfold parseV parse
           rw [HR.out, if_pos ⟨hp3, hg⟩]
          rw [hg] at CG
          clear HR hp2 hp3 hg HPL
          go_upto_region 31 with (fail)
          refine wp_region_lit ?_
          repeat (first | refine wpList_ldr rfl _ _ rfl g4 rfl _ _ _ HY undS (by rw [cells_length p.1 HD]; exact size38) ?_ | go_step)
          refine (CG.out).mono ?_
          rintro e wj ⟨rfl, xj⟩
          rename_i hK
          refine hK _ _ ?_
          clear CG p0 p1 p2 p3
          have HYn := y_ (HY.out.ext xj)
          have HFn := y_ (HF.out.ext xj)
          have H2n := y_ (H2.out.ext xj)
          have Xn := y_ (X.out.trans xj)
          clear xj HY HF H2 X
          try clear wi
          have HY := HYn
          have HF := HFn
          have H2 := H2n
          have X := Xn
          clear HYn HFn H2n Xn
          generalize wj = wi at *
          go_upto_region 33 with (fail)
          refine wp_region_lit ?_
          have hyo := HY.out
          have h2 := H2.out
          refine wpList_load_row rfl 39 _ rfl g4 rfl 39 (p.1.cells).toArray (0, 0) _ hyo undS rfl (by rw [z_a, cells_length p.1 HD]; exact size38) ?_
          simp only [z_1, z_2, z_3, z_4, z_5, z_b, z_6, z_7, z_8, z_9, z_0]
          refine wpList_store_mid rfl 39 _ _ rfl g2 0 ((p.1).cells).toArray rfl ?_ (h2.there _ (by have e1 := cells_length _ HD; have e2 := cells_length _ none_dig; rw [z_a]; omega)) (by rw [z_a, cells_length _ HD]; exact size38) (all_oneCell_toArray (oneS _)) ?_
          ·rfl
          simp only [z_c]
          simp only [z_1, z_2, z_3, z_4, z_5, z_b, z_6, z_7, z_8, z_9, z_0]
          have HN := y_ (h2.setAll p.1.cells ((cells_length _ HD).trans (cells_length _ none_dig).symm))
          have XN := y_ (X.out.trans_but (But.setCells g2 p.1.cells 0 wi) l2)
          generalize wi.setCells g2 0 p.1.cells = wn at *
          clear h2 hyo H2 X HY
          go_wp2_with fail
          exact bodyPost_ret (results_row2 rfl _ _ g2 39 (p.1.cells).toArray (0, 0) _ rfl HN.out undS rfl (by rw [z_a, cells_length _ HD]; exact size38)) rfl ⟨by rw [HV.out]; rfl, XN.out⟩
        | false =>
          have HV : Hid (parseV s.data.toList = .tuple #[.agg S.none.cells.toArray, .bool false]) := by
           show parseV _ = _
           unfold parseV parse
           rw [HR.out, if_neg (by rw [hg]; simp)]
          rw [hg] at CG
          clear HR hp2 hp3 hg HPL
          go_upto_region 31 with (fail)
          refine wp_region_lit ?_
          repeat (first | refine wpList_ldr rfl _ _ rfl g4 rfl _ _ _ HY undS (by rw [cells_length p.1 HD]; exact size38) ?_ | go_step)
          refine (CG.out).mono ?_
          rintro e wj ⟨rfl, xj⟩
          rename_i hK
          refine hK _ _ ?_
          clear CG p0 p1 p2 p3
          have HYn := y_ (HY.out.ext xj)
          have HFn := y_ (HF.out.ext xj)
          have H2n := y_ (H2.out.ext xj)
          have Xn := y_ (X.out.trans xj)
          clear xj HY HF H2 X
          try clear wi
          have HY := HYn
          have HF := HFn
          have H2 := H2n
          have X := Xn
          clear HYn HFn H2n Xn
          generalize wj = wi at *
          go_upto_region 32 with (fail)
          refine wp_region_lit ?_
          refine wpList_val rfl (.agg S.none.cells.toArray) (by as_aux_lemma => kernel_rfl) ?_
          simp only [z_1, z_2, z_3, z_4, z_5, z_b, z_6, z_7, z_8, z_9, z_0]
          have h2 := H2.out
          refine wpList_store_mid rfl 39 _ _ rfl g2 0 ((S.none).cells).toArray rfl ?_ (h2.there _ (by have e1 := cells_length _ none_dig; have e2 := cells_length _ none_dig; rw [z_a]; omega)) (by rw [z_a, cells_length _ none_dig]; exact size38) (all_oneCell_toArray (oneS _)) ?_
          ·rfl
          simp only [z_c]
          simp only [z_1, z_2, z_3, z_4, z_5, z_b, z_6, z_7, z_8, z_9, z_0]
          have HN := y_ (h2.setAll S.none.cells rfl)
          have XN := y_ (X.out.trans_but (But.setCells g2 S.none.cells 0 wi) l2)
          generalize wi.setCells g2 0 S.none.cells = wn at *
          clear h2 H2 X
          go_wp2_with fail
          exact bodyPost_ret (results_row2 rfl _ _ g2 39 (S.none.cells).toArray (0, 0) _ rfl HN.out undS rfl (by rw [z_a, cells_length _ none_dig]; exact size38)) rfl ⟨by rw [HV.out]; rfl, XN.out⟩
       ·have da : ((k : Int) != (s.size : Int)) = true := by rw [bne_iff_ne]; omega
        have HV : Hid (parseV s.data.toList = .tuple #[.agg S.none.cells.toArray, .bool false]) := by
         show parseV _ = _
         unfold parseV parse
         rw [HR.out, if_neg]
         rintro ⟨h1, -⟩
         rw [hp2] at h1
         injection h1 with h1
         have := congrArg List.length h1
         rw [List.length_drop, len_data] at this
         simp at this
         omega
        clear HR hp2 HPL
        go_upto_region 32 with (fail)
        refine wp_region_lit ?_
        refine wpList_val rfl (.agg S.none.cells.toArray) (by as_aux_lemma => kernel_rfl) ?_
        simp only [z_1, z_2, z_3, z_4, z_5, z_b, z_6, z_7, z_8, z_9, z_0]
        have h2 := H2.out
        refine wpList_store_mid rfl 39 _ _ rfl g2 0 ((S.none).cells).toArray rfl ?_ (h2.there _ (by have e1 := cells_length _ none_dig; have e2 := cells_length _ none_dig; rw [z_a]; omega)) (by rw [z_a, cells_length _ none_dig]; exact size38) (all_oneCell_toArray (oneS _)) ?_
        ·rfl
        simp only [z_c]
        simp only [z_1, z_2, z_3, z_4, z_5, z_b, z_6, z_7, z_8, z_9, z_0]
        have HN := y_ (h2.setAll S.none.cells rfl)
        have XN := y_ (X.out.trans_but (But.setCells g2 S.none.cells 0 wi) l2)
        generalize wi.setCells g2 0 S.none.cells = wn at *
        clear h2 H2 X
        go_wp2_with fail
        exact bodyPost_ret (results_row2 rfl _ _ g2 39 (S.none.cells).toArray (0, 0) _ rfl HN.out undS rfl (by rw [z_a, cells_length _ none_dig]; exact size38)) rfl ⟨by rw [HV.out]; rfl, XN.out⟩
      -- M}
    -- E}
end Slp
end Go.Proofs.YtafeealbdpmdkaaGreatDoor
/- The walk of the reference's Read. -/
namespace Go.Proofs.YtafeealbdpmdkaaGreatDoor
open Go.RowKit
namespace Slp
set_option maxRecDepth 100000 in
set_option maxHeartbeats 4000000 in
theorem readR_any (s : ByteArray) (w : World) (hs : s.size ≤ 1048576) :
  Calls Tryz.prog 67 #[.string s] w fun e w' => e = .returned (readV s.data.toList) ∧ Reg.Ext w w' := by
 have hlen := len_data s
 go_enter Tryz.func67, Tryz.ntmps67
 go_upto_region 1 with (fail)
 rw [z38]
 have hb2 := boxS w S.none
 have hx2 := Reg.Ext.alloc w (Obj.cells S.none.cells.toArray 39)
 generalize w.alloc (Obj.cells S.none.cells.toArray 39) = wi at *
 generalize hg2 : w.heap.size = g2 at *
 have H2 := y_ hb2
 have X := y_ hx2
 have l2 : w.heap.size ≤ g2 := by omega
 clear hb2 hx2
 by_cases h6 : s.size < 6
 ·have d6 : decide ((s.size : Int) < 6) = true := by rw [decide_eq_true_iff]; omega
  have HV : Hid (readV s.data.toList = .tuple #[.agg S.none.cells.toArray, .int .i64 0, .int .i64 17]) := by
   show readV _ = _
   unfold readV readP
   rw [if_pos (by omega)]
   rfl
  clear hlen h6
  -- {A
  go_upto_region 2 with (fail)
  refine wp_region_lit ?_
  refine wpList_val rfl (.agg S.none.cells.toArray) (by as_aux_lemma => kernel_rfl) ?_
  simp only [z_1, z_2, z_3, z_4, z_5, z_b, z_6, z_7, z_8, z_9, z_0]
  have h2 := H2.out
  refine wpList_store_mid rfl 39 _ _ rfl g2 0 ((S.none).cells).toArray rfl ?_ (h2.there _ (by have e1 := cells_length _ none_dig; have e2 := cells_length _ none_dig; rw [z_a]; omega)) (by rw [z_a, cells_length _ none_dig]; exact size38) (all_oneCell_toArray (oneS _)) ?_
  ·rfl
  simp only [z_c]
  simp only [z_1, z_2, z_3, z_4, z_5, z_b, z_6, z_7, z_8, z_9, z_0]
  have HN := y_ (h2.setAll S.none.cells rfl)
  have XN := y_ (X.out.trans_but (But.setCells g2 S.none.cells 0 wi) l2)
  generalize wi.setCells g2 0 S.none.cells = wn at *
  clear h2 H2 X
  go_wp2_with fail
  exact bodyPost_ret (results_row3 rfl _ _ g2 39 (S.none.cells).toArray (0, 0) _ rfl HN.out undS rfl (by rw [z_a, cells_length _ none_dig]; exact size38)) rfl ⟨by rw [HV.out]; rfl, XN.out⟩
  -- A}
 have d6 : decide ((s.size : Int) < 6) = false := by rw [decide_eq_false_iff_not]; omega
 have hh := hd_two s (by omega)
 have h0 : 0 < s.size := by omega
 have h1 : 1 < s.size := by omega
 have ha := (s[0]'(by omega)).toNat_lt
 have hb := (s[1]'(by omega)).toNat_lt
 obtain ⟨a, hav⟩ : ∃ a : Nat, a = (s[0]'(by omega)).toNat := ⟨_, rfl⟩
 obtain ⟨b, hbv⟩ : ∃ b : Nat, b = (s[1]'(by omega)).toNat := ⟨_, rfl⟩
 have i0 : ∀ W, (Instr.index 9 (.string s) (.int .i64 0)).run Tryz.prog W = .ok (.int .u8 (a : Int)) W := by
  intro W
  rw [run_index_string (P := Tryz.prog) W _ _ _ _ Tryz.underlying9, dif_pos ⟨by decide, by omega⟩, hav]
  rfl
 have i1 : ∀ W, (Instr.index 9 (.string s) (.int .i64 1)).run Tryz.prog W = .ok (.int .u8 (b : Int)) W := by
  intro W
  rw [run_index_string (P := Tryz.prog) W _ _ _ _ Tryz.underlying9, dif_pos ⟨by decide, by omega⟩, hbv]
  rfl
 rw [← hav] at ha hh
 rw [← hbv] at hb hh
 have hor := or_low16 a b ha hb
 obtain ⟨n, hn⟩ : ∃ n : Nat, n = a * 256 + b := ⟨_, rfl⟩
 have hn2 : n ≤ 65535 := by omega
 rw [← hn] at hh hor
 clear hav hbv h0 h1
 have HH := y_ hh
 clear hh hn
 go_upto_region 3 with (fail)
 go_quiet (fail)
 clear hor i0 i1 ha hb d6
 have H2n := y_ (H2.out.drewN nq)
 have Xn := y_ (X.out.trans (Reg.Ext.drewN wi nq))
 generalize wi.drewN nq = wj at *
 clear H2 X
 have H2 := H2n
 have X := Xn
 clear H2n Xn
 clear wi
 generalize wj = wi at *
 by_cases hz : n = 0
 ·have HV : Hid (readV s.data.toList = .tuple #[.agg S.none.cells.toArray, .int .i64 0, .int .i64 3]) := by
   show readV _ = _
   unfold readV readP
   rw [if_neg (by omega), if_pos (.inl (HH.out.trans hz))]
   rfl
  have dz : ((n : Int) == 0) = true := by rw [beq_iff_eq]; omega
  clear HH hlen hz
  -- {B
  go_upto_region 5 with (fail)
  refine wp_region_lit ?_
  refine wpList_val rfl (.agg S.none.cells.toArray) (by as_aux_lemma => kernel_rfl) ?_
  simp only [z_1, z_2, z_3, z_4, z_5, z_b, z_6, z_7, z_8, z_9, z_0]
  have h2 := H2.out
  refine wpList_store_mid rfl 39 _ _ rfl g2 0 ((S.none).cells).toArray rfl ?_ (h2.there _ (by have e1 := cells_length _ none_dig; have e2 := cells_length _ none_dig; rw [z_a]; omega)) (by rw [z_a, cells_length _ none_dig]; exact size38) (all_oneCell_toArray (oneS _)) ?_
  ·rfl
  simp only [z_c]
  simp only [z_1, z_2, z_3, z_4, z_5, z_b, z_6, z_7, z_8, z_9, z_0]
  have HN := y_ (h2.setAll S.none.cells rfl)
  have XN := y_ (X.out.trans_but (But.setCells g2 S.none.cells 0 wi) l2)
  generalize wi.setCells g2 0 S.none.cells = wn at *
  clear h2 H2 X
  go_wp2_with fail
  exact bodyPost_ret (results_row3 rfl _ _ g2 39 (S.none.cells).toArray (0, 0) _ rfl HN.out undS rfl (by rw [z_a, cells_length _ none_dig]; exact size38)) rfl ⟨by rw [HV.out]; rfl, XN.out⟩
  -- B}
 have dz : ((n : Int) == 0) = false := by rw [Bool.eq_false_iff, ne_eq, beq_iff_eq]; omega
 by_cases hg : 1024 < n
 ·have HV : Hid (readV s.data.toList = .tuple #[.agg S.none.cells.toArray, .int .i64 0, .int .i64 3]) := by
   show readV _ = _
   unfold readV readP
   rw [if_neg (by omega), if_pos (.inr (by rw [HH.out]; exact hg))]
   rfl
  have dg : decide ((1024 : Int) < (n : Int)) = true := by rw [decide_eq_true_iff]; omega
  clear HH hlen hz hg
  -- {C
  go_upto_region 5 with (fail)
  refine wp_region_lit ?_
  refine wpList_val rfl (.agg S.none.cells.toArray) (by as_aux_lemma => kernel_rfl) ?_
  simp only [z_1, z_2, z_3, z_4, z_5, z_b, z_6, z_7, z_8, z_9, z_0]
  have h2 := H2.out
  refine wpList_store_mid rfl 39 _ _ rfl g2 0 ((S.none).cells).toArray rfl ?_ (h2.there _ (by have e1 := cells_length _ none_dig; have e2 := cells_length _ none_dig; rw [z_a]; omega)) (by rw [z_a, cells_length _ none_dig]; exact size38) (all_oneCell_toArray (oneS _)) ?_
  ·rfl
  simp only [z_c]
  simp only [z_1, z_2, z_3, z_4, z_5, z_b, z_6, z_7, z_8, z_9, z_0]
  have HN := y_ (h2.setAll S.none.cells rfl)
  have XN := y_ (X.out.trans_but (But.setCells g2 S.none.cells 0 wi) l2)
  generalize wi.setCells g2 0 S.none.cells = wn at *
  clear h2 H2 X
  go_wp2_with fail
  exact bodyPost_ret (results_row3 rfl _ _ g2 39 (S.none.cells).toArray (0, 0) _ rfl HN.out undS rfl (by rw [z_a, cells_length _ none_dig]; exact size38)) rfl ⟨by rw [HV.out]; rfl, XN.out⟩
  -- C}
 have dg : decide ((1024 : Int) < (n : Int)) = false := by rw [decide_eq_false_iff_not]; omega
 by_cases hsh : s.size < 6 + n
 ·have HV : Hid (readV s.data.toList = .tuple #[.agg S.none.cells.toArray, .int .i64 0, .int .i64 17]) := by
   show readV _ = _
   unfold readV readP
   rw [if_neg (by omega), HH.out, if_neg (by omega), if_pos (by omega)]
   rfl
  have ds : decide ((s.size : Int) - 6 < (n : Int)) = true := by rw [decide_eq_true_iff]; omega
  clear HH hlen hz hg hsh
  -- {D
  go_upto_region 7 with (fail)
  refine wp_region_lit ?_
  refine wpList_val rfl (.agg S.none.cells.toArray) (by as_aux_lemma => kernel_rfl) ?_
  simp only [z_1, z_2, z_3, z_4, z_5, z_b, z_6, z_7, z_8, z_9, z_0]
  have h2 := H2.out
  refine wpList_store_mid rfl 39 _ _ rfl g2 0 ((S.none).cells).toArray rfl ?_ (h2.there _ (by have e1 := cells_length _ none_dig; have e2 := cells_length _ none_dig; rw [z_a]; omega)) (by rw [z_a, cells_length _ none_dig]; exact size38) (all_oneCell_toArray (oneS _)) ?_
  ·rfl
  simp only [z_c]
  simp only [z_1, z_2, z_3, z_4, z_5, z_b, z_6, z_7, z_8, z_9, z_0]
  have HN := y_ (h2.setAll S.none.cells rfl)
  have XN := y_ (X.out.trans_but (But.setCells g2 S.none.cells 0 wi) l2)
  generalize wi.setCells g2 0 S.none.cells = wn at *
  clear h2 H2 X
  go_wp2_with fail
  exact bodyPost_ret (results_row3 rfl _ _ g2 39 (S.none.cells).toArray (0, 0) _ rfl HN.out undS rfl (by rw [z_a, cells_length _ none_dig]; exact size38)) rfl ⟨by rw [HV.out]; rfl, XN.out⟩
  -- D}
 have ds : decide ((s.size : Int) - 6 < (n : Int)) = false := by rw [decide_eq_false_iff_not]; omega
 have hle : 6 + n ≤ s.size := by omega
 have hnb : n ≤ 1024 := by omega
 obtain ⟨R, hR⟩ : ∃ R, R = s.extract 0 (6 + n) := ⟨_, rfl⟩
 have hRl : R.data.toList = s.data.toList.take (6 + n) := by rw [hR, ext_to]
 obtain ⟨B, hB⟩ : ∃ B, B = s.extract 6 (6 + n) := ⟨_, rfl⟩
 have hBl : B.data.toList = (s.data.toList.drop 6).take n := by
  rw [hB, ext_data]
  congr 1
  omega
 have hBs : B.size = n := by rw [hB, ByteArray.size_extract]; omega
 have HV : Hid (readV s.data.toList = if frame B.data.toList ≠ R.data.toList then .tuple #[.agg S.none.cells.toArray, .int .i64 0, .int .i64 5] else match parse B.data.toList with | none => .tuple #[.agg S.none.cells.toArray, .int .i64 0, .int .i64 3] | some x => .tuple #[.agg x.cells.toArray, .int .i64 ((6 + n : Nat) : Int), .int .i64 0]) := by
  show readV _ = _
  unfold readV readP
  rw [if_neg (by omega), HH.out, if_neg (by omega), if_neg (by omega), hRl, hBl]
  by_cases hq : frame ((s.data.toList.drop 6).take n) ≠ s.data.toList.take (6 + n)
  ·rw [if_pos hq, if_pos hq]; rfl
  ·rw [if_neg hq, if_neg hq]
   cases parse ((s.data.toList.drop 6).take n) <;> rfl
 have hFl : (⟨(frame B.data.toList).toArray⟩ : ByteArray).data.toList = frame B.data.toList := lst _
 have CF := y_ (fun w => framedR_any B w (by omega))
 have CP := y_ (fun w => parseR_any B w (by omega))
 have hR2 := hR
 have hB2 := hB
 clear HH hlen hsh hz hg hBl hBs hRl hR hB
 go_upto_region 9 with (fail)
 rw [← hB2]
 clear hB2
 obtain ⟨F, hF⟩ : ∃ F : ByteArray, F = ⟨(frame B.data.toList).toArray⟩ := ⟨_, rfl⟩
 rw [← hF] at hFl CF
 have HFL := y_ hFl
 clear hFl hF dz dg ds
 have hsl : ∀ W, (Instr.sliceAt 9 (.string s) none (some (.int .i64 (6 + (n : Int)))) none).run Tryz.prog W = .ok (.string R) W := fun W => by
  have h := run_slice_string_h (P := Tryz.prog) W 9 s Tryz.underlying9 .i64 (6 + (n : Int)) (by omega) (by omega)
  rw [hR2, show 6 + n = (6 + (n : Int)).toNat by omega]
  exact h
 clear hR2
 by_cases hq : frame B.data.toList = R.data.toList
 ·have dq : (F.toList == R.toList) = true := by
   rw [ByteArray.toList_eq, ByteArray.toList_eq, HFL.out, beq_iff_eq]
   exact hq
  rw [if_neg (by simp [hq])] at HV
  clear hq HFL
  apply Reg.wp_tab Reg.Ext (by kernel_rfl) (by kernel_rfl) Reg.Ext.refl (fun _ _ _ => Reg.Ext.trans) (Reg.Ext.drew _)
  case' h => intro O
  repeat (first
   | (apply Reg.TW.move_ Reg.Ext.refl _ rfl rfl
      ·simp only [z_1, z_2, z_3, z_4, z_5, z_b, z_6, z_7, z_8, z_9, z_0]
       rfl)
   | (apply Reg.TW.assign_ Reg.Ext.refl _ rfl rfl
      ·simp only [z_1, z_2, z_3, z_4, z_5, z_b, z_6, z_7, z_8, z_9, z_0]
       rfl)
   | (apply Reg.TW.skip_ rfl
      ·simp only [z_1, z_2, z_3, z_4, z_5, z_b, z_6, z_7, z_8, z_9, z_0]
       rfl)
   | (apply Reg.TW.pure_ rfl
      ·intro w1 hw1 hf K hK
       simp only [z_1, z_3, z_4, z_5] at hK
       have HK := y_ hK
       clear hf hK
       unfold Reg.One; dsimp only
       go_wp2_with fail
       exact HK.out _ (Reg.Ext.refl _)
      ·simp only [z_1, z_2, z_3, z_4, z_5, z_b, z_6, z_7, z_8, z_9, z_0]
       rfl))
  apply Reg.TW.call_ (c := .string F) (fun _ => True) rfl (fun _ _ _ h => h)
  ·intro w1 hw1 hf K hK
   simp only [z_1, z_3, z_4, z_5] at hK
   have HK := y_ hK
   clear hK
   unfold Reg.One; dsimp only
   go_wp2_with fail
   refine (CF.out _).mono ?_
   rintro e w' ⟨rfl, hx⟩
   go_wp2_with fail
   exact HK.out _ hx trivial
  ·simp only [z_1, z_2, z_3, z_4, z_5, z_b, z_6, z_7, z_8, z_9, z_0]
   rfl
  repeat (first
   | (apply Reg.TW.move_ Reg.Ext.refl _ rfl rfl
      ·simp only [z_1, z_2, z_3, z_4, z_5, z_b, z_6, z_7, z_8, z_9, z_0]
       rfl)
   | (apply Reg.TW.assign_ Reg.Ext.refl _ rfl rfl
      ·simp only [z_1, z_2, z_3, z_4, z_5, z_b, z_6, z_7, z_8, z_9, z_0]
       rfl)
   | (apply Reg.TW.skip_ rfl
      ·simp only [z_1, z_2, z_3, z_4, z_5, z_b, z_6, z_7, z_8, z_9, z_0]
       rfl)
   | (apply Reg.TW.pure_ rfl
      ·intro w1 hw1 hf K hK
       simp only [z_1, z_3, z_4, z_5] at hK
       have HK := y_ hK
       clear hf hK
       unfold Reg.One; dsimp only
       go_wp2_with fail
       exact HK.out _ (Reg.Ext.refl _)
      ·simp only [z_1, z_2, z_3, z_4, z_5, z_b, z_6, z_7, z_8, z_9, z_0]
       rfl))
  refine Reg.TW.nil_ ?_
  intro wj xj _
  have H2n := y_ (H2.out.ext xj)
  have Xn := y_ (X.out.trans xj)
  clear H2 X CF xj hsl
  have H2 := H2n
  have X := Xn
  clear H2n Xn
  try clear wi
  generalize wj = wi at *
  cases hp : parse B.data.toList with
  | none =>
    have hpv : parseV B.data.toList = .tuple #[.agg S.none.cells.toArray, .bool false] := by unfold parseV; rw [hp]
    rw [hp] at HV
    rw [hpv] at CP
    clear hp hpv
    have hx : S.none.dig.length = 32 := none_dig
    go_upto_region 11 with (fail)
    go_wp2_with fail
    refine (CP.out _).mono ?_
    rintro e wj ⟨rfl, xj⟩
    rename_i hK
    refine hK _ _ ?_
    have H2n := y_ (H2.out.ext xj)
    have Xn := y_ (X.out.trans xj)
    clear H2 X CP xj
    have H2 := H2n
    have X := Xn
    clear H2n Xn
    try clear wi
    iterate 12 go_step
    rw [z38]
    have hb8 := boxS wj S.none
    have hx8 := Reg.Ext.alloc wj (Obj.cells S.none.cells.toArray 39)
    have hs8 := H2.out.lt
    have hsx := X.out.size
    generalize wj.alloc (Obj.cells S.none.cells.toArray 39) = w8 at *
    generalize wj.heap.size = g8 at *
    refine wpList_store_mid rfl 39 _ _ rfl g8 0 ((S.none).cells).toArray rfl ?_ (hb8.there _ (by have e1 := cells_length _ hx; have e2 := cells_length _ none_dig; rw [z_a]; omega)) (by rw [z_a, cells_length _ hx]; exact size38) (all_oneCell_toArray (oneS _)) ?_
    ·rfl
    simp only [z_c]
    simp only [z_1, z_2, z_3, z_4, z_5, z_b, z_6, z_7, z_8, z_9, z_0]
    have hbx := But.setCells g8 (S.none).cells 0 w8
    have H8 := y_ (hb8.setAll (S.none).cells ((cells_length _ hx).trans (cells_length _ none_dig).symm))
    have H2n := y_ ((H2.out.ext hx8).but hbx (by omega))
    have Xn := y_ ((X.out.trans hx8).trans_but hbx hsx)
    clear H2 X hb8 hx8 hbx
    have H2 := H2n
    have X := Xn
    clear H2n Xn
    generalize w8.setCells g8 0 (S.none).cells = wi at *
    clear wj
    go_upto_region 13 with (fail)
    refine wp_region_lit ?_
    have h8 := H8.out
    have h2 := H2.out
    refine wpList_load_row rfl 39 _ rfl g8 rfl 39 (S.none.cells).toArray (0, 0) _ h8 undS rfl (by rw [z_a, cells_length _ none_dig]; exact size38) ?_
    simp only [z_1, z_2, z_3, z_4, z_5, z_b, z_6, z_7, z_8, z_9, z_0]
    refine wpList_store_mid rfl 39 _ _ rfl g2 0 ((S.none).cells).toArray rfl ?_ (h2.there _ (by have e1 := cells_length _ none_dig; have e2 := cells_length _ none_dig; rw [z_a]; omega)) (by rw [z_a, cells_length _ none_dig]; exact size38) (all_oneCell_toArray (oneS _)) ?_
    ·rfl
    simp only [z_c]
    simp only [z_1, z_2, z_3, z_4, z_5, z_b, z_6, z_7, z_8, z_9, z_0]
    have HN := y_ (h2.setAll S.none.cells rfl)
    have XN := y_ (X.out.trans_but (But.setCells g2 S.none.cells 0 wi) l2)
    generalize wi.setCells g2 0 S.none.cells = wn at *
    clear h2 h8 H2 X H8
    go_wp2_with fail
    exact bodyPost_ret (results_row3 rfl _ _ g2 39 (S.none.cells).toArray (0, 0) _ rfl HN.out undS rfl (by rw [z_a, cells_length _ none_dig]; exact size38)) rfl ⟨by rw [HV.out]; rfl, XN.out⟩
  | some x =>
    have hpv : parseV B.data.toList = .tuple #[.agg x.cells.toArray, .bool true] := by unfold parseV; rw [hp]
    have hx := (parse_dig hp).1
    rw [hp] at HV
    rw [hpv] at CP
    clear hp hpv
    go_upto_region 11 with (fail)
    go_wp2_with fail
    refine (CP.out _).mono ?_
    rintro e wj ⟨rfl, xj⟩
    rename_i hK
    refine hK _ _ ?_
    have H2n := y_ (H2.out.ext xj)
    have Xn := y_ (X.out.trans xj)
    clear H2 X CP xj
    have H2 := H2n
    have X := Xn
    clear H2n Xn
    try clear wi
    iterate 12 go_step
    rw [z38]
    have hb8 := boxS wj S.none
    have hx8 := Reg.Ext.alloc wj (Obj.cells S.none.cells.toArray 39)
    have hs8 := H2.out.lt
    have hsx := X.out.size
    generalize wj.alloc (Obj.cells S.none.cells.toArray 39) = w8 at *
    generalize wj.heap.size = g8 at *
    refine wpList_store_mid rfl 39 _ _ rfl g8 0 ((x).cells).toArray rfl ?_ (hb8.there _ (by have e1 := cells_length _ hx; have e2 := cells_length _ none_dig; rw [z_a]; omega)) (by rw [z_a, cells_length _ hx]; exact size38) (all_oneCell_toArray (oneS _)) ?_
    ·rfl
    simp only [z_c]
    simp only [z_1, z_2, z_3, z_4, z_5, z_b, z_6, z_7, z_8, z_9, z_0]
    have hbx := But.setCells g8 (x).cells 0 w8
    have H8 := y_ (hb8.setAll (x).cells ((cells_length _ hx).trans (cells_length _ none_dig).symm))
    have H2n := y_ ((H2.out.ext hx8).but hbx (by omega))
    have Xn := y_ ((X.out.trans hx8).trans_but hbx hsx)
    clear H2 X hb8 hx8 hbx
    have H2 := H2n
    have X := Xn
    clear H2n Xn
    generalize w8.setCells g8 0 (x).cells = wi at *
    clear wj
    go_upto_region 14 with (fail)
    refine wp_region_lit ?_
    have h8 := H8.out
    have h2 := H2.out
    refine wpList_load_row rfl 39 _ rfl g8 rfl 39 (x.cells).toArray (0, 0) _ h8 undS rfl (by rw [z_a, cells_length x hx]; exact size38) ?_
    simp only [z_1, z_2, z_3, z_4, z_5, z_b, z_6, z_7, z_8, z_9, z_0]
    iterate 6 go_step
    refine wpList_store_mid rfl 39 _ _ rfl g2 0 ((x).cells).toArray rfl ?_ (h2.there _ (by have e1 := cells_length _ hx; have e2 := cells_length _ none_dig; rw [z_a]; omega)) (by rw [z_a, cells_length _ hx]; exact size38) (all_oneCell_toArray (oneS _)) ?_
    ·rfl
    simp only [z_c]
    simp only [z_1, z_2, z_3, z_4, z_5, z_b, z_6, z_7, z_8, z_9, z_0]
    have HN := y_ (h2.setAll x.cells ((cells_length _ hx).trans (cells_length _ none_dig).symm))
    have XN := y_ (X.out.trans_but (But.setCells g2 x.cells 0 wi) l2)
    generalize wi.setCells g2 0 x.cells = wn at *
    clear h2 h8 H2 X H8
    go_wp2_with fail
    exact bodyPost_ret (results_row3 rfl _ _ g2 39 (x.cells).toArray (0, 0) _ rfl HN.out undS rfl (by rw [z_a, cells_length _ hx]; exact size38)) rfl ⟨by rw [HV.out]; (first | rfl | simp), XN.out⟩
  all_goals rfl
 ·have dq : (F.toList == R.toList) = false := by
   rw [ByteArray.toList_eq, ByteArray.toList_eq, HFL.out, Bool.eq_false_iff, ne_eq, beq_iff_eq]
   exact hq
  rw [if_pos hq] at HV
  clear hq HFL CP
  apply Reg.wp_tab Reg.Ext (by kernel_rfl) (by kernel_rfl) Reg.Ext.refl (fun _ _ _ => Reg.Ext.trans) (Reg.Ext.drew _)
  case' h => intro O
  repeat (first
   | (apply Reg.TW.move_ Reg.Ext.refl _ rfl rfl
      ·simp only [z_1, z_2, z_3, z_4, z_5, z_b, z_6, z_7, z_8, z_9, z_0]
       rfl)
   | (apply Reg.TW.assign_ Reg.Ext.refl _ rfl rfl
      ·simp only [z_1, z_2, z_3, z_4, z_5, z_b, z_6, z_7, z_8, z_9, z_0]
       rfl)
   | (apply Reg.TW.skip_ rfl
      ·simp only [z_1, z_2, z_3, z_4, z_5, z_b, z_6, z_7, z_8, z_9, z_0]
       rfl)
   | (apply Reg.TW.pure_ rfl
      ·intro w1 hw1 hf K hK
       simp only [z_1, z_3, z_4, z_5] at hK
       have HK := y_ hK
       clear hf hK
       unfold Reg.One; dsimp only
       go_wp2_with fail
       exact HK.out _ (Reg.Ext.refl _)
      ·simp only [z_1, z_2, z_3, z_4, z_5, z_b, z_6, z_7, z_8, z_9, z_0]
       rfl))
  apply Reg.TW.call_ (c := .string F) (fun _ => True) rfl (fun _ _ _ h => h)
  ·intro w1 hw1 hf K hK
   simp only [z_1, z_3, z_4, z_5] at hK
   have HK := y_ hK
   clear hK
   unfold Reg.One; dsimp only
   go_wp2_with fail
   refine (CF.out _).mono ?_
   rintro e w' ⟨rfl, hx⟩
   go_wp2_with fail
   exact HK.out _ hx trivial
  ·simp only [z_1, z_2, z_3, z_4, z_5, z_b, z_6, z_7, z_8, z_9, z_0]
   rfl
  repeat (first
   | (apply Reg.TW.move_ Reg.Ext.refl _ rfl rfl
      ·simp only [z_1, z_2, z_3, z_4, z_5, z_b, z_6, z_7, z_8, z_9, z_0]
       rfl)
   | (apply Reg.TW.assign_ Reg.Ext.refl _ rfl rfl
      ·simp only [z_1, z_2, z_3, z_4, z_5, z_b, z_6, z_7, z_8, z_9, z_0]
       rfl)
   | (apply Reg.TW.skip_ rfl
      ·simp only [z_1, z_2, z_3, z_4, z_5, z_b, z_6, z_7, z_8, z_9, z_0]
       rfl)
   | (apply Reg.TW.pure_ rfl
      ·intro w1 hw1 hf K hK
       simp only [z_1, z_3, z_4, z_5] at hK
       have HK := y_ hK
       clear hf hK
       unfold Reg.One; dsimp only
       go_wp2_with fail
       exact HK.out _ (Reg.Ext.refl _)
      ·simp only [z_1, z_2, z_3, z_4, z_5, z_b, z_6, z_7, z_8, z_9, z_0]
       rfl))
  refine Reg.TW.nil_ ?_
  intro wj xj _
  have H2n := y_ (H2.out.ext xj)
  have Xn := y_ (X.out.trans xj)
  clear H2 X CF xj hsl
  have H2 := H2n
  have X := Xn
  clear H2n Xn
  try clear wi
  generalize wj = wi at *
  go_upto_region 10 with (fail)
  refine wp_region_lit ?_
  refine wpList_val rfl (.agg S.none.cells.toArray) (by as_aux_lemma => kernel_rfl) ?_
  simp only [z_1, z_2, z_3, z_4, z_5, z_b, z_6, z_7, z_8, z_9, z_0]
  have h2 := H2.out
  refine wpList_store_mid rfl 39 _ _ rfl g2 0 ((S.none).cells).toArray rfl ?_ (h2.there _ (by have e1 := cells_length _ none_dig; have e2 := cells_length _ none_dig; rw [z_a]; omega)) (by rw [z_a, cells_length _ none_dig]; exact size38) (all_oneCell_toArray (oneS _)) ?_
  ·rfl
  simp only [z_c]
  simp only [z_1, z_2, z_3, z_4, z_5, z_b, z_6, z_7, z_8, z_9, z_0]
  have HN := y_ (h2.setAll S.none.cells rfl)
  have XN := y_ (X.out.trans_but (But.setCells g2 S.none.cells 0 wi) l2)
  generalize wi.setCells g2 0 S.none.cells = wn at *
  clear h2 H2 X
  go_wp2_with fail
  exact bodyPost_ret (results_row3 rfl _ _ g2 39 (S.none.cells).toArray (0, 0) _ rfl HN.out undS rfl (by rw [z_a, cells_length _ none_dig]; exact size38)) rfl ⟨by rw [HV.out]; rfl, XN.out⟩
  all_goals rfl
end Slp
end Go.Proofs.YtafeealbdpmdkaaGreatDoor
/- The walk of the reference's All. -/
namespace Go.Proofs.YtafeealbdpmdkaaGreatDoor
open Go.RowKit
namespace Slp
set_option maxRecDepth 100000 in
set_option maxHeartbeats 4000000 in
theorem allR_any (s : ByteArray) (w : World) (hs : s.size ≤ 1048576) :
  Calls Tryz.prog 43 #[.string s] w fun e w' => ∃ v, e = .returned (.tuple #[v, .int .i64 ((allP s.data.toList).2 : Int)]) ∧ Row w.heap.size v (allP s.data.toList).1 w' ∧ Reg.Ext w w' := by
 have hlen := len_data s
 obtain ⟨i0, hi, hz0, hz1, hz2, hz3⟩ := slipInfo_of
 go_enter Tryz.func43, Tryz.ntmps43
 go_upto_region 2 with (fail)
 have hrow := Row.empty w w.heap.size (Nat.le_refl _)
 have hxa := Reg.Ext.alloc w (.cells #[] 39)
 generalize w.alloc (.cells #[] 39) = wa at *
 have HROW := y_ hrow
 have HXA := y_ hxa
 clear hrow hxa
 go_wp2_with fail
 go_loopw [4, 5, 6, 7, 8] (fun v n _ _ _ wr => ∃ (xs : List S) (k : Nat), Hid (Got s.data.toList xs k ∧ 7 * xs.length ≤ k) ∧ n = .int .i64 (k : Int) ∧ Hid (Row w.heap.size v xs wr) ∧ Hid (Reg.Ext w wr)) (fun _ n _ _ _ _ => s.size - (intOf n).toNat)
 case atStart => exact ⟨[], 0, ⟨Got.zero _, by simp⟩, rfl, HROW, HXA⟩
 case round =>
  obtain ⟨xs, k, HG, rfl, HR, HX⟩ := hrel
  have hkl := HG.out.1.1
  rw [len_data] at hkl
  obtain ⟨t, ht⟩ : ∃ t, t = s.extract k s.size := ⟨_, rfl⟩
  have HTL : Hid (t.data.toList = s.data.toList.drop k) := by show _ = _; rw [ht, ext_from]
  have hts : t.size ≤ 1048576 := by rw [ht]; exact ext_le _ _ _ hs
  have CR := y_ (readR_any t wr hts)
  have HRT := y_ ht
  clear ht hts
  obtain ⟨x, n, er, hp⟩ : ∃ x n er, readP (s.data.toList.drop k) = (x, n, er) := ⟨_, _, _, rfl⟩
  have hx := readP_dig (s.data.toList.drop k)
  rw [hp] at hx
  have hrv : readV t.data.toList = .tuple #[.agg x.cells.toArray, .int .i64 (n : Int), .int .i64 (er : Int)] := by unfold readV; rw [HTL.out, hp]
  rw [hrv] at CR
  have HN : Hid (er = 0 → (Got s.data.toList (xs ++ [x]) (k + n) ∧ 7 * (xs ++ [x]).length ≤ k + n) ∧ 7 ≤ n ∧ k + n ≤ s.size) := fun he => by
   have h0 : (readP (s.data.toList.drop k)).2.2 = 0 := by rw [hp]; exact he
   have h1 := HG.out.1.next h0
   have h2 := (readP_ok h0).2.2
   have h3 := h1.1
   have h4 := HG.out.2
   rw [hp] at h1 h2 h3
   rw [len_data] at h3
   simp only at h2 h3
   exact ⟨⟨h1, by rw [List.length_append]; simp only [List.length_cons, List.length_nil]; omega⟩, h2.1, h3⟩
  have HE : Hid (er ≠ 0 → allP s.data.toList = (xs, k)) := fun he => HG.out.1.done (by rw [hp]; exact he)
  have hx7 := HG.out.2
  clear hp hrv HG HTL
  go_wp2_with fail
  rw [← HRT.out]
  refine (CR.out).mono ?_
  rintro e wj ⟨rfl, xj⟩
  rename_i hK
  refine hK _ _ ?_
  have HR1 := y_ (HR.out.ext xj)
  have HX1 := y_ (HX.out.trans xj)
  clear CR HR HX xj HRT
  iterate 15 go_step
  rw [z38]
  have hb8 := boxS wj S.none
  have hx8 := Reg.Ext.alloc wj (Obj.cells S.none.cells.toArray 39)
  have hsx := HX1.out.size
  generalize wj.alloc (Obj.cells S.none.cells.toArray 39) = w8 at *
  obtain ⟨g8, hg8⟩ : ∃ g8, wj.heap.size = g8 := ⟨_, rfl⟩
  rw [hg8] at hb8 ⊢
  refine wpList_store_mid rfl 39 _ _ rfl g8 0 ((x).cells).toArray rfl ?_ (hb8.there _ (by have e1 := cells_length _ hx; have e2 := cells_length _ none_dig; rw [z_a]; omega)) (by rw [z_a, cells_length _ hx]; exact size38) (all_oneCell_toArray (oneS _)) ?_
  ·rfl
  simp only [z_c]
  simp only [z_1, z_2, z_3, z_4, z_5, z_b, z_6, z_7, z_8, z_9, z_0]
  have hbx := But.setCells g8 x.cells 0 w8
  have H8 := y_ (hb8.setAll x.cells ((cells_length _ hx).trans (cells_length _ none_dig).symm))
  have HR2 := y_ (HR1.out.fresh hx8 hbx (by omega))
  have HX2 := y_ ((HX1.out.trans hx8).trans_but hbx (by omega))
  clear HR1 HX1 hx8 hb8 hbx hg8 hsx
  generalize w8.setCells g8 0 x.cells = wi at *
  clear w8
  by_cases he : er = 0
  ·have hn := HN.out he
   have HG2 := y_ hn.1
   have hn7 := hn.2
   have de : ((er : Int) != 0) = false := by rw [he]; rfl
   clear HN HE hn he
   go_upto_region 6 with (fail)
   refine wp_region_lit ?_
   iterate 3 go_step
   refine wpList_load_row rfl 39 _ rfl g8 rfl 39 (x.cells).toArray (0, 0) _ H8.out undS rfl (by rw [z_a, cells_length x hx]; exact size38) ?_
   simp only [z_1, z_2, z_3, z_4, z_5, z_b, z_6, z_7, z_8, z_9, z_0]
   refine wpList_valw rfl _ (exec_one_row wi _ _ (.tmp 23) 29 39 x.cells.toArray rfl rfl i0 (.agg S.none.cells.toArray) Tryz.underlying29 hi hz0 (by rw [hz1, z_a, cells_length x hx]) (by rw [z_a, cells_length x hx]; decide) (by rw [z_a, cells_length x hx]; decide)) ?_
   simp only [z_1, z_2, z_3, z_4, z_5, z_b, z_6, z_7, z_8, z_9, z_0]
   have hb9 := boxS wi x
   have hx9 := Reg.Ext.alloc wi (Obj.cells x.cells.toArray 39)
   have HR3 := y_ (HR2.out.ext hx9)
   have HX3 := y_ (HX2.out.trans hx9)
   clear HR2 HX2 hx9
   generalize wi.alloc (Obj.cells x.cells.toArray 39) = w9 at *
   generalize wi.heap.size = g9 at *
   refine wpList_append_own _ rfl _ _ 29 rfl w.heap.size 39 i0 (.agg S.none.cells.toArray) 38 104 Tryz.underlying29 hi hz0 hz1 hz2 hz3 (by decide) u4 xs.length (flat xs) rfl HR3.out.1 ⟨g9, 0, none⟩ 1 1 x.cells rfl (cells_length x hx) ?c1 ?c2 ?c3 ?c4 ?c5 ?_
   case c1 =>
    intro j u hj
    rw [Addr.add_mid, Nat.zero_add, hb9.cell]
    exact hj
   case c2 => exact oneS x
   case c3 => unfold maxLen; omega
   case c4 => omega
   case c5 => exact HX3.out.size
   intro v' w2 hown' hgrow _
   have HR4 : Hid (Row w.heap.size v' (xs ++ [x]) w2) := ⟨by rw [flat_snoc, List.length_append]; exact hown', fun y hy => (List.mem_append.1 hy).elim (HR3.out.2 y) fun h => by rw [List.mem_singleton.1 h]; exact hx⟩
   have HX4 : Hid (Reg.Ext w w2) := Below.grown HX3.out hgrow HX3.out.size (fun k hk => (HR3.out.1.lt k hk).1)
   clear hown' hgrow HR3 HX3 H8 hb9
   simp only [z_1, z_2, z_3, z_4, z_5, z_b, z_6, z_7, z_8, z_9, z_0]
   go_wp2_with fail
   go_roundw
   case rel => exact ⟨xs ++ [x], k + n, HG2, by go_num, HR4, HX4⟩
   case measure => simp [intOf]; omega
  ·have HA := y_ (HE.out he)
   have de : ((er : Int) != 0) = true := by rw [bne_iff_ne]; omega
   clear HN HE he H8
   go_wp2_with fail
   go_ret2
   exact ⟨u4, by rw [HA.out]; rfl, by rw [HA.out]; exact HR2.out, HX2.out⟩
end Slp
end Go.Proofs.YtafeealbdpmdkaaGreatDoor

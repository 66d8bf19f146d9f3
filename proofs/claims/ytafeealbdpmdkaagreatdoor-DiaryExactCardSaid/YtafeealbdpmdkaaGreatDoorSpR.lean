/- Made by merge.py from: SlipRef SlipGoodR. -/
import Derived.Test.YtafeealbdpmdkaaGreatDoorSpB
import Derived.Test.YtafeealbdpmdkaaGreatDoorSpA
import Derived.Test.YtafeealbdpmdkaaGreatDoorSpC
import Derived.Test.YtafeealbdpmdkaaGreatDoorSpD
set_option linter.unusedSimpArgs false
set_option linter.unusedVariables false
set_option linter.unusedSectionVars false
set_option maxRecDepth 100000
/- The reference's functions of chapter 8: text. -/
open Go.Act renaming put → z_1, eval → z_2
open List renaming setIfInBounds_toArray → z_3, set_cons_zero → z_4, set_cons_succ → z_5, getElem?_toArray → z_7, getElem?_cons_succ → z_8, getElem?_cons_zero → z_9
open Array renaming getD_eq_getD_getElem? → z_6
open Option renaming getD_some → z_0
open Go.Lib renaming hid → y_
open Nat renaming reduceAdd → z_b
-- squeezed
namespace Go.Proofs.YtafeealbdpmdkaaGreatDoor
open Go.RowKit
namespace Slp
open Bld (len1)
set_option maxHeartbeats 2000000 in
theorem textR_any (s : ByteArray) (w : World) (hs : s.size ≤ 1048576) :
  Calls Tryz.prog 80 #[.string s] w fun e w' => e = .returned (.string ⟨(len1 s :: s.data.toList).toArray⟩) ∧ Reg.Ext w w' := by
 obtain ⟨h0, hh0⟩ : ∃ h, h = [len1 s] := ⟨_, rfl⟩
 have hx1 := Reg.Ext.alloc w (Obj.cells #[Value.int .u8 ((s.size : Int) % 256)] 5)
 have hk1 := Blk.new w 5 #[Value.int .u8 ((s.size : Int) % 256)]
 have hcv := conv_bytes (P := Tryz.prog) (w.alloc (Obj.cells #[Value.int .u8 ((s.size : Int) % 256)] 5)) 84 9 5 Tryz.underlying84 Tryz.underlying5 Tryz.underlying9 w.heap.size 0 1 1 h0 (by rw [hh0]; rfl) (by
  intro j hj
  rw [hh0] at hj
  subst hh0
  match j, hj with
  | 0, _ => rw [hk1.cell]; simp [byteV, Bld.len1_nat])
 have HX1 := y_ hx1
 clear hx1 hk1
 obtain ⟨H0, hH0⟩ : ∃ H0 : ByteArray, H0 = ⟨h0.toArray⟩ := ⟨_, rfl⟩
 have hHs : H0.size = 1 := by rw [hH0, siz, hh0]; rfl
 have HW : Hid ((⟨(len1 s :: s.data.toList).toArray⟩ : ByteArray) = H0 ++ s) := by
  show _ = _
  exact ba_ext (by rw [lst, hH0, hh0]; simp)
 rw [← hH0] at hcv
 clear hH0 hh0
 go_enter Tryz.func80, Tryz.ntmps80
 go_wp2_with fail
 go_ret
 exact ⟨by rw [HW.out]; rfl, HX1.out⟩
set_option maxHeartbeats 2000000 in
theorem has_any (k : Int) (hk : known k = true) (w : World) : Calls Tryz.prog 77 #[.int .i64 k] w fun e w' => e = .returned (.agg (flds k).cells.toArray) ∧ Reg.Ext w w' := by
 unfold known at hk
 rw [decide_eq_true_iff] at hk
 rcases (by omega : k = 1 ∨ k = 2 ∨ k = 3 ∨ k = 4 ∨ k = 5 ∨ k = 6) with rfl | rfl | rfl | rfl | rfl | rfl
 ·clear hk
  go_enter Tryz.func77, Tryz.ntmps77
  go_wp2
  exact bodyPost_ret (results_cell_row rfl _ _ w.heap.size 130 #[.bool true, .bool true, .bool true, .bool true] (0, 0) _ rfl (heap_alloc_new w _) Tryz.underlying130 rfl (by kernel_rfl)) rfl ⟨rfl, Reg.Ext.alloc _ _⟩
 ·clear hk
  go_enter Tryz.func77, Tryz.ntmps77
  go_wp2
  exact bodyPost_ret (results_cell_row rfl _ _ w.heap.size 130 #[.bool true, .bool false, .bool false, .bool true] (0, 0) _ rfl (heap_alloc_new w _) Tryz.underlying130 rfl (by kernel_rfl)) rfl ⟨rfl, Reg.Ext.alloc _ _⟩
 ·clear hk
  go_enter Tryz.func77, Tryz.ntmps77
  go_wp2
  exact bodyPost_ret (results_cell_row rfl _ _ w.heap.size 130 #[.bool true, .bool false, .bool false, .bool false] (0, 0) _ rfl (heap_alloc_new w _) Tryz.underlying130 rfl (by kernel_rfl)) rfl ⟨rfl, Reg.Ext.alloc _ _⟩
 ·clear hk
  go_enter Tryz.func77, Tryz.ntmps77
  go_wp2
  exact bodyPost_ret (results_cell_row rfl _ _ w.heap.size 130 #[.bool false, .bool true, .bool true, .bool false] (0, 0) _ rfl (heap_alloc_new w _) Tryz.underlying130 rfl (by kernel_rfl)) rfl ⟨rfl, Reg.Ext.alloc _ _⟩
 ·clear hk
  go_enter Tryz.func77, Tryz.ntmps77
  go_wp2
  exact bodyPost_ret (results_cell_row rfl _ _ w.heap.size 130 #[.bool false, .bool true, .bool false, .bool false] (0, 0) _ rfl (heap_alloc_new w _) Tryz.underlying130 rfl (by kernel_rfl)) rfl ⟨rfl, Reg.Ext.alloc _ _⟩
 ·clear hk
  go_enter Tryz.func77, Tryz.ntmps77
  go_wp2
  exact bodyPost_ret (results_cell_row rfl _ _ w.heap.size 130 #[.bool false, .bool true, .bool false, .bool false] (0, 0) _ rfl (heap_alloc_new w _) Tryz.underlying130 rfl (by kernel_rfl)) rfl ⟨rfl, Reg.Ext.alloc _ _⟩
end Slp
end Go.Proofs.YtafeealbdpmdkaaGreatDoor
/- The reference's Good. -/
namespace Go.Proofs.YtafeealbdpmdkaaGreatDoor
open Go.RowKit
namespace Slp
theorem size0 (s : ByteArray) : s.size = 0 ↔ s = noStr := by
 constructor
 ·intro h
  refine ba_ext ?_
  have : s.data.toList.length = 0 := by rw [len_data, h]
  rw [List.length_eq_zero_iff.1 this]
  rfl
 ·intro h; rw [h]; rfl
theorem good_iff (x : S) : good x = true ↔ known x.k = true ∧ ((flds x.k).names = true → 1 ≤ x.repo.size ∧ x.repo.size ≤ 128 ∧ 1 ≤ x.tag.size ∧ x.tag.size ≤ 128) ∧ ((flds x.k).names = false → x.repo.size = 0 ∧ x.tag.size = 0) ∧ ((flds x.k).digest = false → x.dig = zeros) ∧
  ((flds x.k).thing = false → x.typ.size = 0 ∧ x.size = 0) ∧ ((flds x.k).at_ = false → x.at_ = 0) ∧ x.typ.size ≤ 100 ∧ 0 ≤ x.size ∧ x.size ≤ 1048576 ∧ 0 ≤ x.at_ ∧ x.at_ ≤ 1099511627776 := by
 obtain ⟨k, repo, tag, dig, typ, size, at_⟩ := x
 unfold good
 simp only [Bool.and_eq_true, same_iff, bounds, names128, Bool.or_eq_true, Bool.not_eq_true', decide_eq_true_eq, S.only, S.mk.injEq, true_and]
 obtain ⟨n, d, t, a⟩ := flds k
 simp only [size0]
 constructor
 ·rintro ⟨h1, ⟨e1, e2, e3, e4, e5, e6⟩, h2, h3⟩
  refine ⟨h1, ?_, ?_, ?_, ?_, ?_, h3.1, h3.2.1.1, h3.2.1.2, h3.2.2.1, h3.2.2.2⟩
  ·rintro rfl
   rcases h2 with h2 | h2
   ·cases h2
   ·exact ⟨h2.1.1, h2.1.2, h2.2.1, h2.2.2⟩
  ·rintro rfl; exact ⟨e1, e2⟩
  ·rintro rfl; exact e3
  ·rintro rfl; exact ⟨e4, e5⟩
  ·rintro rfl; exact e6
 ·rintro ⟨h1, h2, h3, h4, h5, h6, h7, h8, h9, h10, h11⟩
  refine ⟨h1, ⟨?_, ?_, ?_, ?_, ?_, ?_⟩, ?_, h7, ⟨h8, h9⟩, h10, h11⟩
  ·cases n with
   | true => rfl
   | false => exact (h3 rfl).1
  ·cases n with
   | true => rfl
   | false => exact (h3 rfl).2
  ·cases d with
   | true => rfl
   | false => exact h4 rfl
  ·cases t with
   | true => rfl
   | false => exact (h5 rfl).1
  ·cases t with
   | true => rfl
   | false => exact (h5 rfl).2
  ·cases a with
   | true => rfl
   | false => exact h6 rfl
  ·cases n with
   | true => have := h2 rfl; exact .inr ⟨⟨this.1, this.2.1⟩, this.2.2.1, this.2.2.2⟩
   | false => exact .inl rfl
theorem wpList_lda {ops : Array Oper} {rest : List Oper} {o : Oper} {a : Act} {w : World} {Q : Exit → Act → World → Prop} (hw : Region.wanted o (yielded ops a.tmps) = true) (ty : TypeId) (x : Operand) (ho : o.op = .load ty x)
  (g j : Nat) (hx : a.eval x = .pointer (some ⟨g, j, none⟩)) (cs : List Value) (n : Nat) (e : TypeId) (h : Hid (w.rangeAt g j cs)) (hu : Tryz.prog.underlying ty = some (.array n e))
  (hi : (Tryz.prog.info? ty).map (·.size) = some cs.length) (hk : wpList Tryz.prog ops Q rest (a.put o.dst (.agg cs.toArray)) w) : wpList Tryz.prog ops Q (o :: rest) a w := by
 unfold wpList
 rw [if_pos hw]
 exact .inl (wp_load_mid ty x ho g j hx cs _ h.out hu rfl hi hk)
theorem wpList_valg {P : Program} {ops : Array Oper} {rest : List Oper} {o : Oper} {a : Act} {w : World} {Q : Exit → Act → World → Prop} (hw : Region.wanted o (yielded ops a.tmps) = true) (v : Value)
  (hr : (execOp a.eval o).run P w = .ok (.value v) w) (hk : wpList P ops Q rest (a.put o.dst v) w) : wpList P ops Q (o :: rest) a w := by
 unfold wpList
 rw [if_pos hw]
 refine .inl ?_
 unfold Oper.wp
 rw [hr]
 exact hk
theorem str_empty (s : ByteArray) : (s.toList == []) = decide (s.size = 0) := by
 rw [Bool.eq_iff_iff, beq_iff_eq, decide_eq_true_iff, ByteArray.toList_eq, ← len_data, List.length_eq_zero_iff]
set_option maxRecDepth 100000 in
set_option maxHeartbeats 8000000 in
theorem goodR_any (x : S) (hx : x.dig.length = 32) (w : World) :
  Calls Tryz.prog 52 #[.agg x.cells.toArray] w fun e w' => e = .returned (.bool (good x)) ∧ Reg.Ext w w' := by
 have hb1 := boxS w x
 have hx1 := Reg.Ext.alloc w (Obj.cells x.cells.toArray 39)
 go_enter Tryz.func52, Tryz.ntmps52
 go_upto_region 1 with (fail)
 generalize w.alloc (Obj.cells x.cells.toArray 39) = w1 at *
 generalize hg1 : w.heap.size = g1 at *
 have c0 : w1.cell? ⟨g1, 0, none⟩ = some (.int .i64 x.k) := hb1.cell 0
 have H1 := y_ hb1
 have X := y_ hx1
 clear hb1 hx1 hg1
 cases hk : known x.k with
 | false =>
   have HV : Hid (good x = false) := by
    show _ = _
    unfold good
    rw [hk]; rfl
   unfold known at hk
   rw [decide_eq_false_iff_not] at hk
   by_cases hk1 : x.k < 1
   ·have d1 : decide (x.k < 1) = true := by rw [decide_eq_true_iff]; exact hk1
    clear hk hk1
    go_wp2_with fail
    go_ret
    exact ⟨by rw [HV.out]; rfl, X.out⟩
   ·have d1 : decide (x.k < 1) = false := by rw [decide_eq_false_iff_not]; exact hk1
    have d6 : decide ((6 : Int) < x.k) = true := by rw [decide_eq_true_iff]; omega
    clear hk hk1
    go_wp2_with fail
    go_ret
    exact ⟨by rw [HV.out]; rfl, X.out⟩
 | true =>
   have hkk := hk
   unfold known at hkk
   rw [decide_eq_true_iff] at hkk
   have d1 : decide (x.k < 1) = false := by rw [decide_eq_false_iff_not]; omega
   have d6 : decide ((6 : Int) < x.k) = false := by rw [decide_eq_false_iff_not]; omega
   have CH := y_ (has_any x.k hk)
   have hfk := flds_known hk
   clear hkk
   go_wp2_with fail
   refine (CH.out w1).mono ?_
   rintro e w2 ⟨rfl, x2⟩
   have X := y_ (X.out.trans x2)
   have H1 := y_ (H1.out.ext x2)
   have c0 : w2.cell? ⟨g1, 0, none⟩ = some (.int .i64 x.k) := H1.out.cell 0
   clear x2 CH d1 d6
   obtain ⟨f, hf⟩ : ∃ f, f = flds x.k := ⟨_, rfl⟩
   rw [← hf] at hfk ⊢
   have HFL := y_ hf
   clear hf
   rcases hfk with rfl | rfl | rfl | rfl | rfl
   ·
    -- {A
    rw [show (F.cells ⟨true, true, true, true⟩) = [.bool true, .bool true, .bool true, .bool true] from rfl]
    go_upto_region 4 with (fail)
    have hbf : Blk (w2.alloc (Obj.cells #[Value.bool true, Value.bool true, Value.bool true, Value.bool true] 130)) w2.heap.size 130 [.bool true, .bool true, .bool true, .bool true] := Blk.new w2 130 #[Value.bool true, Value.bool true, Value.bool true, Value.bool true]
    have hxf := Reg.Ext.alloc w2 (Obj.cells #[Value.bool true, Value.bool true, Value.bool true, Value.bool true] 130)
    have H1n := y_ (H1.out.ext hxf)
    have Xn := y_ (X.out.trans hxf)
    clear H1 X hxf c0
    have H1 := H1n
    have X := Xn
    clear H1n Xn
    generalize w2.alloc (Obj.cells #[Value.bool true, Value.bool true, Value.bool true, Value.bool true] 130) = wi at *
    generalize w2.heap.size = g3 at *
    have p0 : wi.cell? ⟨g3, 0, none⟩ = some (.bool true) := hbf.cell 0
    have p1 : wi.cell? ⟨g3, 1, none⟩ = some (.bool true) := hbf.cell 1
    have p2 : wi.cell? ⟨g3, 2, none⟩ = some (.bool true) := hbf.cell 2
    have p3 : wi.cell? ⟨g3, 3, none⟩ = some (.bool true) := hbf.cell 3
    have q1 : wi.cell? ⟨g1, 1, none⟩ = some (.string x.repo) := H1.out.cell 1
    have q2 : wi.cell? ⟨g1, 2, none⟩ = some (.string x.tag) := H1.out.cell 2
    have q35 : wi.cell? ⟨g1, 35, none⟩ = some (.string x.typ) := by rw [H1.out.cell, at35 x hx]
    have q36 : wi.cell? ⟨g1, 36, none⟩ = some (.int .i64 x.size) := by rw [H1.out.cell, at36 x hx]
    have q37 : wi.cell? ⟨g1, 37, none⟩ = some (.int .i64 x.at_) := by rw [H1.out.cell, at37 x hx]
    have HDG : Hid (wi.rangeAt g1 3 (x.dig.map byteV)) := range_dig H1.out
    clear hbf
    by_cases n1 : 1 ≤ x.repo.size
    rotate_left
    ·have dn1 : decide ((1 : Int) ≤ (x.repo.size : Int)) = false := by rw [decide_eq_false_iff_not]; omega
     have HV : Hid (good x = false) := by
      show _ = _
      rw [Bool.eq_false_iff]
      intro h
      have h := (good_iff x).1 h
      rw [← HFL.out] at h
      obtain ⟨-, k1, k2, k3, k4, k5, k6, k7, k8, k9, k10⟩ := h
      first
      | omega
      | (have q := k1 rfl; omega)
      | (have q := k2 rfl; omega)
      | (have q := k4 rfl; omega)
      | (have q := k5 rfl; omega)
      | exact id (k3 rfl)
     clear n1
     go_wp2_with fail
     go_ret
     exact ⟨by rw [HV.out]; rfl, X.out⟩
    have dn1 : decide ((1 : Int) ≤ (x.repo.size : Int)) = true := by rw [decide_eq_true_iff]; omega
    by_cases n2 : x.repo.size ≤ 128
    rotate_left
    ·have dn2 : decide ((x.repo.size : Int) ≤ 128) = false := by rw [decide_eq_false_iff_not]; omega
     have HV : Hid (good x = false) := by
      show _ = _
      rw [Bool.eq_false_iff]
      intro h
      have h := (good_iff x).1 h
      rw [← HFL.out] at h
      obtain ⟨-, k1, k2, k3, k4, k5, k6, k7, k8, k9, k10⟩ := h
      first
      | omega
      | (have q := k1 rfl; omega)
      | (have q := k2 rfl; omega)
      | (have q := k4 rfl; omega)
      | (have q := k5 rfl; omega)
      | exact id (k3 rfl)
     clear n2
     go_wp2_with fail
     go_ret
     exact ⟨by rw [HV.out]; rfl, X.out⟩
    have dn2 : decide ((x.repo.size : Int) ≤ 128) = true := by rw [decide_eq_true_iff]; omega
    by_cases n3 : 1 ≤ x.tag.size
    rotate_left
    ·have dn3 : decide ((1 : Int) ≤ (x.tag.size : Int)) = false := by rw [decide_eq_false_iff_not]; omega
     have HV : Hid (good x = false) := by
      show _ = _
      rw [Bool.eq_false_iff]
      intro h
      have h := (good_iff x).1 h
      rw [← HFL.out] at h
      obtain ⟨-, k1, k2, k3, k4, k5, k6, k7, k8, k9, k10⟩ := h
      first
      | omega
      | (have q := k1 rfl; omega)
      | (have q := k2 rfl; omega)
      | (have q := k4 rfl; omega)
      | (have q := k5 rfl; omega)
      | exact id (k3 rfl)
     clear n3
     go_wp2_with fail
     go_ret
     exact ⟨by rw [HV.out]; rfl, X.out⟩
    have dn3 : decide ((1 : Int) ≤ (x.tag.size : Int)) = true := by rw [decide_eq_true_iff]; omega
    by_cases n4 : x.tag.size ≤ 128
    rotate_left
    ·have dn4 : decide ((x.tag.size : Int) ≤ 128) = false := by rw [decide_eq_false_iff_not]; omega
     have HV : Hid (good x = false) := by
      show _ = _
      rw [Bool.eq_false_iff]
      intro h
      have h := (good_iff x).1 h
      rw [← HFL.out] at h
      obtain ⟨-, k1, k2, k3, k4, k5, k6, k7, k8, k9, k10⟩ := h
      first
      | omega
      | (have q := k1 rfl; omega)
      | (have q := k2 rfl; omega)
      | (have q := k4 rfl; omega)
      | (have q := k5 rfl; omega)
      | exact id (k3 rfl)
     clear n4
     go_wp2_with fail
     go_ret
     exact ⟨by rw [HV.out]; rfl, X.out⟩
    have dn4 : decide ((x.tag.size : Int) ≤ 128) = true := by rw [decide_eq_true_iff]; omega
    by_cases t1 : x.typ.size ≤ 100
    rotate_left
    ·have dt1 : decide ((x.typ.size : Int) ≤ 100) = false := by rw [decide_eq_false_iff_not]; omega
     have HV : Hid (good x = false) := by
      show _ = _
      rw [Bool.eq_false_iff]
      intro h
      have h := (good_iff x).1 h
      rw [← HFL.out] at h
      obtain ⟨-, k1, k2, k3, k4, k5, k6, k7, k8, k9, k10⟩ := h
      first
      | omega
      | (have q := k1 rfl; omega)
      | (have q := k2 rfl; omega)
      | (have q := k4 rfl; omega)
      | (have q := k5 rfl; omega)
      | exact id (k3 rfl)
     clear t1
     go_wp2_with fail
     go_ret
     exact ⟨by rw [HV.out]; rfl, X.out⟩
    have dt1 : decide ((x.typ.size : Int) ≤ 100) = true := by rw [decide_eq_true_iff]; omega
    by_cases z0 : 0 ≤ x.size
    rotate_left
    ·have dz0 : decide ((0 : Int) ≤ x.size) = false := by rw [decide_eq_false_iff_not]; omega
     have HV : Hid (good x = false) := by
      show _ = _
      rw [Bool.eq_false_iff]
      intro h
      have h := (good_iff x).1 h
      rw [← HFL.out] at h
      obtain ⟨-, k1, k2, k3, k4, k5, k6, k7, k8, k9, k10⟩ := h
      first
      | omega
      | (have q := k1 rfl; omega)
      | (have q := k2 rfl; omega)
      | (have q := k4 rfl; omega)
      | (have q := k5 rfl; omega)
      | exact id (k3 rfl)
     clear z0
     go_wp2_with fail
     go_ret
     exact ⟨by rw [HV.out]; rfl, X.out⟩
    have dz0 : decide ((0 : Int) ≤ x.size) = true := by rw [decide_eq_true_iff]; omega
    by_cases z1 : x.size ≤ 1048576
    rotate_left
    ·have dz1 : decide (x.size ≤ 1048576) = false := by rw [decide_eq_false_iff_not]; omega
     have HV : Hid (good x = false) := by
      show _ = _
      rw [Bool.eq_false_iff]
      intro h
      have h := (good_iff x).1 h
      rw [← HFL.out] at h
      obtain ⟨-, k1, k2, k3, k4, k5, k6, k7, k8, k9, k10⟩ := h
      first
      | omega
      | (have q := k1 rfl; omega)
      | (have q := k2 rfl; omega)
      | (have q := k4 rfl; omega)
      | (have q := k5 rfl; omega)
      | exact id (k3 rfl)
     clear z1
     go_wp2_with fail
     go_ret
     exact ⟨by rw [HV.out]; rfl, X.out⟩
    have dz1 : decide (x.size ≤ 1048576) = true := by rw [decide_eq_true_iff]; omega
    by_cases a0 : 0 ≤ x.at_
    rotate_left
    ·have da0 : decide ((0 : Int) ≤ x.at_) = false := by rw [decide_eq_false_iff_not]; omega
     have HV : Hid (good x = false) := by
      show _ = _
      rw [Bool.eq_false_iff]
      intro h
      have h := (good_iff x).1 h
      rw [← HFL.out] at h
      obtain ⟨-, k1, k2, k3, k4, k5, k6, k7, k8, k9, k10⟩ := h
      first
      | omega
      | (have q := k1 rfl; omega)
      | (have q := k2 rfl; omega)
      | (have q := k4 rfl; omega)
      | (have q := k5 rfl; omega)
      | exact id (k3 rfl)
     clear a0
     go_wp2_with fail
     go_ret
     exact ⟨by rw [HV.out]; rfl, X.out⟩
    have da0 : decide ((0 : Int) ≤ x.at_) = true := by rw [decide_eq_true_iff]; omega
    by_cases a1 : x.at_ ≤ 1099511627776
    rotate_left
    ·have da1 : decide (x.at_ ≤ 1099511627776) = false := by rw [decide_eq_false_iff_not]; omega
     have HV : Hid (good x = false) := by
      show _ = _
      rw [Bool.eq_false_iff]
      intro h
      have h := (good_iff x).1 h
      rw [← HFL.out] at h
      obtain ⟨-, k1, k2, k3, k4, k5, k6, k7, k8, k9, k10⟩ := h
      first
      | omega
      | (have q := k1 rfl; omega)
      | (have q := k2 rfl; omega)
      | (have q := k4 rfl; omega)
      | (have q := k5 rfl; omega)
      | exact id (k3 rfl)
     clear a1
     go_wp2_with fail
     go_ret
     exact ⟨by rw [HV.out]; rfl, X.out⟩
    have da1 : decide (x.at_ ≤ 1099511627776) = true := by rw [decide_eq_true_iff]; omega
    have HV : Hid (good x = true) := (good_iff x).2 (by
     rw [← HFL.out]
     refine ⟨hk, fun h => ?_, fun h => ?_, fun h => ?_, fun h => ?_, fun h => ?_, by omega, by omega, by omega, by omega, by omega⟩ <;> first | (simp at h; done) | omega | exact HDZ.out)
    clear n1 n2 n3 n4 t1 z0 z1 a0 a1
    go_wp2_with fail
    go_ret
    exact ⟨by rw [HV.out]; rfl, X.out⟩
    -- A}
   ·
    -- {B
    rw [show (F.cells ⟨true, false, false, true⟩) = [.bool true, .bool false, .bool false, .bool true] from rfl]
    go_upto_region 4 with (fail)
    have hbf : Blk (w2.alloc (Obj.cells #[Value.bool true, Value.bool false, Value.bool false, Value.bool true] 130)) w2.heap.size 130 [.bool true, .bool false, .bool false, .bool true] := Blk.new w2 130 #[Value.bool true, Value.bool false, Value.bool false, Value.bool true]
    have hxf := Reg.Ext.alloc w2 (Obj.cells #[Value.bool true, Value.bool false, Value.bool false, Value.bool true] 130)
    have H1n := y_ (H1.out.ext hxf)
    have Xn := y_ (X.out.trans hxf)
    clear H1 X hxf c0
    have H1 := H1n
    have X := Xn
    clear H1n Xn
    generalize w2.alloc (Obj.cells #[Value.bool true, Value.bool false, Value.bool false, Value.bool true] 130) = wi at *
    generalize w2.heap.size = g3 at *
    have p0 : wi.cell? ⟨g3, 0, none⟩ = some (.bool true) := hbf.cell 0
    have p1 : wi.cell? ⟨g3, 1, none⟩ = some (.bool false) := hbf.cell 1
    have p2 : wi.cell? ⟨g3, 2, none⟩ = some (.bool false) := hbf.cell 2
    have p3 : wi.cell? ⟨g3, 3, none⟩ = some (.bool true) := hbf.cell 3
    have q1 : wi.cell? ⟨g1, 1, none⟩ = some (.string x.repo) := H1.out.cell 1
    have q2 : wi.cell? ⟨g1, 2, none⟩ = some (.string x.tag) := H1.out.cell 2
    have q35 : wi.cell? ⟨g1, 35, none⟩ = some (.string x.typ) := by rw [H1.out.cell, at35 x hx]
    have q36 : wi.cell? ⟨g1, 36, none⟩ = some (.int .i64 x.size) := by rw [H1.out.cell, at36 x hx]
    have q37 : wi.cell? ⟨g1, 37, none⟩ = some (.int .i64 x.at_) := by rw [H1.out.cell, at37 x hx]
    have HDG : Hid (wi.rangeAt g1 3 (x.dig.map byteV)) := range_dig H1.out
    clear hbf
    by_cases n1 : 1 ≤ x.repo.size
    rotate_left
    ·have dn1 : decide ((1 : Int) ≤ (x.repo.size : Int)) = false := by rw [decide_eq_false_iff_not]; omega
     have HV : Hid (good x = false) := by
      show _ = _
      rw [Bool.eq_false_iff]
      intro h
      have h := (good_iff x).1 h
      rw [← HFL.out] at h
      obtain ⟨-, k1, k2, k3, k4, k5, k6, k7, k8, k9, k10⟩ := h
      first
      | omega
      | (have q := k1 rfl; omega)
      | (have q := k2 rfl; omega)
      | (have q := k4 rfl; omega)
      | (have q := k5 rfl; omega)
      | exact id (k3 rfl)
     clear n1
     go_wp2_with fail
     go_ret
     exact ⟨by rw [HV.out]; rfl, X.out⟩
    have dn1 : decide ((1 : Int) ≤ (x.repo.size : Int)) = true := by rw [decide_eq_true_iff]; omega
    by_cases n2 : x.repo.size ≤ 128
    rotate_left
    ·have dn2 : decide ((x.repo.size : Int) ≤ 128) = false := by rw [decide_eq_false_iff_not]; omega
     have HV : Hid (good x = false) := by
      show _ = _
      rw [Bool.eq_false_iff]
      intro h
      have h := (good_iff x).1 h
      rw [← HFL.out] at h
      obtain ⟨-, k1, k2, k3, k4, k5, k6, k7, k8, k9, k10⟩ := h
      first
      | omega
      | (have q := k1 rfl; omega)
      | (have q := k2 rfl; omega)
      | (have q := k4 rfl; omega)
      | (have q := k5 rfl; omega)
      | exact id (k3 rfl)
     clear n2
     go_wp2_with fail
     go_ret
     exact ⟨by rw [HV.out]; rfl, X.out⟩
    have dn2 : decide ((x.repo.size : Int) ≤ 128) = true := by rw [decide_eq_true_iff]; omega
    by_cases n3 : 1 ≤ x.tag.size
    rotate_left
    ·have dn3 : decide ((1 : Int) ≤ (x.tag.size : Int)) = false := by rw [decide_eq_false_iff_not]; omega
     have HV : Hid (good x = false) := by
      show _ = _
      rw [Bool.eq_false_iff]
      intro h
      have h := (good_iff x).1 h
      rw [← HFL.out] at h
      obtain ⟨-, k1, k2, k3, k4, k5, k6, k7, k8, k9, k10⟩ := h
      first
      | omega
      | (have q := k1 rfl; omega)
      | (have q := k2 rfl; omega)
      | (have q := k4 rfl; omega)
      | (have q := k5 rfl; omega)
      | exact id (k3 rfl)
     clear n3
     go_wp2_with fail
     go_ret
     exact ⟨by rw [HV.out]; rfl, X.out⟩
    have dn3 : decide ((1 : Int) ≤ (x.tag.size : Int)) = true := by rw [decide_eq_true_iff]; omega
    by_cases n4 : x.tag.size ≤ 128
    rotate_left
    ·have dn4 : decide ((x.tag.size : Int) ≤ 128) = false := by rw [decide_eq_false_iff_not]; omega
     have HV : Hid (good x = false) := by
      show _ = _
      rw [Bool.eq_false_iff]
      intro h
      have h := (good_iff x).1 h
      rw [← HFL.out] at h
      obtain ⟨-, k1, k2, k3, k4, k5, k6, k7, k8, k9, k10⟩ := h
      first
      | omega
      | (have q := k1 rfl; omega)
      | (have q := k2 rfl; omega)
      | (have q := k4 rfl; omega)
      | (have q := k5 rfl; omega)
      | exact id (k3 rfl)
     clear n4
     go_wp2_with fail
     go_ret
     exact ⟨by rw [HV.out]; rfl, X.out⟩
    have dn4 : decide ((x.tag.size : Int) ≤ 128) = true := by rw [decide_eq_true_iff]; omega
    have heq : ∀ W, (Op.equalIn 10000 37 (.agg (x.dig.map byteV).toArray) (.agg (zeros.map byteV).toArray)).run Tryz.prog W = .ok (x.dig == zeros) W := fun W => equal_dig hx (by simp [zeros]) 9998 W
    by_cases hdz : x.dig = zeros
    rotate_left
    ·have hb : (x.dig == zeros) = false := by rw [Bool.eq_false_iff, ne_eq, beq_iff_eq]; exact hdz
     rw [hb] at heq
     have HV : Hid (good x = false) := by
      show _ = _
      rw [Bool.eq_false_iff]
      intro h
      have h := (good_iff x).1 h
      rw [← HFL.out] at h
      obtain ⟨-, k1, k2, k3, k4, k5, k6, k7, k8, k9, k10⟩ := h
      first
      | omega
      | (have q := k1 rfl; omega)
      | (have q := k2 rfl; omega)
      | (have q := k4 rfl; omega)
      | (have q := k5 rfl; omega)
      | exact hdz (k3 rfl)
     clear hdz hb
     go_upto_region 7 with (fail)
     refine wp_region_lit ?_
     iterate 14 go_step
     refine wpList_lda rfl _ _ rfl g1 3 rfl _ _ _ HDG Tryz.underlying37 (by rw [List.length_map, hx]; kernel_rfl) ?_
     simp only [z_1, z_2, z_3, z_4, z_5, z_b, z_6, z_7, z_8, z_9, z_0]
     refine wpList_valg rfl (.agg (zeros.map byteV).toArray) (by as_aux_lemma => kernel_rfl) ?_
     simp only [z_1, z_2, z_3, z_4, z_5, z_b, z_6, z_7, z_8, z_9, z_0]
     go_wp2_with fail
     go_ret
     exact ⟨by rw [HV.out]; rfl, X.out⟩
    rw [beq_iff_eq.2 hdz] at heq
    have HDZ := y_ hdz
    clear hdz
    by_cases t1 : x.typ.size = 0
    rotate_left
    ·have dt1 : (x.typ.toList == []) = false := by rw [str_empty, decide_eq_false_iff_not]; exact t1
     have HV : Hid (good x = false) := by
      show _ = _
      rw [Bool.eq_false_iff]
      intro h
      have h := (good_iff x).1 h
      rw [← HFL.out] at h
      obtain ⟨-, k1, k2, k3, k4, k5, k6, k7, k8, k9, k10⟩ := h
      first
      | omega
      | (have q := k1 rfl; omega)
      | (have q := k2 rfl; omega)
      | (have q := k4 rfl; omega)
      | (have q := k5 rfl; omega)
      | exact id (k3 rfl)
     clear t1
     go_upto_region 7 with (fail)
     refine wp_region_lit ?_
     iterate 14 go_step
     refine wpList_lda rfl _ _ rfl g1 3 rfl _ _ _ HDG Tryz.underlying37 (by rw [List.length_map, hx]; kernel_rfl) ?_
     simp only [z_1, z_2, z_3, z_4, z_5, z_b, z_6, z_7, z_8, z_9, z_0]
     refine wpList_valg rfl (.agg (zeros.map byteV).toArray) (by as_aux_lemma => kernel_rfl) ?_
     simp only [z_1, z_2, z_3, z_4, z_5, z_b, z_6, z_7, z_8, z_9, z_0]
     go_wp2_with fail
     go_ret
     exact ⟨by rw [HV.out]; rfl, X.out⟩
    have dt1 : (x.typ.toList == []) = true := by rw [str_empty, decide_eq_true_iff]; exact t1
    by_cases z0 : x.size = 0
    rotate_left
    ·have dz0 : (x.size != 0) = true := by rw [bne_iff_ne]; exact z0
     have HV : Hid (good x = false) := by
      show _ = _
      rw [Bool.eq_false_iff]
      intro h
      have h := (good_iff x).1 h
      rw [← HFL.out] at h
      obtain ⟨-, k1, k2, k3, k4, k5, k6, k7, k8, k9, k10⟩ := h
      first
      | omega
      | (have q := k1 rfl; omega)
      | (have q := k2 rfl; omega)
      | (have q := k4 rfl; omega)
      | (have q := k5 rfl; omega)
      | exact id (k3 rfl)
     clear z0
     go_upto_region 7 with (fail)
     refine wp_region_lit ?_
     iterate 14 go_step
     refine wpList_lda rfl _ _ rfl g1 3 rfl _ _ _ HDG Tryz.underlying37 (by rw [List.length_map, hx]; kernel_rfl) ?_
     simp only [z_1, z_2, z_3, z_4, z_5, z_b, z_6, z_7, z_8, z_9, z_0]
     refine wpList_valg rfl (.agg (zeros.map byteV).toArray) (by as_aux_lemma => kernel_rfl) ?_
     simp only [z_1, z_2, z_3, z_4, z_5, z_b, z_6, z_7, z_8, z_9, z_0]
     go_wp2_with fail
     go_ret
     exact ⟨by rw [HV.out]; rfl, X.out⟩
    have dz0 : (x.size != 0) = false := by rw [z0]; rfl
    have e1 : decide ((x.typ.size : Int) ≤ 100) = true := by rw [decide_eq_true_iff]; omega
    have e2 : decide ((0 : Int) ≤ x.size) = true := by rw [decide_eq_true_iff]; omega
    have e3 : decide (x.size ≤ 1048576) = true := by rw [decide_eq_true_iff]; omega
    by_cases a0 : 0 ≤ x.at_
    rotate_left
    ·have da0 : decide ((0 : Int) ≤ x.at_) = false := by rw [decide_eq_false_iff_not]; omega
     have HV : Hid (good x = false) := by
      show _ = _
      rw [Bool.eq_false_iff]
      intro h
      have h := (good_iff x).1 h
      rw [← HFL.out] at h
      obtain ⟨-, k1, k2, k3, k4, k5, k6, k7, k8, k9, k10⟩ := h
      first
      | omega
      | (have q := k1 rfl; omega)
      | (have q := k2 rfl; omega)
      | (have q := k4 rfl; omega)
      | (have q := k5 rfl; omega)
      | exact id (k3 rfl)
     clear a0
     go_upto_region 7 with (fail)
     refine wp_region_lit ?_
     iterate 14 go_step
     refine wpList_lda rfl _ _ rfl g1 3 rfl _ _ _ HDG Tryz.underlying37 (by rw [List.length_map, hx]; kernel_rfl) ?_
     simp only [z_1, z_2, z_3, z_4, z_5, z_b, z_6, z_7, z_8, z_9, z_0]
     refine wpList_valg rfl (.agg (zeros.map byteV).toArray) (by as_aux_lemma => kernel_rfl) ?_
     simp only [z_1, z_2, z_3, z_4, z_5, z_b, z_6, z_7, z_8, z_9, z_0]
     go_wp2_with fail
     go_ret
     exact ⟨by rw [HV.out]; rfl, X.out⟩
    have da0 : decide ((0 : Int) ≤ x.at_) = true := by rw [decide_eq_true_iff]; omega
    by_cases a1 : x.at_ ≤ 1099511627776
    rotate_left
    ·have da1 : decide (x.at_ ≤ 1099511627776) = false := by rw [decide_eq_false_iff_not]; omega
     have HV : Hid (good x = false) := by
      show _ = _
      rw [Bool.eq_false_iff]
      intro h
      have h := (good_iff x).1 h
      rw [← HFL.out] at h
      obtain ⟨-, k1, k2, k3, k4, k5, k6, k7, k8, k9, k10⟩ := h
      first
      | omega
      | (have q := k1 rfl; omega)
      | (have q := k2 rfl; omega)
      | (have q := k4 rfl; omega)
      | (have q := k5 rfl; omega)
      | exact id (k3 rfl)
     clear a1
     go_upto_region 7 with (fail)
     refine wp_region_lit ?_
     iterate 14 go_step
     refine wpList_lda rfl _ _ rfl g1 3 rfl _ _ _ HDG Tryz.underlying37 (by rw [List.length_map, hx]; kernel_rfl) ?_
     simp only [z_1, z_2, z_3, z_4, z_5, z_b, z_6, z_7, z_8, z_9, z_0]
     refine wpList_valg rfl (.agg (zeros.map byteV).toArray) (by as_aux_lemma => kernel_rfl) ?_
     simp only [z_1, z_2, z_3, z_4, z_5, z_b, z_6, z_7, z_8, z_9, z_0]
     go_wp2_with fail
     go_ret
     exact ⟨by rw [HV.out]; rfl, X.out⟩
    have da1 : decide (x.at_ ≤ 1099511627776) = true := by rw [decide_eq_true_iff]; omega
    have HV : Hid (good x = true) := (good_iff x).2 (by
     rw [← HFL.out]
     refine ⟨hk, fun h => ?_, fun h => ?_, fun h => ?_, fun h => ?_, fun h => ?_, by omega, by omega, by omega, by omega, by omega⟩ <;> first | (simp at h; done) | omega | exact HDZ.out)
    clear n1 n2 n3 n4 t1 z0 a0 a1
    go_upto_region 7 with (fail)
    refine wp_region_lit ?_
    iterate 14 go_step
    refine wpList_lda rfl _ _ rfl g1 3 rfl _ _ _ HDG Tryz.underlying37 (by rw [List.length_map, hx]; kernel_rfl) ?_
    simp only [z_1, z_2, z_3, z_4, z_5, z_b, z_6, z_7, z_8, z_9, z_0]
    refine wpList_valg rfl (.agg (zeros.map byteV).toArray) (by as_aux_lemma => kernel_rfl) ?_
    simp only [z_1, z_2, z_3, z_4, z_5, z_b, z_6, z_7, z_8, z_9, z_0]
    go_wp2_with fail
    go_ret
    exact ⟨by rw [HV.out]; rfl, X.out⟩
    -- B}
   ·
    -- {C
    rw [show (F.cells ⟨true, false, false, false⟩) = [.bool true, .bool false, .bool false, .bool false] from rfl]
    go_upto_region 4 with (fail)
    have hbf : Blk (w2.alloc (Obj.cells #[Value.bool true, Value.bool false, Value.bool false, Value.bool false] 130)) w2.heap.size 130 [.bool true, .bool false, .bool false, .bool false] := Blk.new w2 130 #[Value.bool true, Value.bool false, Value.bool false, Value.bool false]
    have hxf := Reg.Ext.alloc w2 (Obj.cells #[Value.bool true, Value.bool false, Value.bool false, Value.bool false] 130)
    have H1n := y_ (H1.out.ext hxf)
    have Xn := y_ (X.out.trans hxf)
    clear H1 X hxf c0
    have H1 := H1n
    have X := Xn
    clear H1n Xn
    generalize w2.alloc (Obj.cells #[Value.bool true, Value.bool false, Value.bool false, Value.bool false] 130) = wi at *
    generalize w2.heap.size = g3 at *
    have p0 : wi.cell? ⟨g3, 0, none⟩ = some (.bool true) := hbf.cell 0
    have p1 : wi.cell? ⟨g3, 1, none⟩ = some (.bool false) := hbf.cell 1
    have p2 : wi.cell? ⟨g3, 2, none⟩ = some (.bool false) := hbf.cell 2
    have p3 : wi.cell? ⟨g3, 3, none⟩ = some (.bool false) := hbf.cell 3
    have q1 : wi.cell? ⟨g1, 1, none⟩ = some (.string x.repo) := H1.out.cell 1
    have q2 : wi.cell? ⟨g1, 2, none⟩ = some (.string x.tag) := H1.out.cell 2
    have q35 : wi.cell? ⟨g1, 35, none⟩ = some (.string x.typ) := by rw [H1.out.cell, at35 x hx]
    have q36 : wi.cell? ⟨g1, 36, none⟩ = some (.int .i64 x.size) := by rw [H1.out.cell, at36 x hx]
    have q37 : wi.cell? ⟨g1, 37, none⟩ = some (.int .i64 x.at_) := by rw [H1.out.cell, at37 x hx]
    have HDG : Hid (wi.rangeAt g1 3 (x.dig.map byteV)) := range_dig H1.out
    clear hbf
    by_cases n1 : 1 ≤ x.repo.size
    rotate_left
    ·have dn1 : decide ((1 : Int) ≤ (x.repo.size : Int)) = false := by rw [decide_eq_false_iff_not]; omega
     have HV : Hid (good x = false) := by
      show _ = _
      rw [Bool.eq_false_iff]
      intro h
      have h := (good_iff x).1 h
      rw [← HFL.out] at h
      obtain ⟨-, k1, k2, k3, k4, k5, k6, k7, k8, k9, k10⟩ := h
      first
      | omega
      | (have q := k1 rfl; omega)
      | (have q := k2 rfl; omega)
      | (have q := k4 rfl; omega)
      | (have q := k5 rfl; omega)
      | exact id (k3 rfl)
     clear n1
     go_wp2_with fail
     go_ret
     exact ⟨by rw [HV.out]; rfl, X.out⟩
    have dn1 : decide ((1 : Int) ≤ (x.repo.size : Int)) = true := by rw [decide_eq_true_iff]; omega
    by_cases n2 : x.repo.size ≤ 128
    rotate_left
    ·have dn2 : decide ((x.repo.size : Int) ≤ 128) = false := by rw [decide_eq_false_iff_not]; omega
     have HV : Hid (good x = false) := by
      show _ = _
      rw [Bool.eq_false_iff]
      intro h
      have h := (good_iff x).1 h
      rw [← HFL.out] at h
      obtain ⟨-, k1, k2, k3, k4, k5, k6, k7, k8, k9, k10⟩ := h
      first
      | omega
      | (have q := k1 rfl; omega)
      | (have q := k2 rfl; omega)
      | (have q := k4 rfl; omega)
      | (have q := k5 rfl; omega)
      | exact id (k3 rfl)
     clear n2
     go_wp2_with fail
     go_ret
     exact ⟨by rw [HV.out]; rfl, X.out⟩
    have dn2 : decide ((x.repo.size : Int) ≤ 128) = true := by rw [decide_eq_true_iff]; omega
    by_cases n3 : 1 ≤ x.tag.size
    rotate_left
    ·have dn3 : decide ((1 : Int) ≤ (x.tag.size : Int)) = false := by rw [decide_eq_false_iff_not]; omega
     have HV : Hid (good x = false) := by
      show _ = _
      rw [Bool.eq_false_iff]
      intro h
      have h := (good_iff x).1 h
      rw [← HFL.out] at h
      obtain ⟨-, k1, k2, k3, k4, k5, k6, k7, k8, k9, k10⟩ := h
      first
      | omega
      | (have q := k1 rfl; omega)
      | (have q := k2 rfl; omega)
      | (have q := k4 rfl; omega)
      | (have q := k5 rfl; omega)
      | exact id (k3 rfl)
     clear n3
     go_wp2_with fail
     go_ret
     exact ⟨by rw [HV.out]; rfl, X.out⟩
    have dn3 : decide ((1 : Int) ≤ (x.tag.size : Int)) = true := by rw [decide_eq_true_iff]; omega
    by_cases n4 : x.tag.size ≤ 128
    rotate_left
    ·have dn4 : decide ((x.tag.size : Int) ≤ 128) = false := by rw [decide_eq_false_iff_not]; omega
     have HV : Hid (good x = false) := by
      show _ = _
      rw [Bool.eq_false_iff]
      intro h
      have h := (good_iff x).1 h
      rw [← HFL.out] at h
      obtain ⟨-, k1, k2, k3, k4, k5, k6, k7, k8, k9, k10⟩ := h
      first
      | omega
      | (have q := k1 rfl; omega)
      | (have q := k2 rfl; omega)
      | (have q := k4 rfl; omega)
      | (have q := k5 rfl; omega)
      | exact id (k3 rfl)
     clear n4
     go_wp2_with fail
     go_ret
     exact ⟨by rw [HV.out]; rfl, X.out⟩
    have dn4 : decide ((x.tag.size : Int) ≤ 128) = true := by rw [decide_eq_true_iff]; omega
    have heq : ∀ W, (Op.equalIn 10000 37 (.agg (x.dig.map byteV).toArray) (.agg (zeros.map byteV).toArray)).run Tryz.prog W = .ok (x.dig == zeros) W := fun W => equal_dig hx (by simp [zeros]) 9998 W
    by_cases hdz : x.dig = zeros
    rotate_left
    ·have hb : (x.dig == zeros) = false := by rw [Bool.eq_false_iff, ne_eq, beq_iff_eq]; exact hdz
     rw [hb] at heq
     have HV : Hid (good x = false) := by
      show _ = _
      rw [Bool.eq_false_iff]
      intro h
      have h := (good_iff x).1 h
      rw [← HFL.out] at h
      obtain ⟨-, k1, k2, k3, k4, k5, k6, k7, k8, k9, k10⟩ := h
      first
      | omega
      | (have q := k1 rfl; omega)
      | (have q := k2 rfl; omega)
      | (have q := k4 rfl; omega)
      | (have q := k5 rfl; omega)
      | exact hdz (k3 rfl)
     clear hdz hb
     go_upto_region 7 with (fail)
     refine wp_region_lit ?_
     iterate 14 go_step
     refine wpList_lda rfl _ _ rfl g1 3 rfl _ _ _ HDG Tryz.underlying37 (by rw [List.length_map, hx]; kernel_rfl) ?_
     simp only [z_1, z_2, z_3, z_4, z_5, z_b, z_6, z_7, z_8, z_9, z_0]
     refine wpList_valg rfl (.agg (zeros.map byteV).toArray) (by as_aux_lemma => kernel_rfl) ?_
     simp only [z_1, z_2, z_3, z_4, z_5, z_b, z_6, z_7, z_8, z_9, z_0]
     go_wp2_with fail
     go_ret
     exact ⟨by rw [HV.out]; rfl, X.out⟩
    rw [beq_iff_eq.2 hdz] at heq
    have HDZ := y_ hdz
    clear hdz
    by_cases t1 : x.typ.size = 0
    rotate_left
    ·have dt1 : (x.typ.toList == []) = false := by rw [str_empty, decide_eq_false_iff_not]; exact t1
     have HV : Hid (good x = false) := by
      show _ = _
      rw [Bool.eq_false_iff]
      intro h
      have h := (good_iff x).1 h
      rw [← HFL.out] at h
      obtain ⟨-, k1, k2, k3, k4, k5, k6, k7, k8, k9, k10⟩ := h
      first
      | omega
      | (have q := k1 rfl; omega)
      | (have q := k2 rfl; omega)
      | (have q := k4 rfl; omega)
      | (have q := k5 rfl; omega)
      | exact id (k3 rfl)
     clear t1
     go_upto_region 7 with (fail)
     refine wp_region_lit ?_
     iterate 14 go_step
     refine wpList_lda rfl _ _ rfl g1 3 rfl _ _ _ HDG Tryz.underlying37 (by rw [List.length_map, hx]; kernel_rfl) ?_
     simp only [z_1, z_2, z_3, z_4, z_5, z_b, z_6, z_7, z_8, z_9, z_0]
     refine wpList_valg rfl (.agg (zeros.map byteV).toArray) (by as_aux_lemma => kernel_rfl) ?_
     simp only [z_1, z_2, z_3, z_4, z_5, z_b, z_6, z_7, z_8, z_9, z_0]
     go_wp2_with fail
     go_ret
     exact ⟨by rw [HV.out]; rfl, X.out⟩
    have dt1 : (x.typ.toList == []) = true := by rw [str_empty, decide_eq_true_iff]; exact t1
    by_cases z0 : x.size = 0
    rotate_left
    ·have dz0 : (x.size != 0) = true := by rw [bne_iff_ne]; exact z0
     have HV : Hid (good x = false) := by
      show _ = _
      rw [Bool.eq_false_iff]
      intro h
      have h := (good_iff x).1 h
      rw [← HFL.out] at h
      obtain ⟨-, k1, k2, k3, k4, k5, k6, k7, k8, k9, k10⟩ := h
      first
      | omega
      | (have q := k1 rfl; omega)
      | (have q := k2 rfl; omega)
      | (have q := k4 rfl; omega)
      | (have q := k5 rfl; omega)
      | exact id (k3 rfl)
     clear z0
     go_upto_region 7 with (fail)
     refine wp_region_lit ?_
     iterate 14 go_step
     refine wpList_lda rfl _ _ rfl g1 3 rfl _ _ _ HDG Tryz.underlying37 (by rw [List.length_map, hx]; kernel_rfl) ?_
     simp only [z_1, z_2, z_3, z_4, z_5, z_b, z_6, z_7, z_8, z_9, z_0]
     refine wpList_valg rfl (.agg (zeros.map byteV).toArray) (by as_aux_lemma => kernel_rfl) ?_
     simp only [z_1, z_2, z_3, z_4, z_5, z_b, z_6, z_7, z_8, z_9, z_0]
     go_wp2_with fail
     go_ret
     exact ⟨by rw [HV.out]; rfl, X.out⟩
    have dz0 : (x.size != 0) = false := by rw [z0]; rfl
    by_cases a0 : x.at_ = 0
    rotate_left
    ·have da0 : (x.at_ != 0) = true := by rw [bne_iff_ne]; exact a0
     have HV : Hid (good x = false) := by
      show _ = _
      rw [Bool.eq_false_iff]
      intro h
      have h := (good_iff x).1 h
      rw [← HFL.out] at h
      obtain ⟨-, k1, k2, k3, k4, k5, k6, k7, k8, k9, k10⟩ := h
      first
      | omega
      | (have q := k1 rfl; omega)
      | (have q := k2 rfl; omega)
      | (have q := k4 rfl; omega)
      | (have q := k5 rfl; omega)
      | exact id (k3 rfl)
     clear a0
     go_upto_region 7 with (fail)
     refine wp_region_lit ?_
     iterate 14 go_step
     refine wpList_lda rfl _ _ rfl g1 3 rfl _ _ _ HDG Tryz.underlying37 (by rw [List.length_map, hx]; kernel_rfl) ?_
     simp only [z_1, z_2, z_3, z_4, z_5, z_b, z_6, z_7, z_8, z_9, z_0]
     refine wpList_valg rfl (.agg (zeros.map byteV).toArray) (by as_aux_lemma => kernel_rfl) ?_
     simp only [z_1, z_2, z_3, z_4, z_5, z_b, z_6, z_7, z_8, z_9, z_0]
     go_wp2_with fail
     go_ret
     exact ⟨by rw [HV.out]; rfl, X.out⟩
    have da0 : (x.at_ != 0) = false := by rw [a0]; rfl
    have e1 : decide ((x.typ.size : Int) ≤ 100) = true := by rw [decide_eq_true_iff]; omega
    have e2 : decide ((0 : Int) ≤ x.size) = true := by rw [decide_eq_true_iff]; omega
    have e3 : decide (x.size ≤ 1048576) = true := by rw [decide_eq_true_iff]; omega
    have e4 : decide ((0 : Int) ≤ x.at_) = true := by rw [decide_eq_true_iff]; omega
    have e5 : decide (x.at_ ≤ 1099511627776) = true := by rw [decide_eq_true_iff]; omega
    have HV : Hid (good x = true) := (good_iff x).2 (by
     rw [← HFL.out]
     refine ⟨hk, fun h => ?_, fun h => ?_, fun h => ?_, fun h => ?_, fun h => ?_, by omega, by omega, by omega, by omega, by omega⟩ <;> first | (simp at h; done) | omega | exact HDZ.out)
    clear n1 n2 n3 n4 t1 z0 a0
    go_upto_region 7 with (fail)
    refine wp_region_lit ?_
    iterate 14 go_step
    refine wpList_lda rfl _ _ rfl g1 3 rfl _ _ _ HDG Tryz.underlying37 (by rw [List.length_map, hx]; kernel_rfl) ?_
    simp only [z_1, z_2, z_3, z_4, z_5, z_b, z_6, z_7, z_8, z_9, z_0]
    refine wpList_valg rfl (.agg (zeros.map byteV).toArray) (by as_aux_lemma => kernel_rfl) ?_
    simp only [z_1, z_2, z_3, z_4, z_5, z_b, z_6, z_7, z_8, z_9, z_0]
    go_wp2_with fail
    go_ret
    exact ⟨by rw [HV.out]; rfl, X.out⟩
    -- C}
   ·
    -- {D
    rw [show (F.cells ⟨false, true, true, false⟩) = [.bool false, .bool true, .bool true, .bool false] from rfl]
    go_upto_region 4 with (fail)
    have hbf : Blk (w2.alloc (Obj.cells #[Value.bool false, Value.bool true, Value.bool true, Value.bool false] 130)) w2.heap.size 130 [.bool false, .bool true, .bool true, .bool false] := Blk.new w2 130 #[Value.bool false, Value.bool true, Value.bool true, Value.bool false]
    have hxf := Reg.Ext.alloc w2 (Obj.cells #[Value.bool false, Value.bool true, Value.bool true, Value.bool false] 130)
    have H1n := y_ (H1.out.ext hxf)
    have Xn := y_ (X.out.trans hxf)
    clear H1 X hxf c0
    have H1 := H1n
    have X := Xn
    clear H1n Xn
    generalize w2.alloc (Obj.cells #[Value.bool false, Value.bool true, Value.bool true, Value.bool false] 130) = wi at *
    generalize w2.heap.size = g3 at *
    have p0 : wi.cell? ⟨g3, 0, none⟩ = some (.bool false) := hbf.cell 0
    have p1 : wi.cell? ⟨g3, 1, none⟩ = some (.bool true) := hbf.cell 1
    have p2 : wi.cell? ⟨g3, 2, none⟩ = some (.bool true) := hbf.cell 2
    have p3 : wi.cell? ⟨g3, 3, none⟩ = some (.bool false) := hbf.cell 3
    have q1 : wi.cell? ⟨g1, 1, none⟩ = some (.string x.repo) := H1.out.cell 1
    have q2 : wi.cell? ⟨g1, 2, none⟩ = some (.string x.tag) := H1.out.cell 2
    have q35 : wi.cell? ⟨g1, 35, none⟩ = some (.string x.typ) := by rw [H1.out.cell, at35 x hx]
    have q36 : wi.cell? ⟨g1, 36, none⟩ = some (.int .i64 x.size) := by rw [H1.out.cell, at36 x hx]
    have q37 : wi.cell? ⟨g1, 37, none⟩ = some (.int .i64 x.at_) := by rw [H1.out.cell, at37 x hx]
    have HDG : Hid (wi.rangeAt g1 3 (x.dig.map byteV)) := range_dig H1.out
    clear hbf
    by_cases r1 : x.repo.size = 0
    rotate_left
    ·have dr1 : (x.repo.toList == []) = false := by rw [str_empty, decide_eq_false_iff_not]; exact r1
     by_cases n1 : 1 ≤ x.repo.size
     rotate_left
     ·have dn1 : decide ((1 : Int) ≤ (x.repo.size : Int)) = false := by rw [decide_eq_false_iff_not]; omega
      have HV : Hid (good x = false) := by
       show _ = _
       rw [Bool.eq_false_iff]
       intro h
       have h := (good_iff x).1 h
       rw [← HFL.out] at h
       obtain ⟨-, k1, k2, k3, k4, k5, k6, k7, k8, k9, k10⟩ := h
       first
       | omega
       | (have q := k1 rfl; omega)
       | (have q := k2 rfl; omega)
       | (have q := k4 rfl; omega)
       | (have q := k5 rfl; omega)
       | exact id (k3 rfl)
      clear n1
      go_wp2_with fail
      go_ret
      exact ⟨by rw [HV.out]; rfl, X.out⟩
     have dn1 : decide ((1 : Int) ≤ (x.repo.size : Int)) = true := by rw [decide_eq_true_iff]; omega
     by_cases n2 : x.repo.size ≤ 128
     rotate_left
     ·have dn2 : decide ((x.repo.size : Int) ≤ 128) = false := by rw [decide_eq_false_iff_not]; omega
      have HV : Hid (good x = false) := by
       show _ = _
       rw [Bool.eq_false_iff]
       intro h
       have h := (good_iff x).1 h
       rw [← HFL.out] at h
       obtain ⟨-, k1, k2, k3, k4, k5, k6, k7, k8, k9, k10⟩ := h
       first
       | omega
       | (have q := k1 rfl; omega)
       | (have q := k2 rfl; omega)
       | (have q := k4 rfl; omega)
       | (have q := k5 rfl; omega)
       | exact id (k3 rfl)
      clear n2
      go_wp2_with fail
      go_ret
      exact ⟨by rw [HV.out]; rfl, X.out⟩
     have dn2 : decide ((x.repo.size : Int) ≤ 128) = true := by rw [decide_eq_true_iff]; omega
     by_cases n3 : 1 ≤ x.tag.size
     rotate_left
     ·have dn3 : decide ((1 : Int) ≤ (x.tag.size : Int)) = false := by rw [decide_eq_false_iff_not]; omega
      have HV : Hid (good x = false) := by
       show _ = _
       rw [Bool.eq_false_iff]
       intro h
       have h := (good_iff x).1 h
       rw [← HFL.out] at h
       obtain ⟨-, k1, k2, k3, k4, k5, k6, k7, k8, k9, k10⟩ := h
       first
       | omega
       | (have q := k1 rfl; omega)
       | (have q := k2 rfl; omega)
       | (have q := k4 rfl; omega)
       | (have q := k5 rfl; omega)
       | exact id (k3 rfl)
      clear n3
      go_wp2_with fail
      go_ret
      exact ⟨by rw [HV.out]; rfl, X.out⟩
     have dn3 : decide ((1 : Int) ≤ (x.tag.size : Int)) = true := by rw [decide_eq_true_iff]; omega
     by_cases n4 : x.tag.size ≤ 128
     rotate_left
     ·have dn4 : decide ((x.tag.size : Int) ≤ 128) = false := by rw [decide_eq_false_iff_not]; omega
      have HV : Hid (good x = false) := by
       show _ = _
       rw [Bool.eq_false_iff]
       intro h
       have h := (good_iff x).1 h
       rw [← HFL.out] at h
       obtain ⟨-, k1, k2, k3, k4, k5, k6, k7, k8, k9, k10⟩ := h
       first
       | omega
       | (have q := k1 rfl; omega)
       | (have q := k2 rfl; omega)
       | (have q := k4 rfl; omega)
       | (have q := k5 rfl; omega)
       | exact id (k3 rfl)
      clear n4
      go_wp2_with fail
      go_ret
      exact ⟨by rw [HV.out]; rfl, X.out⟩
     have dn4 : decide ((x.tag.size : Int) ≤ 128) = true := by rw [decide_eq_true_iff]; omega
     have HV : Hid (good x = false) := by
      show _ = _
      rw [Bool.eq_false_iff]
      intro h
      have h := (good_iff x).1 h
      rw [← HFL.out] at h
      obtain ⟨-, k1, k2, k3, k4, k5, k6, k7, k8, k9, k10⟩ := h
      first
      | omega
      | (have q := k1 rfl; omega)
      | (have q := k2 rfl; omega)
      | (have q := k4 rfl; omega)
      | (have q := k5 rfl; omega)
      | exact id (k3 rfl)
     clear r1 n1 n2 n3 n4
     go_wp2_with fail
     go_ret
     exact ⟨by rw [HV.out]; rfl, X.out⟩
    have dr1 : (x.repo.toList == []) = true := by rw [str_empty, decide_eq_true_iff]; exact r1
    have dn1 : decide ((1 : Int) ≤ (x.repo.size : Int)) = false := by rw [decide_eq_false_iff_not]; omega
    by_cases r2 : x.tag.size = 0
    rotate_left
    ·have dr2 : (x.tag.toList == []) = false := by rw [str_empty, decide_eq_false_iff_not]; exact r2
     have HV : Hid (good x = false) := by
      show _ = _
      rw [Bool.eq_false_iff]
      intro h
      have h := (good_iff x).1 h
      rw [← HFL.out] at h
      obtain ⟨-, k1, k2, k3, k4, k5, k6, k7, k8, k9, k10⟩ := h
      first
      | omega
      | (have q := k1 rfl; omega)
      | (have q := k2 rfl; omega)
      | (have q := k4 rfl; omega)
      | (have q := k5 rfl; omega)
      | exact id (k3 rfl)
     clear r2
     go_wp2_with fail
     go_ret
     exact ⟨by rw [HV.out]; rfl, X.out⟩
    have dr2 : (x.tag.toList == []) = true := by rw [str_empty, decide_eq_true_iff]; exact r2
    by_cases a0 : x.at_ = 0
    rotate_left
    ·have da0 : (x.at_ != 0) = true := by rw [bne_iff_ne]; exact a0
     have HV : Hid (good x = false) := by
      show _ = _
      rw [Bool.eq_false_iff]
      intro h
      have h := (good_iff x).1 h
      rw [← HFL.out] at h
      obtain ⟨-, k1, k2, k3, k4, k5, k6, k7, k8, k9, k10⟩ := h
      first
      | omega
      | (have q := k1 rfl; omega)
      | (have q := k2 rfl; omega)
      | (have q := k4 rfl; omega)
      | (have q := k5 rfl; omega)
      | exact id (k3 rfl)
     clear a0
     go_wp2_with fail
     go_ret
     exact ⟨by rw [HV.out]; rfl, X.out⟩
    have da0 : (x.at_ != 0) = false := by rw [a0]; rfl
    by_cases t1 : x.typ.size ≤ 100
    rotate_left
    ·have dt1 : decide ((x.typ.size : Int) ≤ 100) = false := by rw [decide_eq_false_iff_not]; omega
     have HV : Hid (good x = false) := by
      show _ = _
      rw [Bool.eq_false_iff]
      intro h
      have h := (good_iff x).1 h
      rw [← HFL.out] at h
      obtain ⟨-, k1, k2, k3, k4, k5, k6, k7, k8, k9, k10⟩ := h
      first
      | omega
      | (have q := k1 rfl; omega)
      | (have q := k2 rfl; omega)
      | (have q := k4 rfl; omega)
      | (have q := k5 rfl; omega)
      | exact id (k3 rfl)
     clear t1
     go_wp2_with fail
     go_ret
     exact ⟨by rw [HV.out]; rfl, X.out⟩
    have dt1 : decide ((x.typ.size : Int) ≤ 100) = true := by rw [decide_eq_true_iff]; omega
    by_cases z0 : 0 ≤ x.size
    rotate_left
    ·have dz0 : decide ((0 : Int) ≤ x.size) = false := by rw [decide_eq_false_iff_not]; omega
     have HV : Hid (good x = false) := by
      show _ = _
      rw [Bool.eq_false_iff]
      intro h
      have h := (good_iff x).1 h
      rw [← HFL.out] at h
      obtain ⟨-, k1, k2, k3, k4, k5, k6, k7, k8, k9, k10⟩ := h
      first
      | omega
      | (have q := k1 rfl; omega)
      | (have q := k2 rfl; omega)
      | (have q := k4 rfl; omega)
      | (have q := k5 rfl; omega)
      | exact id (k3 rfl)
     clear z0
     go_wp2_with fail
     go_ret
     exact ⟨by rw [HV.out]; rfl, X.out⟩
    have dz0 : decide ((0 : Int) ≤ x.size) = true := by rw [decide_eq_true_iff]; omega
    by_cases z1 : x.size ≤ 1048576
    rotate_left
    ·have dz1 : decide (x.size ≤ 1048576) = false := by rw [decide_eq_false_iff_not]; omega
     have HV : Hid (good x = false) := by
      show _ = _
      rw [Bool.eq_false_iff]
      intro h
      have h := (good_iff x).1 h
      rw [← HFL.out] at h
      obtain ⟨-, k1, k2, k3, k4, k5, k6, k7, k8, k9, k10⟩ := h
      first
      | omega
      | (have q := k1 rfl; omega)
      | (have q := k2 rfl; omega)
      | (have q := k4 rfl; omega)
      | (have q := k5 rfl; omega)
      | exact id (k3 rfl)
     clear z1
     go_wp2_with fail
     go_ret
     exact ⟨by rw [HV.out]; rfl, X.out⟩
    have dz1 : decide (x.size ≤ 1048576) = true := by rw [decide_eq_true_iff]; omega
    have e4 : decide ((0 : Int) ≤ x.at_) = true := by rw [decide_eq_true_iff]; omega
    have e5 : decide (x.at_ ≤ 1099511627776) = true := by rw [decide_eq_true_iff]; omega
    have HV : Hid (good x = true) := (good_iff x).2 (by
     rw [← HFL.out]
     refine ⟨hk, fun h => ?_, fun h => ?_, fun h => ?_, fun h => ?_, fun h => ?_, by omega, by omega, by omega, by omega, by omega⟩ <;> first | (simp at h; done) | omega | exact HDZ.out)
    clear r1 r2 a0 t1 z0 z1
    go_wp2_with fail
    go_ret
    exact ⟨by rw [HV.out]; rfl, X.out⟩
    -- D}
   ·
    -- {E
    rw [show (F.cells ⟨false, true, false, false⟩) = [.bool false, .bool true, .bool false, .bool false] from rfl]
    go_upto_region 4 with (fail)
    have hbf : Blk (w2.alloc (Obj.cells #[Value.bool false, Value.bool true, Value.bool false, Value.bool false] 130)) w2.heap.size 130 [.bool false, .bool true, .bool false, .bool false] := Blk.new w2 130 #[Value.bool false, Value.bool true, Value.bool false, Value.bool false]
    have hxf := Reg.Ext.alloc w2 (Obj.cells #[Value.bool false, Value.bool true, Value.bool false, Value.bool false] 130)
    have H1n := y_ (H1.out.ext hxf)
    have Xn := y_ (X.out.trans hxf)
    clear H1 X hxf c0
    have H1 := H1n
    have X := Xn
    clear H1n Xn
    generalize w2.alloc (Obj.cells #[Value.bool false, Value.bool true, Value.bool false, Value.bool false] 130) = wi at *
    generalize w2.heap.size = g3 at *
    have p0 : wi.cell? ⟨g3, 0, none⟩ = some (.bool false) := hbf.cell 0
    have p1 : wi.cell? ⟨g3, 1, none⟩ = some (.bool true) := hbf.cell 1
    have p2 : wi.cell? ⟨g3, 2, none⟩ = some (.bool false) := hbf.cell 2
    have p3 : wi.cell? ⟨g3, 3, none⟩ = some (.bool false) := hbf.cell 3
    have q1 : wi.cell? ⟨g1, 1, none⟩ = some (.string x.repo) := H1.out.cell 1
    have q2 : wi.cell? ⟨g1, 2, none⟩ = some (.string x.tag) := H1.out.cell 2
    have q35 : wi.cell? ⟨g1, 35, none⟩ = some (.string x.typ) := by rw [H1.out.cell, at35 x hx]
    have q36 : wi.cell? ⟨g1, 36, none⟩ = some (.int .i64 x.size) := by rw [H1.out.cell, at36 x hx]
    have q37 : wi.cell? ⟨g1, 37, none⟩ = some (.int .i64 x.at_) := by rw [H1.out.cell, at37 x hx]
    have HDG : Hid (wi.rangeAt g1 3 (x.dig.map byteV)) := range_dig H1.out
    clear hbf
    by_cases r1 : x.repo.size = 0
    rotate_left
    ·have dr1 : (x.repo.toList == []) = false := by rw [str_empty, decide_eq_false_iff_not]; exact r1
     by_cases n1 : 1 ≤ x.repo.size
     rotate_left
     ·have dn1 : decide ((1 : Int) ≤ (x.repo.size : Int)) = false := by rw [decide_eq_false_iff_not]; omega
      have HV : Hid (good x = false) := by
       show _ = _
       rw [Bool.eq_false_iff]
       intro h
       have h := (good_iff x).1 h
       rw [← HFL.out] at h
       obtain ⟨-, k1, k2, k3, k4, k5, k6, k7, k8, k9, k10⟩ := h
       first
       | omega
       | (have q := k1 rfl; omega)
       | (have q := k2 rfl; omega)
       | (have q := k4 rfl; omega)
       | (have q := k5 rfl; omega)
       | exact id (k3 rfl)
      clear n1
      go_wp2_with fail
      go_ret
      exact ⟨by rw [HV.out]; rfl, X.out⟩
     have dn1 : decide ((1 : Int) ≤ (x.repo.size : Int)) = true := by rw [decide_eq_true_iff]; omega
     by_cases n2 : x.repo.size ≤ 128
     rotate_left
     ·have dn2 : decide ((x.repo.size : Int) ≤ 128) = false := by rw [decide_eq_false_iff_not]; omega
      have HV : Hid (good x = false) := by
       show _ = _
       rw [Bool.eq_false_iff]
       intro h
       have h := (good_iff x).1 h
       rw [← HFL.out] at h
       obtain ⟨-, k1, k2, k3, k4, k5, k6, k7, k8, k9, k10⟩ := h
       first
       | omega
       | (have q := k1 rfl; omega)
       | (have q := k2 rfl; omega)
       | (have q := k4 rfl; omega)
       | (have q := k5 rfl; omega)
       | exact id (k3 rfl)
      clear n2
      go_wp2_with fail
      go_ret
      exact ⟨by rw [HV.out]; rfl, X.out⟩
     have dn2 : decide ((x.repo.size : Int) ≤ 128) = true := by rw [decide_eq_true_iff]; omega
     by_cases n3 : 1 ≤ x.tag.size
     rotate_left
     ·have dn3 : decide ((1 : Int) ≤ (x.tag.size : Int)) = false := by rw [decide_eq_false_iff_not]; omega
      have HV : Hid (good x = false) := by
       show _ = _
       rw [Bool.eq_false_iff]
       intro h
       have h := (good_iff x).1 h
       rw [← HFL.out] at h
       obtain ⟨-, k1, k2, k3, k4, k5, k6, k7, k8, k9, k10⟩ := h
       first
       | omega
       | (have q := k1 rfl; omega)
       | (have q := k2 rfl; omega)
       | (have q := k4 rfl; omega)
       | (have q := k5 rfl; omega)
       | exact id (k3 rfl)
      clear n3
      go_wp2_with fail
      go_ret
      exact ⟨by rw [HV.out]; rfl, X.out⟩
     have dn3 : decide ((1 : Int) ≤ (x.tag.size : Int)) = true := by rw [decide_eq_true_iff]; omega
     by_cases n4 : x.tag.size ≤ 128
     rotate_left
     ·have dn4 : decide ((x.tag.size : Int) ≤ 128) = false := by rw [decide_eq_false_iff_not]; omega
      have HV : Hid (good x = false) := by
       show _ = _
       rw [Bool.eq_false_iff]
       intro h
       have h := (good_iff x).1 h
       rw [← HFL.out] at h
       obtain ⟨-, k1, k2, k3, k4, k5, k6, k7, k8, k9, k10⟩ := h
       first
       | omega
       | (have q := k1 rfl; omega)
       | (have q := k2 rfl; omega)
       | (have q := k4 rfl; omega)
       | (have q := k5 rfl; omega)
       | exact id (k3 rfl)
      clear n4
      go_wp2_with fail
      go_ret
      exact ⟨by rw [HV.out]; rfl, X.out⟩
     have dn4 : decide ((x.tag.size : Int) ≤ 128) = true := by rw [decide_eq_true_iff]; omega
     have HV : Hid (good x = false) := by
      show _ = _
      rw [Bool.eq_false_iff]
      intro h
      have h := (good_iff x).1 h
      rw [← HFL.out] at h
      obtain ⟨-, k1, k2, k3, k4, k5, k6, k7, k8, k9, k10⟩ := h
      first
      | omega
      | (have q := k1 rfl; omega)
      | (have q := k2 rfl; omega)
      | (have q := k4 rfl; omega)
      | (have q := k5 rfl; omega)
      | exact id (k3 rfl)
     clear r1 n1 n2 n3 n4
     go_wp2_with fail
     go_ret
     exact ⟨by rw [HV.out]; rfl, X.out⟩
    have dr1 : (x.repo.toList == []) = true := by rw [str_empty, decide_eq_true_iff]; exact r1
    have dn1 : decide ((1 : Int) ≤ (x.repo.size : Int)) = false := by rw [decide_eq_false_iff_not]; omega
    by_cases r2 : x.tag.size = 0
    rotate_left
    ·have dr2 : (x.tag.toList == []) = false := by rw [str_empty, decide_eq_false_iff_not]; exact r2
     have HV : Hid (good x = false) := by
      show _ = _
      rw [Bool.eq_false_iff]
      intro h
      have h := (good_iff x).1 h
      rw [← HFL.out] at h
      obtain ⟨-, k1, k2, k3, k4, k5, k6, k7, k8, k9, k10⟩ := h
      first
      | omega
      | (have q := k1 rfl; omega)
      | (have q := k2 rfl; omega)
      | (have q := k4 rfl; omega)
      | (have q := k5 rfl; omega)
      | exact id (k3 rfl)
     clear r2
     go_wp2_with fail
     go_ret
     exact ⟨by rw [HV.out]; rfl, X.out⟩
    have dr2 : (x.tag.toList == []) = true := by rw [str_empty, decide_eq_true_iff]; exact r2
    by_cases t1 : x.typ.size = 0
    rotate_left
    ·have dt1 : (x.typ.toList == []) = false := by rw [str_empty, decide_eq_false_iff_not]; exact t1
     have HV : Hid (good x = false) := by
      show _ = _
      rw [Bool.eq_false_iff]
      intro h
      have h := (good_iff x).1 h
      rw [← HFL.out] at h
      obtain ⟨-, k1, k2, k3, k4, k5, k6, k7, k8, k9, k10⟩ := h
      first
      | omega
      | (have q := k1 rfl; omega)
      | (have q := k2 rfl; omega)
      | (have q := k4 rfl; omega)
      | (have q := k5 rfl; omega)
      | exact id (k3 rfl)
     clear t1
     go_wp2_with fail
     go_ret
     exact ⟨by rw [HV.out]; rfl, X.out⟩
    have dt1 : (x.typ.toList == []) = true := by rw [str_empty, decide_eq_true_iff]; exact t1
    by_cases z0 : x.size = 0
    rotate_left
    ·have dz0 : (x.size != 0) = true := by rw [bne_iff_ne]; exact z0
     have HV : Hid (good x = false) := by
      show _ = _
      rw [Bool.eq_false_iff]
      intro h
      have h := (good_iff x).1 h
      rw [← HFL.out] at h
      obtain ⟨-, k1, k2, k3, k4, k5, k6, k7, k8, k9, k10⟩ := h
      first
      | omega
      | (have q := k1 rfl; omega)
      | (have q := k2 rfl; omega)
      | (have q := k4 rfl; omega)
      | (have q := k5 rfl; omega)
      | exact id (k3 rfl)
     clear z0
     go_wp2_with fail
     go_ret
     exact ⟨by rw [HV.out]; rfl, X.out⟩
    have dz0 : (x.size != 0) = false := by rw [z0]; rfl
    by_cases a0 : x.at_ = 0
    rotate_left
    ·have da0 : (x.at_ != 0) = true := by rw [bne_iff_ne]; exact a0
     have HV : Hid (good x = false) := by
      show _ = _
      rw [Bool.eq_false_iff]
      intro h
      have h := (good_iff x).1 h
      rw [← HFL.out] at h
      obtain ⟨-, k1, k2, k3, k4, k5, k6, k7, k8, k9, k10⟩ := h
      first
      | omega
      | (have q := k1 rfl; omega)
      | (have q := k2 rfl; omega)
      | (have q := k4 rfl; omega)
      | (have q := k5 rfl; omega)
      | exact id (k3 rfl)
     clear a0
     go_wp2_with fail
     go_ret
     exact ⟨by rw [HV.out]; rfl, X.out⟩
    have da0 : (x.at_ != 0) = false := by rw [a0]; rfl
    have e1 : decide ((x.typ.size : Int) ≤ 100) = true := by rw [decide_eq_true_iff]; omega
    have e2 : decide ((0 : Int) ≤ x.size) = true := by rw [decide_eq_true_iff]; omega
    have e3 : decide (x.size ≤ 1048576) = true := by rw [decide_eq_true_iff]; omega
    have e4 : decide ((0 : Int) ≤ x.at_) = true := by rw [decide_eq_true_iff]; omega
    have e5 : decide (x.at_ ≤ 1099511627776) = true := by rw [decide_eq_true_iff]; omega
    have HV : Hid (good x = true) := (good_iff x).2 (by
     rw [← HFL.out]
     refine ⟨hk, fun h => ?_, fun h => ?_, fun h => ?_, fun h => ?_, fun h => ?_, by omega, by omega, by omega, by omega, by omega⟩ <;> first | (simp at h; done) | omega | exact HDZ.out)
    clear r1 r2 a0 t1 z0
    go_wp2_with fail
    go_ret
    exact ⟨by rw [HV.out]; rfl, X.out⟩
    -- E}
end Slp
end Go.Proofs.YtafeealbdpmdkaaGreatDoor

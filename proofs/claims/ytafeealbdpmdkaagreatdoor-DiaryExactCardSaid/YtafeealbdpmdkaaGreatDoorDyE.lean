/- The walks of records, Rewrite, Len, Sure, Size, Sick. -/
import Derived.Test.YtafeealbdpmdkaaGreatDoorDyD
set_option linter.unusedSimpArgs false
set_option linter.unusedVariables false
set_option linter.unusedSectionVars false
open Go.Act renaming put → z_1, eval → z_2
open List renaming setIfInBounds_toArray → z_3, set_cons_zero → z_4, set_cons_succ → z_5, getElem?_toArray → z_7, getElem?_cons_succ → z_8, getElem?_cons_zero → z_9
open Array renaming getD_eq_getD_getElem? → z_6
open Option renaming getD_some → z_0
open Go.Lib renaming hid → y_
open List renaming size_toArray → z_a
open Nat renaming reduceAdd → z_b
open List renaming toList_toArray → z_c
-- squeezed
namespace Go.Proofs.YtafeealbdpmdkaaGreatDoor
open Go Go.RowKit
namespace Plk
open Slp (S good frame body frames allP Row RdS)
def recV (xs : List S) : Value := if allGood xs = true then .tuple #[.string ⟨(frames xs).toArray⟩, .int .i64 0] else .tuple #[.string ⟨#[]⟩, .int .i64 1]
theorem frames_le (xs : List S) (h : ∀ x ∈ xs, x.dig.length = 32) (hg : allGood xs = true) : (frames xs).length ≤ 1030 * xs.length := by
 induction xs with
 | nil => simp [frames]
 | cons x xs ih =>
   unfold allGood at hg
   rw [List.all_cons, Bool.and_eq_true] at hg
   have h1 := (body_size (h x (List.mem_cons_self ..)) hg.1).1
   have h2 := ih (fun y hy => h y (List.mem_cons_of_mem _ hy)) hg.2
   rw [Slp.frames_cons, List.length_append, List.length_cons]
   omega
theorem cells_app (a b : List UInt8) : Lib.byteCells (a ++ b) = Lib.byteCells a ++ Lib.byteCells b := Lib.byteCells_append a b
set_option maxRecDepth 100000 in
set_option maxHeartbeats 4000000 in
theorem records_any (xs : List S) (v : Value) (w : World) (ha : RdS v xs w) (hl : xs.length ≤ 1000) (hT : Crc.Tab w) :
  Calls Tryz.prog 56 #[v] w fun e w' => e = .returned (recV xs) ∧ Reg.Ext w w' := by
 obtain ⟨hd, p, c, rfl, -, hr⟩ := ha
 have HD := y_ hd
 have HR := y_ hr
 have HT := y_ hT
 have HLL := y_ hl
 clear hd hr hT hl
 have hb0 : Lib.IsBuilder 120 5 w.heap.size w.heap.size (Lib.byteCells []) (w.alloc (.cells #[.pointer none, .slice none 0 0] 120)) := Lib.fresh_isBuilder _ _ w
 have hx0 := Reg.Ext.alloc w (.cells #[.pointer none, .slice none 0 0] 120)
 have hc0 : (w.alloc (.cells #[.pointer none, .slice none 0 0] 120)).cell? ⟨w.heap.size, 1, none⟩ = some (.slice none 0 0) := (Blk.new w 120 #[.pointer none, .slice none 0 0]).cell 1
 go_enter Tryz.func56, Tryz.ntmps56
 go_wp2_with fail
 generalize w.alloc (.cells #[.pointer none, .slice none 0 0] 120) = w0 at *
 obtain ⟨B, hB⟩ : ∃ B, w.heap.size = B := ⟨_, rfl⟩
 rw [hB] at hb0 hc0 ⊢
 have HBW := y_ hB
 clear hB
 have HB0 := y_ hb0
 have HX0 := y_ hx0
 have HC0 := y_ hc0
 clear hb0 hx0 hc0
 go_loopw [6, 7, 8, 11] (fun _ _ _ i wr => ∃ k : Nat, k ≤ xs.length ∧ i = .int .i64 (k : Int) ∧ Hid (allGood (xs.take k) = true) ∧ Hid (Lib.IsBuilder 120 5 B B (Lib.byteCells (frames (xs.take k))) wr) ∧ Hid (Reg.Ext w wr) ∧ Hid (k = 0 → wr.cell? ⟨B, 1, none⟩ = some (.slice none 0 0))) (fun _ _ _ i _ => xs.length - (intOf i).toNat)
 case atStart => exact ⟨0, Nat.zero_le _, rfl, y_ rfl, HB0, HX0, y_ fun _ => HC0.out⟩
 case round =>
  obtain ⟨k, hk, rfl, HG, HB, HX, HC⟩ := hrel
  by_cases hkl : k < xs.length
  ·obtain ⟨g, o, rfl, hrk⟩ := HR.out k hkl
   have hk63 : k < 9223372036854775807 := by have := HLL.out; omega
   have hxd := HD.out xs[k] (List.getElem_mem hkl)
   have HTK := y_ (List.take_succ_eq_append_getElem hkl)
   have hbad : good xs[k] = false → allGood xs = false := fun hg => by
    rw [Bool.eq_false_iff]
    intro h
    unfold allGood at h
    rw [List.all_eq_true] at h
    rw [h _ (List.getElem_mem hkl)] at hg
    cases hg
   have HBAD := y_ hbad
   clear hbad
   generalize xs[k] = x at *
   have HRK := y_ (Slp.rangeAt_ext hrk HX.out)
   clear hrk
   go_upto_region 4 with (fail)
   refine wp_region_lit ?_
   iterate 3 go_step
   refine Slp.wpList_ldm rfl _ _ rfl g (o + k * 38) rfl _ _ HRK Slp.undS (by rw [Slp.cells_length x hxd]; exact Slp.size38) ?_
   simp only [z_1, z_2, z_3, z_4, z_5, z_b, z_6, z_7, z_8, z_9, z_0]
   iterate 3 go_step
   rw [Slp.z38]
   have hb8 := Slp.boxS wr S.none
   have hx8 := Reg.Ext.alloc wr (Obj.cells S.none.cells.toArray 39)
   have hsx := HX.out.size
   generalize wr.alloc (Obj.cells S.none.cells.toArray 39) = w8 at *
   obtain ⟨g8, hg8⟩ : ∃ g8, wr.heap.size = g8 := ⟨_, rfl⟩
   rw [hg8] at hb8 ⊢
   refine wpList_store_mid rfl 39 _ _ rfl g8 0 ((x).cells).toArray rfl ?_ (hb8.there _ (by have e1 := Slp.cells_length _ hxd; have e2 := Slp.cells_length _ Slp.none_dig; rw [z_a]; omega)) (by rw [z_a, Slp.cells_length _ hxd]; exact Slp.size38) (all_oneCell_toArray (Slp.oneS _)) ?_
   ·rfl
   simp only [z_c]
   simp only [z_1, z_2, z_3, z_4, z_5, z_b, z_6, z_7, z_8, z_9, z_0]
   have hbx := But.setCells g8 x.cells 0 w8
   have H8 := y_ (hb8.setAll x.cells ((Slp.cells_length _ hxd).trans (Slp.cells_length _ Slp.none_dig).symm))
   have hx9 : Reg.Ext wr (w8.setCells g8 0 x.cells) := (hx8.trans_but hbx (by omega))
   have HB2 := y_ (Bls.Is.ext HB.out hx9)
   have HX2 := y_ (HX.out.trans hx9)
   clear HB HX hx8 hb8 hbx hg8 hsx hx9 HC
   generalize w8.setCells g8 0 x.cells = wi at *
   clear w8 HRK wr
   go_upto_region 5 with (fail)
   refine wp_region_lit ?_
   refine wpList_load_row rfl 39 _ rfl g8 rfl 39 (x.cells).toArray (0, 0) _ H8.out Slp.undS rfl (by rw [z_a, Slp.cells_length x hxd]; exact Slp.size38) ?_
   simp only [z_1, z_2, z_3, z_4, z_5, z_b, z_6, z_7, z_8, z_9, z_0]
   repeat go_step
   obtain ⟨gx, hgx⟩ : ∃ b, good x = b := ⟨_, rfl⟩
   cases gx with
   | false =>
     have HV : Hid (recV xs = .tuple #[.string ⟨#[]⟩, .int .i64 1]) := y_ (by unfold recV; rw [HBAD.out hgx, if_neg (by decide)])
     refine (Slp.write_bad x hxd hgx wi).mono ?_
     rintro e w1 ⟨rfl, hx1⟩
     have HX3 := y_ (HX2.out.trans hx1)
     clear hx1 HBAD hgx HTK HG
     rename_i hK
     refine hK _ _ ?_
     go_wp2_with fail
     go_ret2
     exact ⟨by rw [HV.out]; rfl, HX3.out⟩
   | true =>
     have HL := y_ (body_size hxd hgx).1
     have HG2 : Hid (allGood (xs.take (k + 1)) = true) := y_ (by rw [HTK.out]; have := HG.out; unfold allGood at *; rw [List.all_append, this]; simp [hgx])
     have HFL : Hid ((frames (xs.take k)).length ≤ 1030000) := y_ (by
      have h1 := frames_le (xs.take k) (fun y hy => HD.out y (List.mem_of_mem_take hy)) HG.out
      rw [List.length_take] at h1
      have := HLL.out
      omega)
     refine (Slp.write_ok x hxd hgx wi (HT.out.below HX2.out)).mono ?_
     rintro e w1 ⟨rfl, hx1⟩
     have HX3 := y_ (HX2.out.trans hx1)
     have HB3 := y_ (Bls.Is.ext HB2.out hx1)
     have HFR : Hid (frames (xs.take (k + 1)) = frames (xs.take k) ++ frame (body x)) := y_ (by rw [HTK.out, Slp.frames_snoc])
     clear hx1 HBAD hgx HTK HG HB2 HX2
     generalize frame (body x) = t at *
     rename_i hK
     refine hK _ _ ?_
     go_wp2_with fail
     refine (Bls.string_any B B _ ⟨t.toArray⟩ w1 HB3.out (by rw [Lib.byteCells_length]; have := HFL.out; have := HL.out; show _ + t.length ≤ _; omega) (by have := HX3.out.size; have := HBW.out; omega)).mono ?_
     rintro e w2 ⟨rfl, hbb, hxb⟩
     have HB4 : Hid (Lib.IsBuilder 120 5 B B (Lib.byteCells (frames (xs.take (k + 1)))) w2) := by
      show Lib.IsBuilder _ _ _ _ _ _
      rw [HFR.out, cells_app]
      exact .inr hbb
     have HX4 : Hid (Reg.Ext w w2) := Below.trans HX3.out (by rw [← HBW.out] at hxb; exact hxb)
     clear hbb hxb HB3 HX3 HFR
     go_wp2_with fail
     go_roundw
     case rel => exact ⟨k + 1, by omega, by go_num, HG2, HB4, HX4, y_ (by omega)⟩
     case measure => simp [intOf]; omega
  ·have hke : k = xs.length := by omega
   subst hke
   rw [List.take_length] at HB HG
   have HV : Hid (recV xs = .tuple #[.string ⟨(frames xs).toArray⟩, .int .i64 0]) := y_ (by unfold recV; rw [HG.out, if_pos rfl])
   by_cases hx : xs = []
   ·subst hx
    have HC1 := y_ (HC.out rfl)
    go_wp2_with fail
    refine (Bls.str_nil B wr HC1.out).mono ?_
    rintro e w2 ⟨rfl, hx2⟩
    go_wp2_with fail
    go_ret2
    exact ⟨by rw [HV.out]; rfl, HX.out.trans hx2⟩
   ·have hne : frames xs ≠ [] := by
     obtain ⟨y, ys, rfl⟩ := List.exists_cons_of_ne_nil hx
     rw [Slp.frames_cons]
     intro h
     have := congrArg List.length h
     rw [List.length_append, Slp.frame_len] at this
     simp at this
    have HST := y_ (Bls.str_any B B (frames xs) wr HB.out hne)
    clear hx hne HB HG
    go_wp2_with fail
    refine HST.out.mono ?_
    rintro e w2 ⟨rfl, hx2⟩
    have HX4 : Hid (Reg.Ext w w2) := Below.trans HX.out (by rw [← HBW.out] at hx2; exact hx2)
    go_wp2_with fail
    go_ret2
    exact ⟨by rw [HV.out]; rfl, HX4.out⟩
set_option maxRecDepth 100000 in
set_option maxHeartbeats 2000000 in
theorem rewrite_any {w : World} {d mp : Nat} {es : List E} {p : P} {g : Nat} {y : Y} (h : Dy w d mp es p g y) (hb : p.h.ops + 5 < big) (xs : List S) (v : Value) (ha : RdS v xs w) (hl : xs.length ≤ 1000) (hT : Crc.Tab w) :
  Calls Tryz.prog 25 #[.pointer (some ⟨g, 0, none⟩), v] w (ResY d mp g w es (.int .i64 (rewP p y xs).1) (rewP p y xs).2.1 (rewP p y xs).2.2) := by
 have H0 := y_ h
 have HB := y_ hb
 have CR := y_ (records_any xs v w ha hl hT)
 have HLF := y_ (fun hg => frames_le xs ha.1 hg)
 obtain ⟨hd, pv, c, rfl, -, -⟩ := ha
 have HLL := y_ hl
 clear h hb hT hd hl
 unfold recV at CR
 generalize hr : rewP p y xs = r
 unfold rewP at hr
 obtain ⟨gb, hgb⟩ : ∃ b, allGood xs = b := ⟨_, rfl⟩
 rw [hgb] at CR hr HLF
 clear hgb
 cases gb with
 | false =>
   rw [if_pos rfl] at hr
   rw [if_neg (by decide)] at CR
   have HR := y_ hr.symm
   clear hr
   go_enter Tryz.func25, Tryz.ntmps25
   go_wp2_with (go_at_call 56; refine CR.out.mono ?_; rintro e w1 ⟨rfl, hx1⟩)
   go_ret
   exact ResY.mk HR.out (H0.out.ext hx1) (TurnG.ext hx1)
 | true =>
   rw [if_neg (by decide)] at hr
   rw [if_pos rfl] at CR
   have HF : Hid ((frames xs).length ≤ 4294967296) := y_ (by have := HLF.out rfl; have := HLL.out; omega)
   generalize frames xs = s at *
   obtain ⟨e1, p1, E1⟩ : ∃ e1 p1, Hid (p.replace s = (e1, p1)) := ⟨_, _, rfl⟩
   have hr := y_ hr
   have HR := hr.out
   rw [E1.out] at HR
   clear hr HLF
   by_cases he : e1 = 0
   ·subst he
    rw [if_neg (fun h => h rfl)] at HR
    have HRR := y_ HR.symm
    clear HR
    go_enter Tryz.func25, Tryz.ntmps25
    go_wp2_with (first
     | (go_at_call 56; refine CR.out.mono ?_; rintro e w1 ⟨rfl, hx1⟩; have H1 := y_ (H0.out.ext hx1); have X1 := y_ hx1; clear hx1)
     | (go_at_call 57; refine (replace_any H1.out HB.out s HF.out E1.out).mono ?_; rintro e w2 ⟨rfl, es2, k2, t2⟩; have H2 := y_ (H1.out.turn k2 t2); have TT2 : Hid (TurnG d mp g w es w2 es2) := y_ ((TurnG.ext X1.out).trans (.of t2)); clear k2 t2; have f1 := H2.out.blk.frozen 1; have f2 := H2.out.blk.frozen 2; have f3 := H2.out.blk.frozen 3; have f4 := H2.out.blk.frozen 4; obtain ⟨c0, c1, c2, c3, c4⟩ := H2.out.c))
    go_ret
    obtain ⟨n, sure, size, sick⟩ := y
    have k3 := H2.out.set_ (y' := ⟨(xs.length : Int), sure, size, sick⟩) 1 (.int .i64 (xs.length : Int)) rfl
    have k4 := k3.1.set_ (y' := ⟨(xs.length : Int), (xs.length : Int), size, sick⟩) 2 (.int .i64 (xs.length : Int)) rfl
    have k5 := k4.1.set_ (y' := ⟨(xs.length : Int), (xs.length : Int), (s.length : Int), sick⟩) 3 (.int .i64 (s.length : Int)) rfl
    have k6 := k5.1.set_ (y' := ⟨(xs.length : Int), (xs.length : Int), (s.length : Int), false⟩) 4 (.bool false) rfl
    exact ResY.mk HRR.out k6.1 ((((TT2.out.trans (.but k3.2)).trans (.but k4.2)).trans (.but k5.2)).trans (.but k6.2))
   ·rw [if_pos he] at HR
    have HRR := y_ HR.symm
    have z1 := ne_z he
    clear HR he
    go_enter Tryz.func25, Tryz.ntmps25
    go_wp2_with (first
     | (go_at_call 56; refine CR.out.mono ?_; rintro e w1 ⟨rfl, hx1⟩; have H1 := y_ (H0.out.ext hx1); have X1 := y_ hx1; clear hx1)
     | (go_at_call 57; refine (replace_any H1.out HB.out s HF.out E1.out).mono ?_; rintro e w2 ⟨rfl, es2, k2, t2⟩; have H2 := y_ (H1.out.turn k2 t2); have TT2 : Hid (TurnG d mp g w es w2 es2) := y_ ((TurnG.ext X1.out).trans (.of t2)); clear k2 t2))
    go_ret
    exact ResY.mk HRR.out H2.out TT2.out
section
variable {w : World} {d mp : Nat} {es : List E} {p : P} {g : Nat} {y : Y} (h : Dy w d mp es p g y)
include h
theorem len_any : Calls Tryz.prog 27 #[.pointer (some ⟨g, 0, none⟩)] w fun e w' => e = .returned (.int .i64 y.n) ∧ w' = w := by
 obtain ⟨c0, c1, c2, c3, c4⟩ := h.c
 clear h
 go_enter Tryz.func27, Tryz.ntmps27
 go_wp2_with fail
 go_ret
 exact ⟨rfl, rfl⟩
theorem sure_any : Calls Tryz.prog 28 #[.pointer (some ⟨g, 0, none⟩)] w fun e w' => e = .returned (.int .i64 y.sure) ∧ w' = w := by
 obtain ⟨c0, c1, c2, c3, c4⟩ := h.c
 clear h
 go_enter Tryz.func28, Tryz.ntmps28
 go_wp2_with fail
 go_ret
 exact ⟨rfl, rfl⟩
theorem ysize_any : Calls Tryz.prog 29 #[.pointer (some ⟨g, 0, none⟩)] w fun e w' => e = .returned (.int .i64 y.size) ∧ w' = w := by
 obtain ⟨c0, c1, c2, c3, c4⟩ := h.c
 clear h
 go_enter Tryz.func29, Tryz.ntmps29
 go_wp2_with fail
 go_ret
 exact ⟨rfl, rfl⟩
theorem sick_any : Calls Tryz.prog 30 #[.pointer (some ⟨g, 0, none⟩)] w fun e w' => e = .returned (.bool y.sick) ∧ w' = w := by
 obtain ⟨c0, c1, c2, c3, c4⟩ := h.c
 clear h
 obtain ⟨n, sure, size, sick⟩ := y
 dsimp only at c4
 cases sick
 all_goals
  go_enter Tryz.func30, Tryz.ntmps30
  go_wp2_with fail
  go_ret
  exact ⟨rfl, rfl⟩
end
end Plk
end Go.Proofs.YtafeealbdpmdkaaGreatDoor

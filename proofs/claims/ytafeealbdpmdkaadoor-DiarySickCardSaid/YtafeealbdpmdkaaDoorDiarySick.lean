/- The walk of DiarySick. -/
import Derived.Test.YtafeealbdpmdkaaDoorDyW
import Derived.Test.YtafeealbdpmdkaaDoorDyG
import Derived.Test.YtafeealbdpmdkaaDoorDyR
import Derived.Test.YtafeealbdpmdkaaDoorDyX
import Derived.Test.YtafeealbdpmdkaaDoorSpR
set_option linter.unusedSimpArgs false
set_option linter.unusedVariables false
set_option linter.unusedSectionVars false
namespace Go.Proofs.YtafeealbdpmdkaaDoor
open Go Go.RowKit
namespace Plk
open Slp (S good frame body frames allP Row RdS Fit sameL)
theorem blk_range' {w : World} {g : Nat} {t : TypeId} {cs : List Value} (h : Blk w g t cs) : w.rangeAt g 0 cs := by
  intro j v hv
  rw [Nat.zero_add]
  rw [h.cell j, hv]
/-- the chain of the log, plainly -/
theorem sick_chain {s : H} {u o : Int} {ws : List S} {x : S} (hc : Calm s 1048576 u o) (hu : u = ((frames ws).length : Int)) (hf : Fit ws) (hx : x.dig.length = 32) (hg : good x = true) (hws : (frames ws).length ≤ 100000) :
    ∃ s1 s2 s3 s4 s5 s6 s7,
      addP ⟨d1 (frames ws) 0, s.arm 1 1 0⟩ ⟨(ws.length : Int), 0, ((frames ws).length : Int), false⟩ x = (11, ⟨d1 (frames ws) 0, s1⟩, ⟨(ws.length : Int), 0, ((frames ws).length : Int), true⟩) ∧
      rewP ⟨d1 (frames ws) 0, s1.arm 2 1 0⟩ ⟨(ws.length : Int), 0, ((frames ws).length : Int), true⟩ [x] = (11, ⟨d2 (frames ws) 0 [] 0, s2⟩, ⟨(ws.length : Int), 0, ((frames ws).length : Int), true⟩) ∧
      P.load ⟨d2 (frames ws) 0 [] 0, s2⟩ = (frames ws, 0, ⟨d1 (frames ws) (frames ws).length, s3⟩) ∧
      rewP ⟨d1 (frames ws) (frames ws).length, s3⟩ ⟨(ws.length : Int), 0, ((frames ws).length : Int), true⟩ [x] = (0, ⟨d1 (frames [x]) (frames [x]).length, s4⟩, ⟨1, 1, ((frames [x]).length : Int), false⟩) ∧
      addP ⟨d1 (frames [x]) (frames [x]).length, s4⟩ ⟨1, 1, ((frames [x]).length : Int), false⟩ x = (0, ⟨d1 (frames [x, x]) (frames [x]).length, s5⟩, ⟨2, 1, ((frames [x]).length : Int) + ((frame (body x)).length : Int), false⟩) ∧
      syncP ⟨d1 (frames [x, x]) (frames [x]).length, s5⟩ ⟨2, 1, ((frames [x]).length : Int) + ((frame (body x)).length : Int), false⟩ = (0, ⟨d1 (frames [x, x]) (frames [x, x]).length, s6⟩, ⟨2, 2, ((frames [x]).length : Int) + ((frame (body x)).length : Int), false⟩) ∧
      P.load ⟨d1 (frames [x, x]) (frames [x, x]).length, s6⟩ = (frames [x, x], 0, ⟨d1 (frames [x, x]) (frames [x, x]).length, s7⟩) ∧
      s1.ops ≤ o + 1 ∧ s2.ops ≤ o + 3 ∧ s3.ops ≤ o + 6 ∧ s4.ops ≤ o + 10 ∧ s5.ops ≤ o + 11 ∧ s6.ops ≤ o + 12 := by
  have hb := body_size hx hg
  have e1 : frames [x] = frame (body x) := by simp [frames]
  have e2 : frames [x, x] = frames [x] ++ frame (body x) := by simp [frames]
  subst hu
  obtain ⟨s1, E1, c1⟩ := io_add hc (d1 (frames ws) 0) (x := x) (y := ⟨(ws.length : Int), 0, ((frames ws).length : Int), false⟩) rfl hg
  obtain ⟨s2, E2, c2⟩ := io_rew c1 (frames ws) 0 ⟨(ws.length : Int), 0, ((frames ws).length : Int), true⟩ [x] (by simp) (by simp [allGood, hg])
  obtain ⟨s3, E3, c3⟩ := load2 c2 (frames ws) [] 0 0
  obtain ⟨s4, E4, c4⟩ := rew1 c3 (frames ws) (frames ws).length ⟨(ws.length : Int), 0, ((frames ws).length : Int), true⟩ [x] (by simp [allGood, hg]) (by rw [e1]; simp; omega)
  obtain ⟨s5, E5, c5⟩ := add1 c4 (frames [x]) (frames [x]).length (x := x) (y := ⟨1, 1, ((frames [x]).length : Int), false⟩) rfl hg (by rw [e1]; simp; omega)
  obtain ⟨s6, k6, E6, c6, q6, -⟩ := syn1 c5 (frames [x] ++ frame (body x)) (frames [x]).length (y := ⟨2, 1, ((frames [x]).length : Int) + ((frame (body x)).length : Int), false⟩) rfl
  have hk6 := q6 (by show (1 : Int) ≠ 2; decide)
  subst hk6
  obtain ⟨s7, E7, c7⟩ := load1 c6 (frames [x] ++ frame (body x)) (frames [x] ++ frame (body x)).length
  have o1 := c1.ops
  have o2 := c2.ops
  have o3 := c3.ops
  have o4 := c4.ops
  have o5 := c5.ops
  have o6 := c6.ops
  refine ⟨s1, s2, s3, s4, s5, s6, s7, E1, E2, E3, E4, ?_, ?_, ?_, by omega, by omega, by omega, by omega, by omega, by omega⟩
  · rw [e2]; exact E5
  · rw [e2]; exact E6
  · rw [e2]; exact E7
set_option maxRecDepth 100000 in
set_option maxHeartbeats 8000000 in
theorem sick_law (v0 : Value) (xs : List S) (x : S) (w : World) (hr0 : RdS v0 xs w) (hx : x.dig.length = 32) (hT : Crc.Tab w) :
    Calls Tryd.prog 5 #[v0, .agg x.cells.toArray] w fun e w' => e = .returned (.bool true) ∧ Reg.Ext w w' := by
  have HD0 := Lib.hid hr0.1
  have HX0 := Lib.hid (Reg.Ext.alloc w (Obj.cells x.cells.toArray 37))
  have HR0 := Lib.hid (hr0.ext HX0.out)
  obtain ⟨-, p0, c0, rfl, -, -⟩ := hr0
  have HT := Lib.hid (hT.below HX0.out)
  have hbx := Slp.boxS w x
  clear hT
  go_enter Tryd.func5, Tryd.ntmps5
  go_upto_region 1 with (fail)
  generalize w.alloc (Obj.cells x.cells.toArray 37) = W at *
  obtain ⟨bx, hbxe⟩ : ∃ b, w.heap.size = b := ⟨_, rfl⟩
  rw [hbxe] at hbx ⊢
  have HBX := Lib.hid (fun w' (h : Reg.Ext W w') => blk_range' (hbx.ext h))
  clear hbxe hbx
  go_upto_region 3 with (go_at_call 6; refine (awake_any W HT.out).mono ?_; rintro e wa ⟨rfl, hx⟩; have XA := Lib.hid hx; clear hx)
  refine wp_region_lit ?_
  iterate 3 go_step
  refine Slp.wpList_sl _ rfl bx 0 rfl x hx (Lib.hid (HBX.out _ XA.out)) rfl ?_
  simp only [Act.put, Act.eval, List.setIfInBounds_toArray, List.set_cons_zero, List.set_cons_succ, Nat.reduceAdd, Array.getD_eq_getD_getElem?, List.getElem?_toArray, List.getElem?_cons_succ, List.getElem?_cons_zero, Option.getD_some]
  refine wpList_blx _ _ rfl p0 xs.length c0 x hx rfl rfl rfl ?_
  simp only [Act.put, Act.eval, List.setIfInBounds_toArray, List.set_cons_zero, List.set_cons_succ, Nat.reduceAdd, Array.getD_eq_getD_getElem?, List.getElem?_toArray, List.getElem?_cons_succ, List.getElem?_cons_zero, Option.getD_some]
  repeat go_step
  refine (great_any 0 0 0 0 x p0 c0 xs Slp.noStr hx _ (HR0.out.ext XA.out)).mono ?_
  rintro e wb ⟨rfl, hz⟩
  have XB := Lib.hid (XA.out.trans hz)
  clear hz
  rename_i hK
  refine hK _ _ ?_
  clear hK
  obtain ⟨b0, hb0⟩ : ∃ b, greatA x xs Slp.noStr = b := ⟨_, rfl⟩
  rw [hb0]
  cases b0 with
  | true =>
    clear hb0
    go_wp2_with fail
    go_ret
    exact ⟨rfl, HX0.out.trans XB.out⟩
  | false =>
  iterate 3 go_step
  refine Slp.wpList_sl _ rfl bx 0 rfl x hx (Lib.hid (HBX.out _ XB.out)) rfl ?_
  simp only [Act.put, Act.eval, List.setIfInBounds_toArray, List.set_cons_zero, List.set_cons_succ, Nat.reduceAdd, Array.getD_eq_getD_getElem?, List.getElem?_toArray, List.getElem?_cons_succ, List.getElem?_cons_zero, Option.getD_some]
  repeat go_step
  refine (Slp.goodR_any x hx _).mono ?_
  rintro e wc ⟨rfl, hz⟩
  have XC := Lib.hid (XB.out.trans hz)
  clear hz
  rename_i hK
  refine hK _ _ ?_
  clear hK
  obtain ⟨b1, hb1⟩ : ∃ b, good x = b := ⟨_, rfl⟩
  rw [hb1]
  cases b1 with
  | false =>
    clear hb1 hb0
    go_wp2_with fail
    go_ret
    exact ⟨rfl, HX0.out.trans XC.out⟩
  | true =>
  have h20 : xs.length ≤ 20 := great_len hb0
  have HG := Lib.hid hb1
  clear hb0 hb1 XA XB
  obtain ⟨s0, hs0, c0'⟩ : ∃ s0, new 1048576 = ⟨[], s0⟩ ∧ Calm s0 1048576 0 0 := ⟨_, rfl, ⟨rfl, .inl rfl, by decide, rfl, Int.le_refl _⟩⟩
  obtain ⟨s1, E1, c1'⟩ := load0 c0'
  rw [← hs0] at E1
  have CO := Lib.hid (fun (w : World) d mp (h : Dg w d mp [] (new 1048576)) (hx : Reg.Ext W w) (ho : ∀ i, Own d mp [] i → W.heap.size ≤ i) => lw_open h hx ho HT.out (by rw [hs0]; have := c0'.ops; show s0.ops + 4 < big; unfold big; omega) E1 (show opened [] = ⟨0, 0, 0, false⟩ by unfold opened; rw [Slp.allP_nil]; rfl))
  have HC1 := Lib.hid c1'
  clear hs0 E1 c0' c1'
  go_upto_region 9 with (first
    | (go_at_call 7; refine (Dg.new 1048576 _).mono ?_; rintro e x0 ⟨d, mp, rfl, h0, hx0, ho0⟩; have HO := Lib.hid (fun i hi => Nat.le_trans XC.out.size (ho0 i hi)); have X0 := Lib.hid (XC.out.trans hx0); clear hx0 ho0)
    | (go_at_call 8; refine (CO.out _ _ _ h0 X0.out HO.out).mono ?_; rintro e x1 ⟨es1, g, pp, cc, rfl, k⟩; have K1 := Lib.hid k; clear h0 HO k))
  go_upto_region 10 with (fail)
  have hrow := row_empty x1 x1.heap.size (Nat.le_refl _)
  have hxa := Reg.Ext.alloc x1 (.cells #[] 37)
  have K2 := Lib.hid (K1.out.ext hxa)
  have hgl := K1.out.dy.out.1
  have hlt : x1.heap.size < (x1.alloc (.cells #[] 37)).heap.size := by simp
  have H2 : Hid (Held (x1.alloc (.cells #[] 37)) d mp es1 g x1.heap.size (.slice (some ⟨x1.heap.size, 0, none⟩) 0 0) []) := Lib.hid ⟨hrow, fun b hb => by
    have hb : x1.heap.size = b := by injection hb
    subst hb
    exact ⟨by omega, hlt, fun o => by have := K1.out.dy.dg.dk.own_lt o; omega⟩⟩
  have HB : Hid (W.heap.size ≤ x1.heap.size) := Lib.hid K1.out.base.1.size
  have HBL : Hid (x1.heap.size ≤ (x1.alloc (.cells #[] 37)).heap.size) := Lib.hid hxa.size
  clear hrow hxa hgl hlt K1 X0 CO
  generalize x1.alloc (.cells #[] 37) = x2 at *
  obtain ⟨B, hB⟩ : ∃ B, x1.heap.size = B := ⟨_, rfl⟩
  rw [hB] at H2 HB HBL ⊢
  clear hB
  have HA0 : Hid (Adding W x2 d mp g B (.slice (some ⟨B, 0, none⟩) 0 0) xs 0 es1 s1) := Lib.hid ⟨K2.out, HC1.out.le rfl (Int.le_refl _), H2.out⟩
  clear K2 H2 HC1
  go_wp2_with fail
  go_loopw [9, 10] (fun v i wr => RelA W d mp g B xs v i wr) (fun _ i _ => xs.length - (intOf i).toNat)
  case atStart => exact ⟨0, es1, s1, Nat.zero_le _, rfl, HA0, HBL⟩
  case round =>
    obtain ⟨k, es, s, hk, rfl, HA, HBW⟩ := hrel
    clear HA0 HBL
    by_cases hkl : k < xs.length
    · obtain ⟨p', c', e1, -, hrr⟩ := HR0.out.2
      injection e1 with e1 _ _
      subst e1
      obtain ⟨ga, oa, rfl, hrk⟩ := hrr k hkl
      have hx := HD0.out xs[k] (List.getElem_mem hkl)
      have HRK := Lib.hid (Slp.rangeAt_ext hrk HA.out.lw.base.1)
      have HRK0 := Lib.hid hrk
      obtain ⟨b, hb⟩ : ∃ b, good xs[k] = b := ⟨_, rfl⟩
      have hk20 : k < 9223372036854775807 := by omega
      clear hrr hrk
      cases b with
      | false =>
        have CA := Lib.hid (HA.out.bad_ HD0.out hkl h20 HT.out hb)
        have hcl : Calm s 1048576 ((frames (okS (xs.take (k + 1)))).length : Int) (3 + ((k + 1 : Nat) : Int)) := HA.out.calm.le (by rw [okS_bad hkl hb]) (by omega)
        have hok := Lib.hid (okS_bad hkl hb)
        have HC := Lib.hid hcl
        clear hcl
        have HH := Lib.hid HA.out.held
        clear HA
        clear hb
        generalize xs[k] = x at *
        go_upto_region 13 with (fail)
        refine wp_region_lit ?_
        iterate 12 go_step
        refine Slp.wpList_sl _ rfl ga (oa + k * 38) rfl x hx HRK rfl ?_
        simp only [Act.put, Act.eval, List.setIfInBounds_toArray, List.set_cons_zero, List.set_cons_succ, Nat.reduceAdd, Array.getD_eq_getD_getElem?, List.getElem?_toArray, List.getElem?_cons_succ, List.getElem?_cons_zero, Option.getD_some]
        repeat go_step
        refine (CA.out).mono ?_
        rintro e w5 ⟨rfl, es5, k5, t5⟩
        have K5 := Lib.hid k5
        have T5 := Lib.hid t5
        clear k5 t5 CA
        rename_i hK
        refine hK _ _ ?_
        clear hK
        go_wp2_with fail
        go_roundw
        case rel => exact ⟨k + 1, es5, s, by omega, by go_num, Lib.hid ⟨K5.out, HC.out, by rw [hok.out]; exact HH.out.turn T5.out⟩, Lib.hid (Nat.le_trans HBW.out T5.out.size)⟩
        case measure => simp [intOf]; omega
      | true =>
        obtain ⟨q, s', CA, hq, hc⟩ := HA.out.good_ HD0.out hkl h20 HT.out hb
        subst hq
        have CA := Lib.hid CA
        have HC := Lib.hid hc
        have hok := Lib.hid (okS_good hkl hb)
        have HH := Lib.hid HA.out.held
        have HLN := Lib.hid (okS_len xs k)
        clear hc HA
        clear hb
        generalize xs[k] = x at *
        go_upto_region 13 with (fail)
        refine wp_region_lit ?_
        iterate 12 go_step
        refine Slp.wpList_sl _ rfl ga (oa + k * 38) rfl x hx HRK rfl ?_
        simp only [Act.put, Act.eval, List.setIfInBounds_toArray, List.set_cons_zero, List.set_cons_succ, Nat.reduceAdd, Array.getD_eq_getD_getElem?, List.getElem?_toArray, List.getElem?_cons_succ, List.getElem?_cons_zero, Option.getD_some]
        repeat go_step
        refine (CA.out).mono ?_
        rintro e w5 ⟨rfl, es5, k5, t5⟩
        have K5 := Lib.hid k5
        have T5 := Lib.hid t5
        clear k5 t5 CA
        rename_i hK
        refine hK _ _ ?_
        clear hK
        have H5 := Lib.hid (HH.out.turn T5.out)
        have HB5 := Lib.hid (Nat.le_trans HBW.out T5.out.size)
        have HRK5 := Lib.hid (Slp.rangeAt_ext HRK0.out K5.out.base.1)
        clear HH T5 HBW HRK0
        go_upto_region 14 with (fail)
        refine wp_region_lit ?_
        iterate 12 go_step
        refine Slp.wpList_sl _ rfl ga (oa + k * 38) rfl x hx HRK5 rfl ?_
        simp only [Act.put, Act.eval, List.setIfInBounds_toArray, List.set_cons_zero, List.set_cons_succ, Nat.reduceAdd, Array.getD_eq_getD_getElem?, List.getElem?_toArray, List.getElem?_cons_succ, List.getElem?_cons_zero, Option.getD_some]
        refine Slp.wpList_r1 _ rfl x hx rfl rfl ?_
        intro gg w6 hgg hlt hz hbl _
        have K6 := Lib.hid (K5.out.ext hz)
        have H6 := Lib.hid (H5.out.turn (TurnG.ext hz))
        have HB6 := Lib.hid (Nat.le_trans HB5.out hz.size)
        clear hz K5 H5 HB5 hlt hgg HRK5
        simp only [Act.put, Act.eval, List.setIfInBounds_toArray, List.set_cons_zero, List.set_cons_succ, Nat.reduceAdd, Array.getD_eq_getD_getElem?, List.getElem?_toArray, List.getElem?_cons_succ, List.getElem?_cons_zero, Option.getD_some]
        refine Slp.wpList_push rfl _ _ rfl u9 (okS (xs.take k)) B gg x hx rfl rfl hbl H6.out.1 HB6.out (by have := HLN.out; omega) ?_
        intro v' w7 hr7 hg7 hat7
        have K7 := Lib.hid (K6.out.grown H6.out HB.out hg7)
        have H7 := Lib.hid (Held.grown K6.out H6.out HB6.out hg7 hr7 hat7)
        have HB7 := Lib.hid (Nat.le_trans HB6.out hg7.size)
        clear hr7 hg7 hat7 K6 H6 HB6 hbl
        go_wp2_with fail
        go_roundw
        case rel => exact ⟨k + 1, es5, s', by omega, by go_num, Lib.hid ⟨K7.out, HC.out, by rw [hok.out]; exact H7.out⟩, HB7⟩
        case measure => simp [intOf]; omega
    · have hke : k = xs.length := by omega
      subst hke
      have hh := HA.out.held
      have hlw := HA.out.lw
      have hcm := HA.out.calm
      rw [List.take_length] at hh hlw hcm
      have hfs := okS_fit HD0.out xs.length
      rw [List.take_length] at hfs
      have hws := okS_len xs xs.length
      rw [List.take_length] at hws
      have hfl := frames_le (okS xs) (fun x hx => (hfs x hx).1) (fit_good hfs)
      have K0 := Lib.hid hlw
      obtain ⟨-, pw, cw, hv, -, -⟩ := hh.rd
      subst hv
      have HW0 := Lib.hid hh
      clear hh hlw HA HR0 HD0
      generalize okS xs = ws at *
      obtain ⟨s1, s2, s3, s4, s5, s6, s7, E1, E2, E3, E4, E5, E6, E7, o1, o2, o3, o4, o5, o6⟩ := sick_chain hcm rfl hfs hx HG.out (by omega)
      have hb := body_size hx HG.out
      have hf2 : Fit [x, x] := fun y hy => by
        rcases List.mem_cons.1 hy with rfl | hy
        · exact ⟨hx, HG.out⟩
        · rw [List.mem_singleton.1 hy]; exact ⟨hx, HG.out⟩
      have hl1 : (frames [x]).length = (frame (body x)).length := by simp [frames]
      have hl2 : (frames [x, x]).length ≤ 1048576 := by simp [frames]; omega
      have ho := hcm.ops
      have a0 := (arm_keep s 1 1 0).2.2.1
      have a1 := (arm_keep s1 2 1 0).2.2.1
      have F0 : Y.Fine ⟨(ws.length : Int), 0, ((frames ws).length : Int), false⟩ := fine_of _ _ (by omega) (by omega) _ _
      have F1 : Y.Fine ⟨(ws.length : Int), 0, ((frames ws).length : Int), true⟩ := fine_of _ _ (by omega) (by omega) _ _
      have F2 : Y.Fine ⟨1, 1, ((frames [x]).length : Int), false⟩ := fine_of 1 _ (by omega) (by omega) _ _
      have B0 : Hid (s.ops < big) := Lib.hid (by unfold big; omega)
      have B1 : Hid (s1.ops < big) := Lib.hid (by unfold big; omega)
      have C1 := Lib.hid (fun (w : World) es (h : Lw W w d mp es ⟨d1 (frames ws) 0, s.arm 1 1 0⟩ g ⟨(ws.length : Int), 0, ((frames ws).length : Int), false⟩) => h.add F0 (by show (s.arm 1 1 0).ops < big; unfold big; omega) x hx HT.out E1)
      have C2 := Lib.hid (fun (w : World) es (h : Lw W w d mp es ⟨d1 (frames ws) 0, s1⟩ g ⟨(ws.length : Int), 0, ((frames ws).length : Int), true⟩) => h.add F1 (by show s1.ops < big; unfold big; omega) x hx HT.out (add_sick rfl))
      have C3 := Lib.hid (fun (w : World) es (h : Lw W w d mp es ⟨d1 (frames ws) 0, s1⟩ g ⟨(ws.length : Int), 0, ((frames ws).length : Int), true⟩) => h.sync (by show s1.ops < big; unfold big; omega) (sync_sick rfl))
      have C4 := Lib.hid (fun (w : World) es (h : Lw W w d mp es ⟨d1 (frames ws) 0, s1.arm 2 1 0⟩ g ⟨(ws.length : Int), 0, ((frames ws).length : Int), true⟩) (u : Value) (hr : RdS u [x] w) => h.rew (by show (s1.arm 2 1 0).ops + 5 < big; unfold big; omega) [x] u hr (by simp) HT.out E2)
      have C5 := Lib.hid (fun (w : World) es (h : Lw W w d mp es ⟨d2 (frames ws) 0 [] 0, s2⟩ g ⟨(ws.length : Int), 0, ((frames ws).length : Int), true⟩) => h.again (by show s2.ops + 4 < big; unfold big; omega) E3 (by omega) HT.out (xs := ws) (by rw [Slp.allP_whole ws hfs]) (opened_whole hfs))
      have C6 := Lib.hid (fun (w : World) es (h : Lw W w d mp es ⟨d1 (frames ws) (frames ws).length, s3⟩ g ⟨(ws.length : Int), 0, ((frames ws).length : Int), true⟩) (u : Value) (hr : RdS u [x] w) => h.rew (by show s3.ops + 5 < big; unfold big; omega) [x] u hr (by simp) HT.out E4)
      have C7 := Lib.hid (fun (w : World) es (h : Lw W w d mp es ⟨d1 (frames [x]) (frames [x]).length, s4⟩ g ⟨1, 1, ((frames [x]).length : Int), false⟩) => h.add F2 (by show s4.ops < big; unfold big; omega) x hx HT.out E5)
      have C8 := Lib.hid (fun (w : World) es (h : Lw W w d mp es ⟨d1 (frames [x, x]) (frames [x]).length, s5⟩ g ⟨2, 1, ((frames [x]).length : Int) + ((frame (body x)).length : Int), false⟩) => h.sync (by show s5.ops < big; unfold big; omega) E6)
      have C9 := Lib.hid (fun (w : World) es (h : Lw W w d mp es ⟨d1 (frames [x, x]) (frames [x, x]).length, s6⟩ g ⟨2, 2, ((frames [x]).length : Int) + ((frame (body x)).length : Int), false⟩) => h.again (by show s6.ops + 4 < big; unfold big; omega) E7 hl2 HT.out (xs := [x, x]) (by rw [Slp.allP_whole [x, x] hf2]) (opened_whole hf2))
      have CS1 := Lib.hid (fun (w : World) es q (h : Lw W w d mp es q g ⟨(ws.length : Int), 0, ((frames ws).length : Int), true⟩) => show Calls Tryd.prog 17 #[.pointer (some ⟨g, 0, none⟩)] w fun e w' => e = .returned (.bool true) ∧ w' = w from h.sick)
      have CL1 := Lib.hid (fun (w : World) es q (h : Lw W w d mp es q g ⟨(ws.length : Int), 0, ((frames ws).length : Int), true⟩) => show Calls Tryd.prog 20 #[.pointer (some ⟨g, 0, none⟩)] w fun e w' => e = .returned (.int .i64 (ws.length : Int)) ∧ w' = w from h.len)
      have CS2 := Lib.hid (fun (w : World) es q (h : Lw W w d mp es q g ⟨1, 1, ((frames [x]).length : Int), false⟩) => show Calls Tryd.prog 17 #[.pointer (some ⟨g, 0, none⟩)] w fun e w' => e = .returned (.bool false) ∧ w' = w from h.sick)
      have CM1 := Lib.hid (show ∀ (u v : Value) (w : World), RdS u ws w → RdS v ws w → Calls Tryd.prog 19 #[u, v] w fun e w' => e = .returned (.bool true) ∧ Reg.Ext w w' from fun u v w h1 h2 => by rw [← (Slp.sameL_iff ws ws).2 rfl]; exact Slp.same_any u v ws ws w h1 h2)
      have CM2 := Lib.hid (show ∀ (u v : Value) (w : World), RdS u [x, x] w → RdS v [x, x] w → Calls Tryd.prog 19 #[u, v] w fun e w' => e = .returned (.bool true) ∧ Reg.Ext w w' from fun u v w h1 h2 => by rw [← (Slp.sameL_iff [x, x] [x, x]).2 rfl]; exact Slp.same_any u v [x, x] [x, x] w h1 h2)
      clear E1 E2 E3 E4 E5 E6 E7 o1 o2 o3 o4 o5 o6 hb hf2 hl1 hl2 ho a0 a1 F0 F1 F2 hcm hfs hfl HG
      generalize frames ws = fw at *
      generalize frames [x, x] = fxx at *
      generalize frames [x] = fx at *
      go_upto_region 16 with (go_at_call 9; refine (K0.out.arm 1 1 0 B0.out).mono ?_; rintro e z1 ⟨rfl, es1', k, t⟩; have K1 := Lib.hid k; have HW1 := Lib.hid (HW0.out.turn t); clear k t)
      refine wp_region_lit ?_
      iterate 3 go_step
      refine Slp.wpList_sl _ rfl bx 0 rfl x hx (Lib.hid (HBX.out _ K1.out.base.1)) rfl ?_
      simp only [Act.put, Act.eval, List.setIfInBounds_toArray, List.set_cons_zero, List.set_cons_succ, Nat.reduceAdd, Array.getD_eq_getD_getElem?, List.getElem?_toArray, List.getElem?_cons_succ, List.getElem?_cons_zero, Option.getD_some]
      repeat go_step
      refine (C1.out _ _ K1.out).mono ?_
      rintro e z ⟨rfl, esK2, k, t⟩
      have K2 := Lib.hid k
      have HW2 := Lib.hid (HW1.out.turn t)
      clear k t
      rename_i hK
      refine hK _ _ ?_
      clear hK
      repeat go_step
      refine (CS1.out _ _ _ K2.out).mono ?_
      rintro e _ ⟨rfl, rfl⟩
      rename_i hK zq
      refine hK _ _ ?_
      clear hK
      iterate 10 go_step
      refine Slp.wpList_sl _ rfl bx 0 rfl x hx (Lib.hid (HBX.out _ K2.out.base.1)) rfl ?_
      simp only [Act.put, Act.eval, List.setIfInBounds_toArray, List.set_cons_zero, List.set_cons_succ, Nat.reduceAdd, Array.getD_eq_getD_getElem?, List.getElem?_toArray, List.getElem?_cons_succ, List.getElem?_cons_zero, Option.getD_some]
      repeat go_step
      refine (C2.out _ _ K2.out).mono ?_
      rintro e z ⟨rfl, esK3, k, t⟩
      have K3 := Lib.hid k
      have HW3 := Lib.hid (HW2.out.turn t)
      clear k t
      rename_i hK
      refine hK _ _ ?_
      clear hK
      go_upto_region 19 with (first
        | (go_at_call 12; refine (C3.out _ _ K3.out).mono ?_; rintro e z4 ⟨rfl, es4, k, t⟩; have K4 := Lib.hid k; have HW4 := Lib.hid (HW3.out.turn t); clear k t)
        | (go_at_call 20; refine (CL1.out _ _ _ K4.out).mono ?_; rintro e _ ⟨rfl, rfl⟩)
        | (go_at_call 9; refine (K4.out.arm 2 1 0 B1.out).mono ?_; rintro e z5 ⟨rfl, es5, k, t⟩; have K5 := Lib.hid k; have HW5 := Lib.hid (HW4.out.turn t); clear k t))
      refine wp_region_lit ?_
      iterate 3 go_step
      refine Slp.wpList_sl _ rfl bx 0 rfl x hx (Lib.hid (HBX.out _ K5.out.base.1)) rfl ?_
      simp only [Act.put, Act.eval, List.setIfInBounds_toArray, List.set_cons_zero, List.set_cons_succ, Nat.reduceAdd, Array.getD_eq_getD_getElem?, List.getElem?_toArray, List.getElem?_cons_succ, List.getElem?_cons_zero, Option.getD_some]
      refine Slp.wpList_r1 _ rfl x hx rfl rfl ?_
      intro gg z hgg hlt hz hbl hrd
      have K6 := Lib.hid (K5.out.ext hz)
      have HW6 := Lib.hid (HW5.out.turn (TurnG.ext hz))
      have HRD := Lib.hid hrd
      clear hz hgg hlt hbl hrd
      repeat go_step
      refine (C4.out _ _ K6.out _ HRD.out).mono ?_
      rintro e z ⟨rfl, esK7, k, t⟩
      have K7 := Lib.hid k
      have HW7 := Lib.hid (HW6.out.turn t)
      clear k t
      rename_i hK
      refine hK _ _ ?_
      clear hK
      clear HRD K0 K1 K2 K3 K4 K5 K6 HW0 HW1 HW2 HW3 HW4 HW5 HW6
      go_upto_region 22 with (first
        | (go_at_call 17; refine (CS1.out _ _ _ K7.out).mono ?_; rintro e _ ⟨rfl, rfl⟩)
        | (go_at_call 20; refine (CL1.out _ _ _ K7.out).mono ?_; rintro e _ ⟨rfl, rfl⟩)
        | (go_at_call 8; refine (C5.out _ _ K7.out).mono ?_; rintro e z8 ⟨es8, g8, p8, c8, rfl, k, -, hh, -, t⟩; have K8 := Lib.hid k; have HF8 := Lib.hid hh; have HW8 := Lib.hid (HW7.out.turn (.of t)); clear k hh t))
      refine wp_region_lit ?_
      repeat go_step
      refine (CM1.out _ _ _ HF8.out.rd HW8.out.rd).mono ?_
      rintro e z9 ⟨rfl, hz⟩
      have K9 := Lib.hid (K8.out.ext hz)
      have HF9 := Lib.hid (HF8.out.turn (TurnG.ext hz))
      clear hz K7 HW7 K8 HW8 HF8
      rename_i hK
      refine hK _ _ ?_
      clear hK
      iterate 10 go_step
      refine Slp.wpList_sl _ rfl bx 0 rfl x hx (Lib.hid (HBX.out _ K9.out.base.1)) rfl ?_
      simp only [Act.put, Act.eval, List.setIfInBounds_toArray, List.set_cons_zero, List.set_cons_succ, Nat.reduceAdd, Array.getD_eq_getD_getElem?, List.getElem?_toArray, List.getElem?_cons_succ, List.getElem?_cons_zero, Option.getD_some]
      refine Slp.wpList_r1 _ rfl x hx rfl rfl ?_
      intro gg z hgg hlt hz hbl hrd
      have K10 := Lib.hid (K9.out.ext hz)
      have HF10 := Lib.hid (HF9.out.turn (TurnG.ext hz))
      have HRD := Lib.hid hrd
      clear hz hgg hlt hbl hrd
      repeat go_step
      refine (C6.out _ _ K10.out _ HRD.out).mono ?_
      rintro e z ⟨rfl, esK11, k, t⟩
      have K11 := Lib.hid k
      have HF11 := Lib.hid (HF10.out.turn t)
      clear k t
      rename_i hK
      refine hK _ _ ?_
      clear hK
      repeat go_step
      refine (CS2.out _ _ _ K11.out).mono ?_
      rintro e _ ⟨rfl, rfl⟩
      rename_i hK zq
      refine hK _ _ ?_
      clear hK
      iterate 8 go_step
      refine Slp.wpList_sl _ rfl bx 0 rfl x hx (Lib.hid (HBX.out _ K11.out.base.1)) rfl ?_
      simp only [Act.put, Act.eval, List.setIfInBounds_toArray, List.set_cons_zero, List.set_cons_succ, Nat.reduceAdd, Array.getD_eq_getD_getElem?, List.getElem?_toArray, List.getElem?_cons_succ, List.getElem?_cons_zero, Option.getD_some]
      repeat go_step
      refine (C7.out _ _ K11.out).mono ?_
      rintro e z ⟨rfl, esK12, k, t⟩
      have K12 := Lib.hid k
      have HF12 := Lib.hid (HF11.out.turn t)
      clear k t
      rename_i hK
      refine hK _ _ ?_
      clear hK
      clear HRD K9 K10 K11 HF9 HF10 HF11 HF12
      go_upto_region 27 with (first
        | (go_at_call 12; refine (C8.out _ _ K12.out).mono ?_; rintro e z13 ⟨rfl, es13, k, -⟩; have K13 := Lib.hid k; clear k)
        | (go_at_call 8; ((with_reducible refine (C9.out _ _ K13.out).mono ?_); rintro e z14 ⟨es14, g14, p14, c14, rfl, k, -, -, hh, -⟩); have K14 := Lib.hid k; have HF14 := Lib.hid hh; clear k hh)
        | (go_at_call 8; refine (open_nil _).mono ?_; rintro e _ ⟨rfl, rfl⟩))
      refine wp_region_lit ?_
      iterate 11 go_step
      refine Slp.wpList_sl _ rfl bx 0 rfl x hx (Lib.hid (HBX.out _ K14.out.base.1)) rfl ?_
      simp only [Act.put, Act.eval, List.setIfInBounds_toArray, List.set_cons_zero, List.set_cons_succ, Nat.reduceAdd, Array.getD_eq_getD_getElem?, List.getElem?_toArray, List.getElem?_cons_succ, List.getElem?_cons_zero, Option.getD_some]
      refine Slp.wpList_sl _ rfl bx 0 rfl x hx (Lib.hid (HBX.out _ K14.out.base.1)) rfl ?_
      simp only [Act.put, Act.eval, List.setIfInBounds_toArray, List.set_cons_zero, List.set_cons_succ, Nat.reduceAdd, Array.getD_eq_getD_getElem?, List.getElem?_toArray, List.getElem?_cons_succ, List.getElem?_cons_zero, Option.getD_some]
      refine Slp.wpList_r2 _ _ rfl x x hx hx rfl rfl rfl ?_
      intro gg z15 hgg hz hrd
      have K15 := Lib.hid (K14.out.ext hz)
      have HF15 := Lib.hid (HF14.out.turn (TurnG.ext hz))
      have HRD := Lib.hid hrd
      clear hz hgg hrd K14 HF14 K12 K13
      repeat go_step
      refine (CM2.out _ _ _ HF15.out.rd HRD.out).mono ?_
      rintro e z16 ⟨rfl, hz⟩
      have K16 := Lib.hid (K15.out.ext hz)
      clear hz K15 HF15
      rename_i hK
      refine hK _ _ ?_
      clear hK
      iterate 18 go_step
      refine Slp.wpList_sl _ rfl bx 0 rfl x hx (Lib.hid (HBX.out _ K16.out.base.1)) rfl ?_
      simp only [Act.put, Act.eval, List.setIfInBounds_toArray, List.set_cons_zero, List.set_cons_succ, Nat.reduceAdd, Array.getD_eq_getD_getElem?, List.getElem?_toArray, List.getElem?_cons_succ, List.getElem?_cons_zero, Option.getD_some]
      repeat go_step
      refine (add_nil x _).mono ?_
      rintro e z17 ⟨rfl, hz⟩
      have K17 := Lib.hid (K16.out.ext hz)
      clear hz K16
      rename_i hK
      refine hK _ _ ?_
      clear hK
      go_wp2_with (first
        | (go_at_call 12; refine (sync_nil _).mono ?_; rintro e _ ⟨rfl, rfl⟩)
        | (go_at_call 18; refine (rew_nil _).mono ?_; rintro e _ ⟨rfl, rfl⟩)
        | (go_at_call 17; refine (sick_nil _).mono ?_; rintro e _ ⟨rfl, rfl⟩)
        | (go_at_call 20; refine (len_nil _).mono ?_; rintro e _ ⟨rfl, rfl⟩)
        | (go_at_call 13; refine (sure_nil _).mono ?_; rintro e _ ⟨rfl, rfl⟩)
        | (go_at_call 23; refine (ysize_nil _).mono ?_; rintro e _ ⟨rfl, rfl⟩))
      go_ret
      exact ⟨rfl, HX0.out.trans K17.out.base.1⟩
end Plk
end Go.Proofs.YtafeealbdpmdkaaDoor

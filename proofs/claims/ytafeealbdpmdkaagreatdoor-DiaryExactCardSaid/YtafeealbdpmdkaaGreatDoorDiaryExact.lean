/- The walk of DiaryExact. -/
import Derived.Test.YtafeealbdpmdkaaGreatDoorDzX
import Derived.Test.YtafeealbdpmdkaaGreatDoorDyW
import Derived.Deep.CutBlock
import Derived.Laws.BitsAllLaws
import Derived.Deep.DeepCutAuto
set_option linter.unusedSimpArgs false
set_option linter.unusedVariables false
set_option linter.unusedSectionVars false
open Go.Act renaming put → z_1, eval → z_2
open List renaming setIfInBounds_toArray → z_3, set_cons_zero → z_4, set_cons_succ → z_5, getElem?_toArray → z_7, getElem?_cons_succ → z_8, getElem?_cons_zero → z_9
open Array renaming getD_eq_getD_getElem? → z_6
open Option renaming getD_some → z_0
open Go.Lib renaming hid → y_
open Nat renaming reduceAdd → z_b
-- squeezed
namespace Go.Proofs.YtafeealbdpmdkaaGreatDoor
open Go Go.RowKit
namespace Plk
open Slp (S good frame body frames allP Row RdS Fit sameL)
open Rk (RD R Sim Both Newer RP plV)
theorem u8_of (x : Int) : ∃ y : UInt8, IntKind.u8.wrap x = ((y.toNat : Nat) : Int) := by
 refine ⟨UInt8.ofNat (x % 256).toNat, ?_⟩
 have h1 := Int.emod_lt_of_pos x (show (0 : Int) < 256 by decide)
 have h2 := Int.emod_nonneg x (show (256 : Int) ≠ 0 by decide)
 rw [IntKind.wrap_u8']
 have e : (UInt8.ofNat (x % 256).toNat).toNat = (x % 256).toNat % 256 := rfl
 rw [e]
 omega
theorem lo_new {W w w0 w1 : World} {d mp : Nat} {room : Int} {b : Nat} (hx : Reg.Ext W w) (h0 : Dg w0 d mp [] (new room)) (hx0 : Reg.Ext w w0) (ho : ∀ i, Own d mp [] i → w.heap.size ≤ i) (h1 : RD w1 b (.slice none 0 0) (Rk.new room)) (hb : w0.heap.size ≤ b) (hx1 : Reg.Ext w0 w1) :
  Lo W w1 d mp [] (new room) b (.slice none 0 0) (Rk.new room) (new room) := by
 have hs := hx.size
 have hs0 := hx0.size
 refine ⟨h0.ext hx1, ⟨(hx.trans hx0).trans hx1, fun i hi => Nat.le_trans hs (ho i hi)⟩, ⟨h1, ⟨rfl, rfl, rfl, rfl, rfl, fun e => absurd rfl e, fun e => by have e : (0 : Int) = 2 := e; omega, ⟨Int.le_refl _, show (0 : Int) < 4611686018427387904 by decide⟩⟩, good_new room, show (0 : Int) ≤ 1000 by decide⟩, by omega, ⟨h1.blk.lt, fun o => by have := h0.dk.own_lt o; omega⟩, fun g hg => (by cases hg)⟩
theorem Good.get_ {p : P} (h : Good p) (j : Nat) (hj : j < p.fs.length) : Nmd.get F.name p.fs[j].name p.fs = some p.fs[j] := by
 cases hg : Nmd.get F.name p.fs[j].name p.fs with
 | none => exact absurd rfl (Nmd.get_none hg _ (List.getElem_mem hj))
 | some y => rw [h.up.same y (Nmd.get_mem hg).1 _ (List.getElem_mem hj) (Nmd.get_mem hg).2]
set_option maxRecDepth 100000 in
set_option maxHeartbeats 8000000 in
theorem dexact_law (room : Int) (qa : Option Addr) (c : Nat) (us : List DA) (W : World) (hm : us.length ≤ maxLen) (hA : DActs W qa us) (hT : Crc.Tab W) :
  Calls Tryz.prog 3 #[.int .i64 room, .slice qa us.length c] W fun e w' => e = .returned (.bool true) ∧ Reg.Ext W w' := by
 have haw := y_ (fun w hT => awake_any w hT)
 have HA := y_ hA
 have HT := y_ hT
 clear hA
 unfold maxLen at hm
 obtain ⟨s1, e1, c1⟩ := load0 (s := (new room).h) (R := (new room).h.room) (u := 0) (o := 0) ⟨rfl, .inl rfl, rfl, rfl, Int.le_refl _⟩
 have E1 := y_ e1
 have HN : Hid ((allP []).1.length = 0) := y_ (by rw [Slp.allP_nil]; rfl)
 have C0 := y_ (fun (w : World) d mp b r (h : Lo W w d mp [] (new room) b (.slice none 0 0) r (new room)) => lo_open h (show (0 : Int) + 4 < big by unfold big; decide) E1.out (Nat.zero_le _) HT.out)
 have OK0 : Hid (Ok ⟨d1 [] 0, s1⟩ 0) := y_ ⟨by have := c1.ops; show s1.ops ≤ 4 + 5 * ((0 : Nat) : Int); omega, fun f hf => by
  unfold d1 at hf
  rw [List.mem_singleton.1 hf]
  exact .inl ⟨rfl, Nat.zero_le _⟩⟩
 clear c1 e1
 go_enter Tryz.func3, Tryz.ntmps3
 go_wp2_with (first
  | (go_at_call 4; refine (haw.out _ hT).mono ?_; rintro e xa ⟨rfl, hxa⟩)
  | (go_at_call 5; refine (Dg.new _ _).mono ?_; rintro e x0 ⟨d, mp, rfl, h0, hx0, ho0⟩)
  | (go_at_call 6; refine (Rk.new_any _ _).mono ?_; rintro e x1 ⟨b, v, rfl, h1, rfl, hbge, hx1⟩; have HL1 := y_ (lo_new hxa h0 hx0 ho0 h1 hbge hx1); clear hxa h0 hx0 ho0 h1 hbge hx1)
  | (go_at_call 7; refine (C0.out _ _ _ _ _ HL1.out).mono ?_; rintro e x2 ⟨es2, hL2, -, hh⟩; rcases hh with ⟨h00, -⟩ | ⟨-, g, pu, cu, rfl, hy, hgW, hgb, hgv, -⟩; exact absurd rfl h00; rw [HN.out]; have C2 := y_ (lo_ropened hL2 (show (0 : Int) + 4 ≤ 1000 by decide) E1.out (Nat.zero_le _) hy (Nat.le_trans HL1.out.base.1.size hgW) hgb hgv); clear hL2 hy hgW hgb hgv HL1)
  | (go_at_call 8; refine (C2.out).mono ?_; rintro e x3 ⟨lb, rfl, -, -, v3, vL3, r3, hg⟩; have HG := y_ hg; clear hg C2))
 have S0 : Hid (St W _ d mp b 0 (.pointer (some ⟨g, 0, none⟩)) (.pointer (some ⟨lb, 0, none⟩))) := y_ (.inr ⟨es2, _, g, lb, v3, vL3, r3, _, rfl, rfl, HG.out, OK0.out, ⟨by show (allP []).1.length ≤ _; rw [HN.out]; omega, Int.natCast_nonneg _, by show ((allP []).2 : Int) ≤ _; rw [Slp.allP_nil]; omega⟩⟩)
 clear HG OK0 E1 C0 haw HN
 go_loopw [7, 8, 9, 10, 11, 12, 13] (fun l _ _ u _ i _ wr => ∃ j : Nat, i = .int .i64 (j : Int) ∧ j ≤ us.length ∧ j ≤ 60 ∧ Hid (St W wr d mp b j l u)) (fun _ _ _ _ _ i _ _ => us.length - (intOf i).toNat)
 case atStart => exact ⟨0, rfl, Nat.zero_le _, Nat.zero_le _, S0⟩
 case round =>
  obtain ⟨j, rfl, hj, hj6, HS⟩ := hrel
  by_cases hjs : j < us.length
  ·by_cases hj7 : j < 60
   ·obtain ⟨ga, oa, rfl, hlt, hcl, hke, hft⟩ := HA.out j hjs
    have hxd := hke.1
    have HKE := y_ hke
    have HFT := y_ hft
    clear hke hft
    generalize us[j] = x at hcl hxd HKE HFT
    have HCL := y_ (hcl)
    clear hcl
    go_upto_region 12 with (fail)
    refine wp_region_lit ?_
    iterate 9 go_step
    refine wpList_da _ rfl ga (oa + j * 44) rfl x hxd (y_ (Slp.rangeAt_ext HCL.out HS.out.base)) rfl ?_
    simp only [z_1, z_2, z_3, z_4, z_5, z_b, z_6, z_7, z_8, z_9, z_0]
    iterate 3 go_step
    refine wpList_stda rfl _ _ rfl wr _ rfl rfl x hxd rfl ?_
    intro w8 hb8 hx8
    obtain ⟨g8, hg8⟩ : ∃ q, wr.heap.size = q := ⟨_, rfl⟩
    rw [hg8] at hb8 ⊢
    simp only [z_1, z_2, z_3, z_4, z_5, z_b, z_6, z_7, z_8, z_9, z_0]
    have HB8 := y_ hb8
    have HS8 := y_ (HS.out.ext hx8)
    have HF8 : Hid (wr.heap.size = g8) := y_ hg8
    have HX8 := y_ hx8
    clear hb8 hx8 hg8
    have hgr := great_any x.k x.a x.n x.m x.x x.la x.lc x.ls ⟨x.s.toArray⟩ hxd w8 (HKE.out.2.1.ext (HS8.out.base))
    obtain ⟨gb, hgb⟩ : ∃ gb, x.big = gb := ⟨_, rfl⟩
    rw [show greatA x.x x.ls ⟨x.s.toArray⟩ = gb from hgb] at hgr
    have HGR := y_ hgr
    clear hgr
    go_upto_region 13 with (fail)
    refine wp_region_lit ?_
    refine wpList_da _ rfl g8 0 rfl x hxd (y_ (blk_rng HB8.out)) rfl ?_
    simp only [z_1, z_2, z_3, z_4, z_5, z_b, z_6, z_7, z_8, z_9, z_0]
    cases gb with
    | true =>
      go_wp2_with (go_at_call 9; refine (HGR.out).mono ?_; rintro e w9 ⟨rfl, h9⟩)
      go_ret
      exact ⟨rfl, HS8.out.base.trans h9⟩
    | false =>
      have Z1 := y_ (DA.small hgb)
      clear hgb
      go_upto_block 2 with (go_at_call 9; refine (HGR.out).mono ?_; rintro e w9 ⟨rfl, h9⟩; have c0 : w9.cell? ⟨g8, 0, none⟩ = some (.int .i64 x.k) := (HB8.out.ext h9).cell 0)
      have HS9 := y_ (HS.out.box (HX8.out.trans h9) (HB8.out.ext h9) HF8.out)
      clear HB8 HS8 HGR h9 HX8 HS HF8 c0
      go_cut [7, 8, 9, 10, 11] (fun l _ _ u _ wx => ∃ i : Nat, i ≤ j + 1 ∧ Hid (x.k = 1 ∨ x.k = 2 ∨ x.k = 3 → i = j) ∧ Hid (StB W wx d mp b i g8 x l u))
      case first =>
       obtain ⟨es, p, v, r, hl, ho, hb⟩ := HS9.out.lo
       obtain ⟨c0, -, ca, cn, cm, cs⟩ := hb.c hxd
       have HL := y_ hl
       have HO := y_ ho
       have HB := y_ hb
       clear hl ho hb
       by_cases k4 : x.k = 4
       ·as_aux_lemma =>
        -- {A4
        have q4 : (x.k == 4) = true := beq_iff_eq.2 k4
        have HK : Hid (x.k = 1 ∨ x.k = 2 ∨ x.k = 3 → j + 1 = j) := y_ (by omega)
        clear k4 HS9
        obtain ⟨l, xx, q, hld⟩ : ∃ l xx q, p.load = (l, xx, q) := ⟨_, _, _, rfl⟩
        have hcl := cap_load HO.out.cap
        have hop := ops_load p
        rw [hld] at hcl hop
        dsimp only at hcl hop
        have HQ : Hid (Ok q (j + 1)) := y_ (HO.out.same (by omega) hcl.1)
        have HLL : Hid (l.length ≤ 20600 + 1030 * j) := y_ hcl.2
        have hll : l.length ≤ 1048576 := by have := hcl.2; omega
        have CO := y_ (lo_open HL.out (by have := HO.out.ops; unfold big; omega) hld hll HT.out)
        have HLD := y_ hld
        have hpo : p.h.ops + 4 ≤ 1000 := by have := HO.out.ops; omega
        clear hcl hop hld
        by_cases hxx : xx = 0
        ·subst hxx
         have HSS := y_ ((Slp.sameL_iff (allP l).1 (allP l).1).2 rfl)
         go_wp2_with (first
          | (go_at_call 7; refine (CO.out).mono ?_; rintro e w10 ⟨es1, hL1, hT1, hh⟩; rcases hh with ⟨h00, -⟩ | ⟨-, g1, pu1, cu1, rfl, hy, hg1, hgb1, hgv1, hrd⟩; exact absurd rfl h00; have HB1 := y_ (HB.out.turn hT1); have HR1 := y_ hrd; have HG1 : Hid (g8 ≠ g1) := y_ (by have := HB.out.out.1; omega); have CR := y_ (lo_ropened hL1 hpo HLD.out hll hy (Nat.le_trans HL.out.base.1.size hg1) hgb1 hgv1); clear hL1 hT1 hy hg1 hgb1 hgv1 hrd c0 ca cn cm cs CO)
          | (go_at_call 8; refine (CR.out).mono ?_; rintro e w11 ⟨lb1, rfl, hB2, hlb1, v2, vL2, r2, hL2⟩; have HL2 := y_ hL2; have hn1 : g8 ≠ lb1 := (by have := HB1.out.out.1; omega); have HB2 := y_ ((HB1.out.but hB2).logs HG1.out hn1); have HR2 := y_ (HR1.out w11 hB2); have d1 := hL2.zd.c.2.1; clear hL2 hB2 hlb1 CR hn1)
          | (go_at_call 10; refine (Slp.same_any _ _ (allP l).1 (allP l).1 _ HR2.out HL2.out.zd.row.rd).mono ?_; rintro e w12 ⟨rfl, hx12⟩; rw [HSS.out]; have HX12 := y_ hx12; clear hx12 d1))
         go_meet
         exact ⟨j + 1, Nat.le_refl _, HK, y_ (.inr ⟨_, _, _, _, _, _, _, zOpen l, rfl, rfl, HL2.out.ext HX12.out, HQ.out, Oz.opened (by omega) HLL.out, HB2.out.ext HX12.out⟩)⟩
        ·have hq : (xx != xx) = false := bne_self_eq_false _
         go_wp2_with (first
          | (go_at_call 7; refine (CO.out).mono ?_; rintro e w10 ⟨es1, hL1, hT1, hh⟩; rcases hh with ⟨-, rfl⟩ | ⟨h00, -⟩; rotate_left; exact absurd h00 hxx; have HB1 := y_ (HB.out.turn hT1); have CR := y_ (lo_ropen hL1 hpo HLD.out hll hxx); clear hL1 hT1 c0 ca cn cm cs)
          | (go_at_call 8; refine (CR.out).mono ?_; rintro e w11 ⟨rfl, hB2, v2, r2, hL2⟩; have HL2 := y_ hL2; have HB2 := y_ (HB1.out.but hB2); clear hL2 hB2))
         go_meet
         exact ⟨j + 1, Nat.le_refl _, HK, y_ (.inl ⟨_, _, _, _, rfl, rfl, HL2.out, HQ.out, HB2.out⟩)⟩
        -- A4}
       by_cases k8 : x.k = 8
       ·as_aux_lemma =>
        -- {A8
        have q4 : (x.k == 4) = false := beq_eq_false_iff_ne.2 (by omega)
        have q5 : (x.k == 5) = false := beq_eq_false_iff_ne.2 (by omega)
        have q6 : (x.k == 6) = false := beq_eq_false_iff_ne.2 (by omega)
        have q7 : (x.k == 7) = false := beq_eq_false_iff_ne.2 (by omega)
        have q8 : (x.k == 8) = true := beq_iff_eq.2 k8
        have HK : Hid (x.k = 1 ∨ x.k = 2 ∨ x.k = 3 → j + 1 = j) := y_ (by omega)
        clear k4 k8 HS9
        obtain ⟨xx, q, hap⟩ : ∃ xx q, p.append nD x.s = (xx, q) := ⟨_, _, rfl⟩
        have hcl := cap_appendD (t := x.s) HO.out.cap
        have hop := ops_append p nD x.s
        rw [hap] at hcl hop
        dsimp only at hcl hop
        have HQ : Hid (Ok q (j + 1)) := y_ (HO.out.next (by omega) (hcl.mono (by have := Z1.out.2; omega) (Nat.le_refl _)))
        have CO := y_ (Dg.appendD HL.out.dg (by have := HO.out.ops; unfold big; omega) (t := x.s) (by have := Z1.out.2; omega) hap)
        have HAP := y_ hap
        have hpo : p.h.ops + 1 ≤ 1000 := by have := HO.out.ops; omega
        clear hcl hop hap
        go_wp2_with (first
         | (go_at_call 19; refine (CO.out).mono ?_; rintro e w10 ⟨rfl, es1, h1, hT1⟩; have HL1 := y_ (HL.out.real h1 hT1); have HB1 := y_ (HB.out.turn hT1); clear h1 hT1 c0 ca cn cm cs; obtain ⟨c0, -, ca, cn, cm, cs⟩ := HB1.out.c hxd)
         | (go_at_call 20; refine (HL1.out.both.appendD hpo (by have := Z1.out.2; omega) HAP.out).mono ?_; rintro e w11 ⟨rfl, v2, r2, k, bb, nn⟩; have HL2 := y_ (HL1.out.ref k bb nn); have HB2 := y_ (HB1.out.but bb); clear k bb nn))
        go_meet
        exact ⟨j + 1, Nat.le_refl _, HK, y_ (.inl ⟨_, _, _, _, rfl, rfl, HL2.out, HQ.out, HB2.out⟩)⟩
        -- A8}
       by_cases k6 : x.k = 6
       ·as_aux_lemma =>
        -- {A6
        have q4 : (x.k == 4) = false := beq_eq_false_iff_ne.2 (by omega)
        have q5 : (x.k == 5) = false := beq_eq_false_iff_ne.2 (by omega)
        have q6 : (x.k == 6) = true := beq_iff_eq.2 k6
        have HK : Hid (x.k = 1 ∨ x.k = 2 ∨ x.k = 3 → j + 1 = j) := y_ (by omega)
        clear k4 k8 k6 HS9
        obtain ⟨q, hq⟩ : ∃ q : P, q = ⟨p.fs, { p.h with off := true, ak := 0, af := 0, al := 0 }⟩ := ⟨_, rfl⟩
        have hqf : q.fs = p.fs := by rw [hq]
        have hqo : q.h.ops = p.h.ops := by rw [hq]
        have CO := HL.out.dg.off
        rw [← hq] at CO
        have CO := y_ CO
        have CR := y_ (fun w' v' r' (h : Both w' b v' r' p) => Rk.off_ref h)
        rw [← hq] at CR
        have HQ : Hid (Ok (q.on [x.a, x.n]) (j + 1)) := y_ (HO.out.same (by rw [on_ops, hqo]; omega) (cap_on (by rw [hqf]; exact HO.out.cap)))
        have hpo : q.h.ops ≤ 1000 := by rw [hqo]; have := HO.out.ops; omega
        have HPO := y_ hpo
        have HFB : Hid (∀ y ∈ [x.a, x.n], -9223372036854775808 ≤ y ∧ y ≤ 9223372036854775807) := y_ fun y hy => by
         have h := HFT.out
         rcases List.mem_cons.1 hy with rfl | hy
         ·exact h.1
         ·rw [List.mem_singleton.1 hy]; exact h.2
        clear hq hqf hqo hpo
        go_wp2_with (first
         | (go_at_call 13; refine (CO.out).mono ?_; rintro e w10 ⟨rfl, es1, h1, hT1⟩; have HL1 := y_ (HL.out.real h1 hT1); have HB1 := y_ (HB.out.turn hT1); clear h1 hT1 c0 ca cn cm cs; obtain ⟨c0, -, ca, cn, cm, cs⟩ := HB1.out.c hxd)
         | (go_at_call 14; refine (CR.out _ _ _ HL1.out.both).mono ?_; rintro e w11 ⟨rfl, v2, r2, k1, k2, bb, nn⟩; have HL2 := y_ (HL1.out.ref ⟨k1, k2, HL1.out.dg.good, HPO.out⟩ bb nn); have HB2 := y_ (HB1.out.but bb); clear k1 k2 bb nn c0 ca cn cm cs; obtain ⟨c0, -, ca, cn, cm, cs⟩ := HB2.out.c hxd)
         | (go_at_call 15; refine (lo_on2 HL2.out x.a x.n).mono ?_; rintro e w12 ⟨rfl, es3, h3, hT3⟩; have HL3 := y_ h3; have HB3 := y_ (HB2.out.turn hT3); clear h3 hT3 c0 ca cn cm cs; obtain ⟨c0, -, ca, cn, cm, cs⟩ := HB3.out.c hxd)
         | (go_at_call 16; refine (lo_ron2 HL3.out HFB.out).mono ?_; rintro e w13 ⟨rfl, bb, v4, r4, h4⟩; have HL4 := y_ h4; have HB4 := y_ (HB3.out.but bb); clear h4 bb))
        go_meet
        exact ⟨j + 1, Nat.le_refl _, HK, y_ (.inl ⟨_, _, _, _, rfl, rfl, HL4.out, HQ.out, HB4.out⟩)⟩
        -- A6}
       by_cases k5 : x.k = 5
       ·as_aux_lemma =>
        -- {A5
        have q4 : (x.k == 4) = false := beq_eq_false_iff_ne.2 (by omega)
        have q5 : (x.k == 5) = true := beq_iff_eq.2 k5
        have HK : Hid (x.k = 1 ∨ x.k = 2 ∨ x.k = 3 → j + 1 = j) := y_ (by omega)
        clear k4 k8 k6 k5 HL HO HB c0 ca cn cm cs
        rcases HS9.out with ⟨es, p, v, r, rfl, rfl, hl, ho, hb⟩ | ⟨es, p, g0, lb0, v, vL, r, z, rfl, rfl, hl, ho, hz, hb⟩
        ·have HQ : Hid (Ok (⟨p.fs, p.h.arm x.a x.n x.m⟩ : P) (j + 1)) := y_ (ho.same (by show (p.h.arm x.a x.n x.m).ops ≤ _; rw [(arm_keep p.h x.a x.n x.m).2.2.1]; omega) ho.cap)
         have hbo : p.h.ops < big := by have := ho.ops; unfold big; omega
         have hpo : (⟨p.fs, p.h.arm x.a x.n x.m⟩ : P).h.ops ≤ 1000 := by have := HQ.out.ops; omega
         have HL := y_ hl
         have HB := y_ hb
         obtain ⟨c0, -, ca, cn, cm, cs⟩ := hb.c hxd
         clear hl hb HS9 ho
         go_wp2_with (first
          | (go_at_call 11; refine (HL.out.dg.arm x.a x.n x.m hbo).mono ?_; rintro e w10 ⟨rfl, es1, h1, hT1⟩; have HL1 := y_ (HL.out.real h1 hT1); have HB1 := y_ (HB.out.turn hT1); clear h1 hT1 c0 ca cn cm cs; obtain ⟨c0, -, ca, cn, cm, cs⟩ := HB1.out.c hxd)
          | (go_at_call 12; refine (Rk.arm_ref HL1.out.both x.a x.n x.m).mono ?_; rintro e w11 ⟨rfl, v2, r2, k1, k2, bb, nn⟩; have HL2 := y_ (HL1.out.ref ⟨k1, k2, HL1.out.dg.good, hpo⟩ bb nn); have HB2 := y_ (HB1.out.but bb); clear k1 k2 bb nn))
         go_meet
         exact ⟨j + 1, Nat.le_refl _, HK, y_ (.inl ⟨_, _, _, _, rfl, rfl, HL2.out, HQ.out, HB2.out⟩)⟩
        ·have HQ : Hid (Ok (⟨p.fs, p.h.arm x.a x.n x.m⟩ : P) (j + 1)) := y_ (ho.same (by show (p.h.arm x.a x.n x.m).ops ≤ _; rw [(arm_keep p.h x.a x.n x.m).2.2.1]; omega) ho.cap)
         have hbo : p.h.ops < big := by have := ho.ops; unfold big; omega
         have hpo : (⟨p.fs, p.h.arm x.a x.n x.m⟩ : P).h.ops ≤ 1000 := by have := HQ.out.ops; omega
         have HL := y_ hl
         have HB := y_ hb
         have HZ := y_ hz
         obtain ⟨c0, -, ca, cn, cm, cs⟩ := hb.c hxd
         clear hl hb HS9 ho hz
         go_wp2_with (first
          | (go_at_call 11; refine (HL.out.lw.arm x.a x.n x.m hbo).mono ?_; rintro e w10 ⟨rfl, es1, h1, hT1⟩; have HL1 := y_ (HL.out.real h1 hT1); have HB1 := y_ (HB.out.real hT1); clear h1 hT1 c0 ca cn cm cs; obtain ⟨c0, -, ca, cn, cm, cs⟩ := HB1.out.c hxd)
          | (go_at_call 12; refine (Rk.arm_ref HL1.out.zd.both x.a x.n x.m).mono ?_; rintro e w11 ⟨rfl, v2, r2, k1, k2, bb, nn⟩; have HL2 := y_ (HL1.out.rb ⟨k1, k2, HL1.out.lw.dy.dg.good, hpo⟩ bb nn); have HB2 := y_ (HB1.out.but bb); clear k1 k2 bb nn))
         go_meet
         exact ⟨j + 1, Nat.le_refl _, HK, y_ (.inr ⟨_, _, _, _, _, _, _, _, rfl, rfl, HL2.out, HQ.out, HZ.out.next, HB2.out⟩)⟩
        -- A5}
       by_cases k7 : x.k = 7
       ·as_aux_lemma =>
        -- {A7
        have q4 : (x.k == 4) = false := beq_eq_false_iff_ne.2 (by omega)
        have q5 : (x.k == 5) = false := beq_eq_false_iff_ne.2 (by omega)
        have q6 : (x.k == 6) = false := beq_eq_false_iff_ne.2 (by omega)
        have q7 : (x.k == 7) = true := beq_iff_eq.2 k7
        obtain ⟨y, hy⟩ : ∃ y : UInt8, IntKind.u8.wrap x.n = ((y.toNat : Nat) : Int) := u8_of x.n
        have HK : Hid (x.k = 1 ∨ x.k = 2 ∨ x.k = 3 → j + 1 = j) := y_ (by omega)
        clear k4 k8 k6 k5 k7 HL HO HB c0 ca cn cm cs
        rcases HS9.out with ⟨es, p, v, r, rfl, rfl, hl, ho, hb⟩ | ⟨es, p, g0, lb0, v, vL, r, z, rfl, rfl, hl, ho, hz, hb⟩
        ·have HQ : Hid (Ok (p.flip nD x.a y).2 (j + 1)) := y_ (ho.same (by have := flip_ops p nD x.a y; omega) (cap_flip ho.cap))
         have hbo : p.h.ops < big := by have := ho.ops; unfold big; omega
         have hpo : (p.flip nD x.a y).2.h.ops ≤ 1000 := by have := HQ.out.ops; omega
         have HL := y_ hl
         have HB := y_ hb
         obtain ⟨c0, -, ca, cn, cm, cs⟩ := hb.c hxd
         clear hl hb HS9 ho
         go_wp2_with (first
          | (go_at_call 17; refine (HL.out.dg.flip nD x.a y lD).mono ?_; rintro e w10 ⟨rfl, es1, h1, hT1⟩; have HL1 := y_ (HL.out.real h1 hT1); have HB1 := y_ (HB.out.turn hT1); clear h1 hT1 c0 ca cn cm cs; obtain ⟨c0, -, ca, cn, cm, cs⟩ := HB1.out.c hxd)
          | (go_at_call 18; refine (Rk.flip_ref HL1.out.both nD x.a y).mono ?_; rintro e w11 ⟨rfl, v2, r2, k1, k2, bb, nn⟩; have HL2 := y_ (HL1.out.ref ⟨k1, k2, HL1.out.dg.good, hpo⟩ bb nn); have HB2 := y_ (HB1.out.but bb); clear k1 k2 bb nn))
         go_meet
         exact ⟨j + 1, Nat.le_refl _, HK, y_ (.inl ⟨_, _, _, _, rfl, rfl, HL2.out, HQ.out, HB2.out⟩)⟩
        ·have HQ : Hid (Ok (p.flip nD x.a y).2 (j + 1)) := y_ (ho.same (by have := flip_ops p nD x.a y; omega) (cap_flip ho.cap))
         have hbo : p.h.ops < big := by have := ho.ops; unfold big; omega
         have hpo : (p.flip nD x.a y).2.h.ops ≤ 1000 := by have := HQ.out.ops; omega
         have HL := y_ hl
         have HB := y_ hb
         have HZ := y_ hz
         obtain ⟨c0, -, ca, cn, cm, cs⟩ := hb.c hxd
         clear hl hb HS9 ho hz
         go_wp2_with (first
          | (go_at_call 17; refine (HL.out.lw.of_resG (HL.out.lw.dy.dg.flip nD x.a y lD)).mono ?_; rintro e w10 ⟨rfl, es1, h1, hT1⟩; have HL1 := y_ (HL.out.real h1 hT1); have HB1 := y_ (HB.out.real hT1); clear h1 hT1 c0 ca cn cm cs; obtain ⟨c0, -, ca, cn, cm, cs⟩ := HB1.out.c hxd)
          | (go_at_call 18; refine (Rk.flip_ref HL1.out.zd.both nD x.a y).mono ?_; rintro e w11 ⟨rfl, v2, r2, k1, k2, bb, nn⟩; have HL2 := y_ (HL1.out.rb ⟨k1, k2, HL1.out.lw.dy.dg.good, hpo⟩ bb nn); have HB2 := y_ (HB1.out.but bb); clear k1 k2 bb nn))
         go_meet
         exact ⟨j + 1, Nat.le_refl _, HK, y_ (.inr ⟨_, _, _, _, _, _, _, _, rfl, rfl, HL2.out, HQ.out, HZ.out.next, HB2.out⟩)⟩
        -- A7}
       as_aux_lemma =>
        -- {A0
        have q4 : (x.k == 4) = false := beq_eq_false_iff_ne.2 k4
        have q5 : (x.k == 5) = false := beq_eq_false_iff_ne.2 k5
        have q6 : (x.k == 6) = false := beq_eq_false_iff_ne.2 k6
        have q7 : (x.k == 7) = false := beq_eq_false_iff_ne.2 k7
        have q8 : (x.k == 8) = false := beq_eq_false_iff_ne.2 k8
        clear k4 k5 k6 k7 k8 HL HO HB c0 ca cn cm cs
        go_wp2_with fail
        go_meet
        exact ⟨j, by omega, y_ fun _ => rfl, HS9⟩
        -- A0}
      case rest =>
       obtain ⟨i, hi, HI, HZ⟩ := hcut
       rcases HZ.out with ⟨es, p, v, r, rfl, rfl, hl, ho, hb⟩ | ⟨es, p, g0, lb0, v, vL, r, z, rfl, rfl, hl, ho, hz, hb⟩
       ·as_aux_lemma =>
        -- {RN
        have HL := y_ hl
        have HO := y_ ho
        clear hl ho hb HZ
        go_wp2_with fail
        go_roundw
        case rel => exact ⟨j + 1, by go_num, by omega, by omega, y_ (.inl ⟨_, _, _, _, rfl, rfl, HL.out, HO.out.le hi⟩)⟩
        case measure => simp [intOf]; omega
        -- RN}
       have HL := y_ hl
       have HO := y_ ho
       have HW := y_ hz
       have HB := y_ hb
       have c0 := (hb.c hxd).1
       clear hl ho hz hb HZ
       go_upto_block 3 with fail
       go_cut [] (fun wx => ∃ (es1 : List E) (p1 : P) (v1 vL1 : Value) (r1 : R) (z1 : Z), Hid (Lg W wx d mp es1 p1 g0 z1.y b lb0 v1 vL1 r1 p1 z1) ∧ Hid (Ok p1 (j + 1)) ∧ Hid (Oz z1 (j + 1)))
       case first =>
        by_cases k2 : x.k = 2
        ·as_aux_lemma =>
         -- {B2
         have q1 : (x.k == 1) = false := beq_eq_false_iff_ne.2 (by omega)
         have q2 : (x.k == 2) = true := beq_iff_eq.2 k2
         have hij : i = j := HI.out (by omega)
         clear k2 HI hi
         subst hij
         obtain ⟨er, p1, z1, hs⟩ : ∃ er p1 z1, zSync p z = (er, p1, z1) := ⟨_, _, _, rfl⟩
         have hy : syncP p z.y = (er, p1, z1.y) := by rw [zSync_y, hs]
         have ho1 := HO.out.sync (z := z)
         have hz1 := HW.out.sync (p := p)
         rw [hs] at ho1 hz1
         have HO1 : Hid (Ok p1 (i + 1)) := y_ ho1
         have HZ1 : Hid (Oz z1 (i + 1)) := y_ hz1
         have hpo : p.h.ops + 1 ≤ 1000 := by have := HO.out.ops; omega
         have CA := y_ (HL.out.lw.sync (by have := HO.out.ops; unfold big; omega) hy)
         have CB := y_ (fun w' v' vL' r' (h : Zd w' b lb0 v' vL' r' p z) => refSync_any h hpo)
         rw [hs] at CB
         have qe : (er != er) = false := bne_self_eq_false _
         clear hs hy ho1 hz1 HO HW hpo HB
         go_wp2_with (first
          | (go_at_call 23; refine (CA.out).mono ?_; rintro e w10 ⟨rfl, es1, h1, hT1⟩; have HL1 := y_ (HL.out.real h1 hT1); clear h1 hT1)
          | (go_at_call 24; refine (CB.out _ _ _ _ HL1.out.zd).mono ?_; rintro e w11 ⟨rfl, v2, vL2, r2, h2, hc2⟩; have HL2 := y_ (HL1.out.ref h2 hc2); clear h2 hc2))
         go_meet
         exact ⟨_, _, _, _, _, _, HL2, HO1, HZ1⟩
         -- B2}
        by_cases k1 : x.k = 1
        ·as_aux_lemma =>
         -- {B1
         have q1 : (x.k == 1) = true := beq_iff_eq.2 k1
         have hij : i = j := HI.out (by omega)
         clear k1 k2 HI hi
         subst hij
         obtain ⟨er, p1, z1, hs⟩ : ∃ er p1 z1, zAdd p z x.x = (er, p1, z1) := ⟨_, _, _, rfl⟩
         have hy : addP p z.y x.x = (er, p1, z1.y) := by rw [zAdd_y, hs]
         have ho1 := HO.out.add (z := z) hxd
         have hz1 := HW.out.add (p := p) hxd
         rw [hs] at ho1 hz1
         have HO1 : Hid (Ok p1 (i + 1)) := y_ ho1
         have HZ1 : Hid (Oz z1 (i + 1)) := y_ hz1
         have hpo : p.h.ops + 1 ≤ 1000 := by have := HO.out.ops; omega
         have CB := y_ (fun w' v' vL' r' (h : Zd w' b lb0 v' vL' r' p z) => refAdd_any h hpo x.x hxd (by have := HW.out.n; omega) ⟨HW.out.s0, by have := HW.out.s1; omega⟩)
         rw [hs] at CB
         have CA := y_ (fun w' (h : Lw W w' d mp es p g0 z.y) => h.add (HW.out.fine (by omega)) (by have := HO.out.ops; unfold big; omega) x.x hxd HT.out hy)
         have qe : (er != er) = false := bne_self_eq_false _
         clear hs hy ho1 hz1 HO HW hpo
         go_upto_region 42 with (fail)
         clear c0
         refine Ordl.begins (S := fun w => w.rangeAt g8 1 x.x.cells) (z := 9) (by kernel_rfl) ?_
         refine Ordl.Bx.out (?_ : Ordl.Bx (Ordl.Any _ _ _ _ _ _ _ _ _ _))
         have HL0 := y_ (HL.out.ext (Reg.Ext.drew wc))
         have HB0 := y_ (HB.out.ext (Reg.Ext.drew wc))
         clear HL HB
         generalize wc.drew = wm at *
         have X0 := HB0.out.x hxd
         refine Ordl.take (i := 0) (v := .pointer (some ⟨g0, 0, none⟩)) rfl (by kernel_rfl) (by kernel_rfl) (by kernel_rfl) (by kernel_rfl) (fun _ _ _ h => h) (.inl ⟨by kernel_rfl, fun w _ => by as_aux_lemma => kernel_rfl⟩) X0 ?_
         simp only [z_1, z_2, z_3, z_4, z_5, z_b, z_6, z_7, z_8, z_9, z_0]
         refine Ordl.take (i := 1) (v := .pointer (some ⟨g8, 1, none⟩)) rfl (by kernel_rfl) (by kernel_rfl) (by kernel_rfl) (by kernel_rfl) (fun _ _ _ h => h) (.inl ⟨by kernel_rfl, fun w _ => by as_aux_lemma => kernel_rfl⟩) X0 ?_
         simp only [z_1, z_2, z_3, z_4, z_5, z_b, z_6, z_7, z_8, z_9, z_0]
         refine Ordl.take (i := 2) (v := .agg x.x.cells.toArray) rfl (by kernel_rfl) (by kernel_rfl) (by kernel_rfl) (by kernel_rfl) (fun _ _ _ h => h) (yieldsIf_load_mid (by kernel_rfl) 39 (.tmp 182) rfl g8 1 (by kernel_rfl) x.x.cells _ (fun w h => h) Slp.undS rfl (by rw [Slp.cells_length x.x hxd]; exact Slp.size38)) X0 ?_
         simp only [z_1, z_2, z_3, z_4, z_5, z_b, z_6, z_7, z_8, z_9, z_0]
         refine Ordl.take (i := 4) (v := .pointer (some ⟨lb0, 0, none⟩)) rfl (by kernel_rfl) (by kernel_rfl) (by kernel_rfl) (by kernel_rfl) (fun _ _ _ h => h) (.inl ⟨by kernel_rfl, fun w _ => by as_aux_lemma => kernel_rfl⟩) X0 ?_
         simp only [z_1, z_2, z_3, z_4, z_5, z_b, z_6, z_7, z_8, z_9, z_0]
         refine Ordl.take (i := 5) (v := .pointer (some ⟨g8, 1, none⟩)) rfl (by kernel_rfl) (by kernel_rfl) (by kernel_rfl) (by kernel_rfl) (fun _ _ _ h => h) (.inl ⟨by kernel_rfl, fun w _ => by as_aux_lemma => kernel_rfl⟩) X0 ?_
         simp only [z_1, z_2, z_3, z_4, z_5, z_b, z_6, z_7, z_8, z_9, z_0]
         refine Ordl.take (i := 6) (v := .agg x.x.cells.toArray) rfl (by kernel_rfl) (by kernel_rfl) (by kernel_rfl) (by kernel_rfl) (fun _ _ _ h => h) (yieldsIf_load_mid (by kernel_rfl) 39 (.tmp 186) rfl g8 1 (by kernel_rfl) x.x.cells _ (fun w h => h) Slp.undS rfl (by rw [Slp.cells_length x.x hxd]; exact Slp.size38)) X0 ?_
         simp only [z_1, z_2, z_3, z_4, z_5, z_b, z_6, z_7, z_8, z_9, z_0]
         refine Ordl.one (i := 3) (by kernel_rfl) rfl ?_
         refine ⟨?_⟩
         repeat go_step
         refine (CA.out _ HL0.out.lw).mono ?_
         rintro e w10 ⟨rfl, es1, h1, hT1⟩
         have HL1 := y_ (HL0.out.real h1 hT1)
         have HB1 := y_ (HB0.out.real hT1)
         clear h1 hT1 HL0 HB0 X0
         have X1 := HB1.out.x hxd
         rename_i hK
         refine hK _ _ ?_
         clear hK
         refine Ordl.Bx.out (?_ : Ordl.Bx _)
         refine Ordl.fin X1 ?_
         clear X1
         refine Ordl.one (i := 7) (by kernel_rfl) rfl ?_
         refine ⟨?_⟩
         repeat go_step
         refine (CB.out _ _ _ _ HL1.out.zd).mono ?_
         rintro e w11 ⟨rfl, v2, vL2, r2, h2, hc2⟩
         have HL2 := y_ (HL1.out.ref h2 hc2)
         have HB2 := y_ (HB1.out.b2 hc2.b2)
         clear h2 hc2 HL1 HB1
         have X2 := HB2.out.x hxd
         rename_i hK
         refine hK _ _ ?_
         clear hK
         refine Ordl.Bx.out (?_ : Ordl.Bx _)
         refine Ordl.fin X2 ?_
         refine Ordl.one (i := 8) (by kernel_rfl) rfl ?_
         refine Ordl.any (by kernel_rfl) (.bool (er != er)) w11 (by kernel_rfl) ?_
         simp only [z_1, z_2, z_3, z_4, z_5, z_b, z_6, z_7, z_8, z_9, z_0]
         refine Ordl.fin X2 ?_
         clear X2 HB2
         refine Ordl.done (by kernel_rfl) ?_ _
         go_wp2_with fail
         go_meet
         exact ⟨_, _, _, _, _, _, HL2, HO1, HZ1⟩
         -- B1}
        by_cases k3 : x.k = 3
        ·as_aux_lemma =>
         -- {B3
         have q1 : (x.k == 1) = false := beq_eq_false_iff_ne.2 k1
         have q2 : (x.k == 2) = false := beq_eq_false_iff_ne.2 k2
         have q3 : (x.k == 3) = true := beq_iff_eq.2 k3
         have hij : i = j := HI.out (by omega)
         clear k1 k2 k3 HI hi
         subst hij
         obtain ⟨er, p1, z1, hs⟩ : ∃ er p1 z1, zRew p z x.ls = (er, p1, z1) := ⟨_, _, _, rfl⟩
         have hy : rewP p z.y x.ls = (er, p1, z1.y) := by rw [zRew_y, hs]
         have ho1 := HO.out.rew (z := z) HKE.out.2.1.1 Z1.out.1
         have hz1 := HW.out.rew (p := p) HKE.out.2.1.1 Z1.out.1
         rw [hs] at ho1 hz1
         have HO1 : Hid (Ok p1 (i + 1)) := y_ ho1
         have HZ1 : Hid (Oz z1 (i + 1)) := y_ hz1
         have hpo : p.h.ops + 5 ≤ 1000 := by have := HO.out.ops; omega
         have hls := Z1.out.1
         have CB := y_ (fun w' v' vL' r' (h : Zd w' b lb0 v' vL' r' p z) (hW : Reg.Ext W w') => refRew_any h hpo x.ls (.slice x.la x.ls.length x.lc) (fun w2 hb => HKE.out.2.1.ext (hb.base hW HL.out.bge HL.out.lge)) (fun n c e => by injection e with e1 e2 e3; rw [← e3]; exact HKE.out.2.2 e1) (by omega))
         rw [hs] at CB
         have CA := y_ (fun w' (h : Lw W w' d mp es p g0 z.y) => h.rew (by unfold big; omega) x.ls (.slice x.la x.ls.length x.lc) (HKE.out.2.1.ext h.base.1) (by omega) HT.out hy)
         have qe : (er != er) = false := bne_self_eq_false _
         clear hs hy ho1 hz1 HO HW hpo hls
         go_upto_region 48 with (fail)
         clear c0
         refine Ordl.begins (S := fun w => w.cell? ⟨g8, 39, none⟩ = some (.slice x.la x.ls.length x.lc)) (z := 9) (by kernel_rfl) ?_
         refine Ordl.Bx.out (?_ : Ordl.Bx (Ordl.Any _ _ _ _ _ _ _ _ _ _))
         have HL0 := y_ (HL.out.ext (Reg.Ext.drew wc))
         have HB0 := y_ (HB.out.ext (Reg.Ext.drew wc))
         clear HL HB
         generalize wc.drew = wm at *
         have X0 := (HB0.out.c hxd).2.1
         refine Ordl.take (i := 0) (v := .pointer (some ⟨g0, 0, none⟩)) rfl (by kernel_rfl) (by kernel_rfl) (by kernel_rfl) (by kernel_rfl) (fun _ _ _ h => h) (.inl ⟨by kernel_rfl, fun w _ => by as_aux_lemma => kernel_rfl⟩) X0 ?_
         simp only [z_1, z_2, z_3, z_4, z_5, z_b, z_6, z_7, z_8, z_9, z_0]
         refine Ordl.take (i := 1) (v := .pointer (some ⟨g8, 39, none⟩)) rfl (by kernel_rfl) (by kernel_rfl) (by kernel_rfl) (by kernel_rfl) (fun _ _ _ h => h) (.inl ⟨by kernel_rfl, fun w _ => by as_aux_lemma => kernel_rfl⟩) X0 ?_
         simp only [z_1, z_2, z_3, z_4, z_5, z_b, z_6, z_7, z_8, z_9, z_0]
         refine Ordl.take (i := 2) (v := .slice x.la x.ls.length x.lc) rfl (by kernel_rfl) (by kernel_rfl) (by kernel_rfl) (by kernel_rfl) (fun _ _ _ h => h) (yields_load1 (by kernel_rfl) 29 (.tmp 200) rfl ⟨g8, 39, none⟩ (by kernel_rfl) (.slice x.la x.ls.length x.lc) _ Tryz.underlying29 rfl (fun w h => h)) X0 ?_
         simp only [z_1, z_2, z_3, z_4, z_5, z_b, z_6, z_7, z_8, z_9, z_0]
         refine Ordl.take (i := 4) (v := .pointer (some ⟨lb0, 0, none⟩)) rfl (by kernel_rfl) (by kernel_rfl) (by kernel_rfl) (by kernel_rfl) (fun _ _ _ h => h) (.inl ⟨by kernel_rfl, fun w _ => by as_aux_lemma => kernel_rfl⟩) X0 ?_
         simp only [z_1, z_2, z_3, z_4, z_5, z_b, z_6, z_7, z_8, z_9, z_0]
         refine Ordl.take (i := 5) (v := .pointer (some ⟨g8, 39, none⟩)) rfl (by kernel_rfl) (by kernel_rfl) (by kernel_rfl) (by kernel_rfl) (fun _ _ _ h => h) (.inl ⟨by kernel_rfl, fun w _ => by as_aux_lemma => kernel_rfl⟩) X0 ?_
         simp only [z_1, z_2, z_3, z_4, z_5, z_b, z_6, z_7, z_8, z_9, z_0]
         refine Ordl.take (i := 6) (v := .slice x.la x.ls.length x.lc) rfl (by kernel_rfl) (by kernel_rfl) (by kernel_rfl) (by kernel_rfl) (fun _ _ _ h => h) (yields_load1 (by kernel_rfl) 29 (.tmp 204) rfl ⟨g8, 39, none⟩ (by kernel_rfl) (.slice x.la x.ls.length x.lc) _ Tryz.underlying29 rfl (fun w h => h)) X0 ?_
         simp only [z_1, z_2, z_3, z_4, z_5, z_b, z_6, z_7, z_8, z_9, z_0]
         refine Ordl.one (i := 3) (by kernel_rfl) rfl ?_
         refine ⟨?_⟩
         repeat go_step
         refine (CA.out _ HL0.out.lw).mono ?_
         rintro e w10 ⟨rfl, es1, h1, hT1⟩
         have HL1 := y_ (HL0.out.real h1 hT1)
         have HB1 := y_ (HB0.out.real hT1)
         clear h1 hT1 HL0 HB0 X0
         have X1 := (HB1.out.c hxd).2.1
         rename_i hK
         refine hK _ _ ?_
         clear hK
         refine Ordl.Bx.out (?_ : Ordl.Bx _)
         refine Ordl.fin X1 ?_
         clear X1
         refine Ordl.one (i := 7) (by kernel_rfl) rfl ?_
         refine ⟨?_⟩
         repeat go_step
         refine (CB.out _ _ _ _ HL1.out.zd HL1.out.lw.base.1).mono ?_
         rintro e w11 ⟨rfl, v2, vL2, r2, h2, hc2⟩
         have HL2 := y_ (HL1.out.ref h2 hc2)
         have HB2 := y_ (HB1.out.b2 hc2.b2)
         clear h2 hc2 HL1 HB1
         have X2 := (HB2.out.c hxd).2.1
         rename_i hK
         refine hK _ _ ?_
         clear hK
         refine Ordl.Bx.out (?_ : Ordl.Bx _)
         refine Ordl.fin X2 ?_
         refine Ordl.one (i := 8) (by kernel_rfl) rfl ?_
         refine Ordl.any (by kernel_rfl) (.bool (er != er)) w11 (by kernel_rfl) ?_
         simp only [z_1, z_2, z_3, z_4, z_5, z_b, z_6, z_7, z_8, z_9, z_0]
         refine Ordl.fin X2 ?_
         clear X2 HB2
         refine Ordl.done (by kernel_rfl) ?_ _
         go_wp2_with fail
         go_meet
         exact ⟨_, _, _, _, _, _, HL2, HO1, HZ1⟩
         -- B3}
        as_aux_lemma =>
         -- {B0
         have q1 : (x.k == 1) = false := beq_eq_false_iff_ne.2 k1
         have q2 : (x.k == 2) = false := beq_eq_false_iff_ne.2 k2
         have q3 : (x.k == 3) = false := beq_eq_false_iff_ne.2 k3
         clear k1 k2 k3 HI HB
         go_wp2_with fail
         go_meet
         exact ⟨_, _, _, _, _, _, HL, y_ (HO.out.le hi), y_ (HW.out.le hi)⟩
         -- B0}
       case rest =>
        obtain ⟨es1, p1, v1, vL1, r1, z1, HL1, HO1, HZ1⟩ := hcut
        obtain ⟨pL, cL, hvL, -, -⟩ := row_cap HL1.out.zd.row
        subst hvL
        obtain ⟨-, d1, d2, d3, d4⟩ := HL1.out.zd.c
        have C1 := y_ (fun w' (h : Lw W w' d mp es1 p1 g0 z1.y) => show Calls Tryz.prog 27 #[.pointer (some ⟨g0, 0, none⟩)] w' fun e w2 => e = .returned (.int .i64 (z1.L.length : Int)) ∧ w2 = w' from h.len)
        have C2 := y_ (fun w' (h : Lw W w' d mp es1 p1 g0 z1.y) => show Calls Tryz.prog 28 #[.pointer (some ⟨g0, 0, none⟩)] w' fun e w2 => e = .returned (.int .i64 z1.sure) ∧ w2 = w' from h.sure)
        have C3 := y_ (fun w' (h : Lw W w' d mp es1 p1 g0 z1.y) => show Calls Tryz.prog 29 #[.pointer (some ⟨g0, 0, none⟩)] w' fun e w2 => e = .returned (.int .i64 z1.size) ∧ w2 = w' from h.ysize)
        have C4 := y_ (fun w' (h : Lw W w' d mp es1 p1 g0 z1.y) => show Calls Tryz.prog 30 #[.pointer (some ⟨g0, 0, none⟩)] w' fun e w2 => e = .returned (.bool z1.sick) ∧ w2 = w' from h.sick)
        have qn : ((z1.L.length : Int) != (z1.L.length : Int)) = false := bne_self_eq_false _
        have qs : (z1.sure != z1.sure) = false := bne_self_eq_false _
        have qz : (z1.size != z1.size) = false := bne_self_eq_false _
        have qk : (z1.sick != z1.sick) = false := bne_self_eq_false _
        go_wp2_with fail
        go_quiet (first
         | (go_at_call 27; exact Calls.quiet_of_same (C1.out _ (HL1.out.lw.ext (Reg.Ext.drewN _ _))))
         | (go_at_call 28; exact Calls.quiet_of_same (C2.out _ (HL1.out.lw.ext (Reg.Ext.drewN _ _))))
         | (go_at_call 29; exact Calls.quiet_of_same (C3.out _ (HL1.out.lw.ext (Reg.Ext.drewN _ _))))
         | (go_at_call 30; exact Calls.quiet_of_same (C4.out _ (HL1.out.lw.ext (Reg.Ext.drewN _ _)))))
        go_wp2_with fail
        go_roundw
        case rel => exact ⟨j + 1, by go_num, by omega, by omega, y_ (.inr ⟨_, _, _, _, _, _, _, _, rfl, rfl, HL1.out.ext (Reg.Ext.drewN _ _), HO1.out, HZ1.out⟩)⟩
        case measure => simp [intOf]; omega
   ·have hje : j = 60 := by omega
    subst hje
    as_aux_lemma =>
     -- {F
     obtain ⟨es, p, v, r, hlo, -⟩ := HS.out.lo
     have HD := y_ hlo
     have hgd := y_ hlo.dg.good
     have hsl := hlo.both.sim.l
     have hso := hlo.both.sim.ops
     obtain ⟨LA, lcap, hv⟩ := hlo.both.rd.row.len
     rw [hsl] at hv
     subst hv
     have HSL := y_ hsl
     have HSO := y_ hso
     clear hlo hsl hso HS HA HT
     have hcnt : p.fs.length ≤ 200 := hgd.out.cnt
     go_wp2_with (go_at_call 31; refine (Dg.names HD.out.dg).mono ?_; rintro e x1 ⟨nA, nc, rfl, hnc, hnr, hx1⟩; have NR1 := y_ hnr; have HD1 := y_ (HD.out.ext hx1); have c0 := HD1.out.both.rd.c.1; have c2 := HD1.out.both.rd.c.2.2.1; rw [HSO.out] at c2; clear hnr hx1)
     have qo : (p.h.ops != p.h.ops) = false := bne_self_eq_false _
     have ql0 : (((p.fs.length : Nat) : Int) != ((p.fs.length : Nat) : Int)) = false := bne_self_eq_false _
     go_quiet (first
      | (go_at_call 32; exact Calls.quiet_of_same (Dg.ops (HD1.out.dg.ext (Reg.Ext.drewN _ _)))))
     clear c0 c2 qo ql0
     go_wp2_with fail
     go_loopw [15] (fun k wr => ∃ (m : Nat), k = .int .i64 (m : Int) ∧ m ≤ p.fs.length ∧ Hid (Reg.Ext x1 wr)) (fun k _ => p.fs.length - (intOf k).toNat)
     case atStart => exact ⟨0, rfl, Nat.zero_le _, y_ (Reg.Ext.drewN _ _)⟩
     case round =>
      obtain ⟨m, rfl, hm2, HY⟩ := hrel
      by_cases hml : m < p.fs.length
      ·obtain ⟨rb, rfl, hro, hnm⟩ := NR1.out m hml
       have hgt := hgd.out.get_ m hml
       have hnl : p.fs[m].name.length ≤ 80 := isName_len (hgd.out.names _ (List.getElem_mem hml))
       have HBy : Hid (∀ w', Reg.Ext x1 w' → Calls Tryz.prog 33 #[.pointer (some ⟨d, 0, none⟩), .string ⟨p.fs[m].name.toArray⟩] w' fun e w2 => e = .returned (.string ⟨p.fs[m].l.toArray⟩) ∧ w2 = w') := y_ fun w' hx => by
        have h := (HD1.out.dg.ext hx).bytes p.fs[m].name (by unfold maxLen; omega)
        rw [hgt] at h
        exact h
       have HSf : Hid (∀ w', Reg.Ext x1 w' → Calls Tryz.prog 34 #[.pointer (some ⟨d, 0, none⟩), .string ⟨p.fs[m].name.toArray⟩] w' fun e w2 => e = .returned (.int .i64 (p.fs[m].safe : Int)) ∧ w2 = w') := y_ fun w' hx => by
        have h := (HD1.out.dg.ext hx).safe p.fs[m].name (by unfold maxLen; omega)
        rw [hgt] at h
        exact h
       have hrow : Rk.LV wr (.slice LA p.fs.length lcap) p.fs := by
        have := (HD1.out.both.rd.ext HY.out).row
        rw [HSL.out] at this
        exact this
       rcases hrow.form with ⟨_, h2⟩ | ⟨g, cap', h2, _, _, _⟩
       ·rw [h2] at hml; exact absurd hml (Nat.not_lt_zero _)
       injection h2 with h2 h2b h3
       clear h2b
       subst h2 h3
       have hrg := hrow.range m hml
       have c0 := (HD1.out.both.rd.ext HY.out).c.1
       have hnmw := HY.out.at_ hnm
       unfold str at hnmw
       have y0 := hrg 0 _ rfl
       have y1 := hrg 1 _ rfl
       have y2 := hrg 2 _ rfl
       rw [Nat.add_zero] at y0
       clear hgt hrow hnm hro hnl hrg
       generalize p.fs[m] = f at *
       have qn : (f.name != f.name) = false := bne_self_eq_false _
       have ql : (f.l != f.l) = false := bne_self_eq_false _
       have qs : (((f.safe : Nat) : Int) != ((f.safe : Nat) : Int)) = false := bne_self_eq_false _
       go_wp2_with fail
       go_quiet (first
        | (go_at_call 33; exact Calls.quiet_of_same (HBy.out _ (HY.out.trans (Reg.Ext.drewN _ _))))
        | (go_at_call 34; exact Calls.quiet_of_same (HSf.out _ (HY.out.trans (Reg.Ext.drewN _ _)))))
       go_wp2_with fail
       go_roundw
       case rel => exact ⟨m + 1, by go_num, by omega, y_ (HY.out.trans (Reg.Ext.drewN _ _))⟩
       case measure => simp [intOf]; omega
      ·have hme : m = p.fs.length := by omega
       subst hme
       go_wp2_with fail
       go_ret
       exact ⟨rfl, HD1.out.base.1.trans HY.out⟩
     -- F}
  ·have hje : j = us.length := by omega
   subst hje
   as_aux_lemma =>
    -- {G
    obtain ⟨es, p, v, r, hlo, -⟩ := HS.out.lo
    have HD := y_ hlo
    have hgd := y_ hlo.dg.good
    have hsl := hlo.both.sim.l
    have hso := hlo.both.sim.ops
    obtain ⟨LA, lcap, hv⟩ := hlo.both.rd.row.len
    rw [hsl] at hv
    subst hv
    have HSL := y_ hsl
    have HSO := y_ hso
    clear hlo hsl hso HS HA HT
    have hcnt : p.fs.length ≤ 200 := hgd.out.cnt
    go_wp2_with (go_at_call 31; refine (Dg.names HD.out.dg).mono ?_; rintro e x1 ⟨nA, nc, rfl, hnc, hnr, hx1⟩; have NR1 := y_ hnr; have HD1 := y_ (HD.out.ext hx1); have c0 := HD1.out.both.rd.c.1; have c2 := HD1.out.both.rd.c.2.2.1; rw [HSO.out] at c2; clear hnr hx1)
    have qo : (p.h.ops != p.h.ops) = false := bne_self_eq_false _
    have ql0 : (((p.fs.length : Nat) : Int) != ((p.fs.length : Nat) : Int)) = false := bne_self_eq_false _
    go_quiet (first
     | (go_at_call 32; exact Calls.quiet_of_same (Dg.ops (HD1.out.dg.ext (Reg.Ext.drewN _ _)))))
    clear c0 c2 qo ql0
    go_wp2_with fail
    go_loopw [15] (fun k wr => ∃ (m : Nat), k = .int .i64 (m : Int) ∧ m ≤ p.fs.length ∧ Hid (Reg.Ext x1 wr)) (fun k _ => p.fs.length - (intOf k).toNat)
    case atStart => exact ⟨0, rfl, Nat.zero_le _, y_ (Reg.Ext.drewN _ _)⟩
    case round =>
     obtain ⟨m, rfl, hm2, HY⟩ := hrel
     by_cases hml : m < p.fs.length
     ·obtain ⟨rb, rfl, hro, hnm⟩ := NR1.out m hml
      have hgt := hgd.out.get_ m hml
      have hnl : p.fs[m].name.length ≤ 80 := isName_len (hgd.out.names _ (List.getElem_mem hml))
      have HBy : Hid (∀ w', Reg.Ext x1 w' → Calls Tryz.prog 33 #[.pointer (some ⟨d, 0, none⟩), .string ⟨p.fs[m].name.toArray⟩] w' fun e w2 => e = .returned (.string ⟨p.fs[m].l.toArray⟩) ∧ w2 = w') := y_ fun w' hx => by
       have h := (HD1.out.dg.ext hx).bytes p.fs[m].name (by unfold maxLen; omega)
       rw [hgt] at h
       exact h
      have HSf : Hid (∀ w', Reg.Ext x1 w' → Calls Tryz.prog 34 #[.pointer (some ⟨d, 0, none⟩), .string ⟨p.fs[m].name.toArray⟩] w' fun e w2 => e = .returned (.int .i64 (p.fs[m].safe : Int)) ∧ w2 = w') := y_ fun w' hx => by
       have h := (HD1.out.dg.ext hx).safe p.fs[m].name (by unfold maxLen; omega)
       rw [hgt] at h
       exact h
      have hrow : Rk.LV wr (.slice LA p.fs.length lcap) p.fs := by
       have := (HD1.out.both.rd.ext HY.out).row
       rw [HSL.out] at this
       exact this
      rcases hrow.form with ⟨_, h2⟩ | ⟨g, cap', h2, _, _, _⟩
      ·rw [h2] at hml; exact absurd hml (Nat.not_lt_zero _)
      injection h2 with h2 h2b h3
      clear h2b
      subst h2 h3
      have hrg := hrow.range m hml
      have c0 := (HD1.out.both.rd.ext HY.out).c.1
      have hnmw := HY.out.at_ hnm
      unfold str at hnmw
      have y0 := hrg 0 _ rfl
      have y1 := hrg 1 _ rfl
      have y2 := hrg 2 _ rfl
      rw [Nat.add_zero] at y0
      clear hgt hrow hnm hro hnl hrg
      generalize p.fs[m] = f at *
      have qn : (f.name != f.name) = false := bne_self_eq_false _
      have ql : (f.l != f.l) = false := bne_self_eq_false _
      have qs : (((f.safe : Nat) : Int) != ((f.safe : Nat) : Int)) = false := bne_self_eq_false _
      go_wp2_with fail
      go_quiet (first
       | (go_at_call 33; exact Calls.quiet_of_same (HBy.out _ (HY.out.trans (Reg.Ext.drewN _ _))))
       | (go_at_call 34; exact Calls.quiet_of_same (HSf.out _ (HY.out.trans (Reg.Ext.drewN _ _)))))
      go_wp2_with fail
      go_roundw
      case rel => exact ⟨m + 1, by go_num, by omega, y_ (HY.out.trans (Reg.Ext.drewN _ _))⟩
      case measure => simp [intOf]; omega
     ·have hme : m = p.fs.length := by omega
      subst hme
      go_wp2_with fail
      go_ret
      exact ⟨rfl, HD1.out.base.1.trans HY.out⟩
    -- G}
end Plk
end Go.Proofs.YtafeealbdpmdkaaGreatDoor

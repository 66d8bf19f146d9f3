/- The walk of DiaryKeeps. -/
import Derived.Test.YtafeealbdpmdkaaDoorDyK
import Derived.Test.YtafeealbdpmdkaaDoorDyJ
set_option linter.unusedSimpArgs false
set_option linter.unusedVariables false
set_option linter.unusedSectionVars false
namespace Go.Proofs.YtafeealbdpmdkaaDoor
open Go Go.RowKit
namespace Plk
open Slp (S good frame body frames allP Row RdS Fit sameL)
def HBx (w : World) (d mp : Nat) (es : List E) (g b : Nat) (x : S) : Prop := b ≠ g ∧ Out w d mp es b ∧ Blk w b 37 x.cells
theorem HBx.turn {w w1 : World} {d mp g b : Nat} {es es1 : List E} {x : S} (h : HBx w d mp es g b x) (hT : TurnG d mp g w es w1 es1) : HBx w1 d mp es1 g b x := ⟨h.1, hT.out h.2.1, hT.blk h.1 h.2.1 h.2.2⟩
theorem range_of {w : World} {g : Nat} {t : TypeId} {cs : List Value} (h : Blk w g t cs) : w.rangeAt g 0 cs := by
  intro j v hv
  rw [Nat.zero_add]
  rw [h.cell j, hv]
theorem ne_some {a b : Nat} (h : a ≠ b) : some a ≠ some b := fun e => h (by injection e)
def goneS : S := ⟨5, Slp.noStr, Slp.noStr, Slp.zeros, Slp.noStr, 0, 0⟩
theorem gone_dig : goneS.dig.length = 32 := rfl
theorem gone_good : good goneS = true := by decide +kernel
def RelK (W : World) (d mp g B : Nat) (xs : List S) (v i : Value) (wr : World) : Prop := ∃ (k : Nat) (es : List E) (s : H) (j : Nat) (ws : List S) (sure : Nat), k ≤ xs.length ∧ k ≤ 60 ∧ i = .int .i64 (k : Int) ∧
  Hid (Lw W wr d mp es (kp ws sure s) g (ky ws sure false)) ∧ Hid (Held wr d mp es g B v ws) ∧ Hid (Kept s ws sure (3 + 2 * k)) ∧ Hid (Armed s j) ∧ ws.length ≤ k ∧ Hid (B ≤ wr.heap.size)
theorem open_wide {W w : World} {d mp : Nat} {es : List E} {g : Nat} {y z : Y} {p q : P} {l : List UInt8} {zs : List S} (h : Lw W w d mp es p g y) (hb : p.h.ops + 4 < big) (hw : p.load = (l, 0, q)) (hs : l.length ≤ 1048576) (hT : Crc.Tab W) (ex : (allP l).1 = zs) (ey : opened l = z) :
    Calls Tryd.prog 8 #[.pointer (some ⟨d, 0, none⟩)] w fun e w' => ∃ es' g' pp c,
      e = .returned (.tuple #[.pointer (some ⟨g', 0, none⟩), .slice pp zs.length c, .int .i64 0]) ∧ Lw W w' d mp es' q g' z ∧ Held w' d mp es' g' w.heap.size (.slice pp zs.length c) zs ∧ Turn d mp w es w' es' := by
  refine (h.again hb hw hs hT ex ey).mono ?_
  rintro e w' ⟨es', g', pp, c, rfl, -, k, -, hh, t⟩
  exact ⟨es', g', pp, c, rfl, k, hh, t⟩
set_option maxRecDepth 100000 in
set_option maxHeartbeats 8000000 in
theorem keeps_law (v0 : Value) (xs : List S) (A2 : Option Addr) (n2 c2 : Nat) (bs : List Bool) (at_ keep : Int) (W : World) (hr0 : RdS v0 xs W) (hn2 : bs.length = n2) (hm2 : n2 ≤ maxLen) (hr2 : Rd W A2 (bs.map Value.bool)) (hT : Crc.Tab W) :
    Calls Tryd.prog 3 #[v0, .slice A2 n2 c2, .int .i64 at_, .int .i64 keep] W fun e w' => e = .returned (.bool true) ∧ Reg.Ext W w' := by
  subst hn2
  have HD0 := Lib.hid hr0.1
  have HR0 := Lib.hid hr0
  have hlx : xs.length ≤ maxLen := by obtain ⟨-, p, c, -, h, -⟩ := hr0; exact h
  obtain ⟨-, p0, c0, rfl, -, -⟩ := hr0
  have HT := Lib.hid hT
  have HRB := Lib.hid hr2
  unfold maxLen at hm2 hlx
  clear hT hr2
  obtain ⟨s0, hs0, c0'⟩ : ∃ s0, new 1048576 = ⟨[], s0⟩ ∧ Calm s0 1048576 0 0 := ⟨_, rfl, ⟨rfl, .inl rfl, by decide, rfl, Int.le_refl _⟩⟩
  obtain ⟨s1, E1, c1'⟩ := load0 c0'
  rw [← hs0] at E1
  have CO := Lib.hid (fun (w : World) d mp (h : Dg w d mp [] (new 1048576)) (hx : Reg.Ext W w) (ho : ∀ i, Own d mp [] i → W.heap.size ≤ i) => lw_open h hx ho HT.out (by rw [hs0]; have := c0'.ops; show s0.ops + 4 < big; unfold big; omega) E1 (show opened [] = ⟨0, 0, 0, false⟩ by unfold opened; rw [Slp.allP_nil]; rfl))
  obtain ⟨qa, hqa, eqa⟩ := umod at_ 129 (by omega)
  replace eqa : wrap64 ((IntKind.u64.wrap at_).tmod 130) = (qa : Int) := eqa
  have HEA : Hid ((1 : Int) + (qa : Int) = ((qa + 1 : Nat) : Int)) := Lib.hid (by omega)
  have HOP : Hid (s1.ops < big) := Lib.hid (by have := c1'.ops; unfold big; omega)
  have HARM := Lib.hid (armed_arm c1' (qa + 1) (by omega) (by omega))
  have hkp := arm_keep s1 ((qa + 1 : Nat) : Int) 2 0
  have HKE : Hid (Kept (s1.arm ((qa + 1 : Nat) : Int) 2 0) [] 0 (3 + 2 * 0)) := Lib.hid ⟨fun x hx => (by cases hx), Nat.le_refl _, hkp.1.trans c1'.room, hkp.2.1.trans c1'.used, by rw [hkp.2.2.1]; exact c1'.ops⟩
  clear hs0 E1 c0' c1' hkp
  go_enter Tryd.func3, Tryd.ntmps3
  go_upto_region 8 with (first
    | (go_at_call 6; refine (awake_any W HT.out).mono ?_; rintro e wa ⟨rfl, hx⟩; have XA := Lib.hid hx; clear hx)
    | (go_at_call 7; refine (Dg.new 1048576 _).mono ?_; rintro e x0 ⟨d, mp, rfl, h0, hx0, ho0⟩; have HO := Lib.hid (fun i hi => Nat.le_trans XA.out.size (ho0 i hi)); have X0 := Lib.hid (XA.out.trans hx0); clear hx0 ho0)
    | (go_at_call 8; refine (CO.out _ _ _ h0 X0.out HO.out).mono ?_; rintro e x1 ⟨es1, g, pp, cc, rfl, k⟩; have K1 := Lib.hid k; clear h0 HO k)
    | (go_at_call 9; refine (K1.out.arm (1 + (qa : Int)) 2 0 HOP.out).mono ?_; rintro e x3 ⟨rfl, es3, k, -⟩; rw [HEA.out] at k; have K3 := Lib.hid k; clear k))
  go_upto_region 9 with (fail)
  have hrow := row_empty x3 x3.heap.size (Nat.le_refl _)
  have hxa := Reg.Ext.alloc x3 (.cells #[] 37)
  have K2 := Lib.hid (K3.out.ext hxa)
  have hgl := K3.out.dy.out.1
  have hlt : x3.heap.size < (x3.alloc (.cells #[] 37)).heap.size := by simp
  have H2 : Hid (Held (x3.alloc (.cells #[] 37)) d mp es3 g x3.heap.size (.slice (some ⟨x3.heap.size, 0, none⟩) 0 0) []) := Lib.hid ⟨hrow, fun b hb => by
    have hb : x3.heap.size = b := by injection hb
    subst hb
    exact ⟨by omega, hlt, fun o => by have := K3.out.dy.dg.dk.own_lt o; omega⟩⟩
  have HB : Hid (W.heap.size ≤ x3.heap.size) := Lib.hid K3.out.base.1.size
  have HBL : Hid (x3.heap.size ≤ (x3.alloc (.cells #[] 37)).heap.size) := Lib.hid hxa.size
  clear hrow hxa hgl hlt K1 K3 X0 XA CO eqa HOP HEA
  generalize x3.alloc (.cells #[] 37) = x2 at *
  obtain ⟨B, hB⟩ : ∃ B, x3.heap.size = B := ⟨_, rfl⟩
  rw [hB] at H2 HB HBL ⊢
  clear hB
  generalize s1.arm ((qa + 1 : Nat) : Int) 2 0 = s3 at *
  go_wp2_with fail
  go_loopw [13, 14] (fun v i wr => RelK W d mp g B xs v i wr) (fun _ i _ => xs.length - (intOf i).toNat)
  case atStart => exact ⟨0, es3, s3, qa + 1, [], 0, Nat.zero_le _, Nat.zero_le _, rfl, K2, H2, HKE, HARM, Nat.zero_le _, HBL⟩
  case round =>
    obtain ⟨k, es, s, j, ws, sure, hk, hk6, rfl, K, HW, HK, HA, hwk, HBW⟩ := hrel
    clear K2 H2 HKE HARM HBL
    by_cases hkl : k < xs.length
    · by_cases hk7 : k < 60
      · obtain ⟨p', c', e1, -, hrr⟩ := HR0.out.2
        injection e1 with e1 e2 e3
        subst e1 e3
        clear e2
        obtain ⟨ga, oa, rfl, hrk⟩ := hrr k hkl
        have hx := HD0.out xs[k] (List.getElem_mem hkl)
        have HRK := Lib.hid hrk
        clear hrr hrk
        generalize xs[k] = x at *
        have HRK1 := Lib.hid (Slp.rangeAt_ext HRK.out K.out.base.1)
        go_upto_region 12 with (fail)
        refine wp_region_lit ?_
        iterate 9 go_step
        refine Slp.wpList_sl _ rfl ga (oa + k * 38) rfl x hx HRK1 rfl ?_
        simp only [Act.put, Act.eval, List.setIfInBounds_toArray, List.set_cons_zero, List.set_cons_succ, Nat.reduceAdd, Array.getD_eq_getD_getElem?, List.getElem?_toArray, List.getElem?_cons_succ, List.getElem?_cons_zero, Option.getD_some]
        refine wpList_bx _ rfl x hx rfl rfl ?_
        simp only [Act.put, Act.eval, List.setIfInBounds_toArray, List.set_cons_zero, List.set_cons_succ, Nat.reduceAdd, Array.getD_eq_getD_getElem?, List.getElem?_toArray, List.getElem?_cons_succ, List.getElem?_cons_zero, Option.getD_some]
        repeat go_step
        refine (great_any 0 0 0 0 x none 0 [] Slp.noStr hx _ ⟨fun y hy => (by cases hy), none, 0, rfl, Nat.zero_le _, fun j hj => (by cases hj)⟩).mono ?_
        rintro e wb ⟨rfl, hz⟩
        have K4 := Lib.hid (K.out.ext hz)
        have HW4 := Lib.hid (HW.out.turn (TurnG.ext hz))
        have HB4 := Lib.hid (Nat.le_trans HBW.out hz.size)
        clear hz HRK1 K HW HBW
        rename_i hK
        refine hK _ _ ?_
        clear hK
        obtain ⟨b0, hb0⟩ : ∃ b, greatA x [] Slp.noStr = b := ⟨_, rfl⟩
        rw [hb0]
        clear hb0
        cases b0 with
        | true =>
          go_wp2_with fail
          go_ret
          exact ⟨rfl, K4.out.base.1⟩
        | false =>
          obtain ⟨bg, hbg⟩ : ∃ b, good x = b := ⟨_, rfl⟩
          have HRK4 := Lib.hid (Slp.rangeAt_ext HRK.out K4.out.base.1)
          have HOPS : Hid ((kp ws sure s).h.ops < big) := Lib.hid (by have := HK.out.ops; show s.ops < big; unfold big; omega)
          have HFI : Hid ((ky ws sure false).Fine) := Lib.hid (fine_of _ _ (by omega) (by have := fit_small HK.out.fit; omega) _ _)
          cases bg with
          | false =>
            have CA := Lib.hid (K4.out.add HFI.out HOPS.out x hx HT.out (kept_bad (o := 0) hbg))
            clear hbg
            go_upto_region 14 with (fail)
            refine wp_region_lit ?_
            iterate 12 go_step
            refine Slp.wpList_sl _ rfl ga (oa + k * 38) rfl x hx HRK4 rfl ?_
            simp only [Act.put, Act.eval, List.setIfInBounds_toArray, List.set_cons_zero, List.set_cons_succ, Nat.reduceAdd, Array.getD_eq_getD_getElem?, List.getElem?_toArray, List.getElem?_cons_succ, List.getElem?_cons_zero, Option.getD_some]
            repeat go_step
            refine (CA.out).mono ?_
            rintro e z ⟨rfl, esK5, k, t⟩
            have K5 := Lib.hid k
            have TK5 := Lib.hid t
            clear k t
            rename_i hK
            refine hK _ _ ?_
            clear hK
            have HW5 := Lib.hid (HW4.out.turn TK5.out)
            have HB5 := Lib.hid (Nat.le_trans HB4.out TK5.out.size)
            have HK5 : Hid (Kept s ws sure (3 + 2 * (k + 1))) := Lib.hid ⟨HK.out.fit, HK.out.le, HK.out.room, HK.out.used, by have := HK.out.ops; omega⟩
            clear CA K4 HW4 HB4 TK5 HRK4
            go_wp2_with fail
            go_roundw
            case rel => exact ⟨k + 1, esK5, s, j, ws, sure, by omega, by omega, by go_num, K5, HW5, HK5, HA, by omega, HB5⟩
            case measure => simp [intOf]; omega
          | true =>
            rcases kept_add HK.out HA.out (by omega) hx hbg with ⟨s', E, hk'⟩ | ⟨s', j', E, hk', ha'⟩
            · have CA := Lib.hid (K4.out.add HFI.out HOPS.out x hx HT.out E)
              have HK5 := Lib.hid hk'
              clear E hk' hbg
              go_upto_region 14 with (fail)
              refine wp_region_lit ?_
              iterate 12 go_step
              refine Slp.wpList_sl _ rfl ga (oa + k * 38) rfl x hx HRK4 rfl ?_
              simp only [Act.put, Act.eval, List.setIfInBounds_toArray, List.set_cons_zero, List.set_cons_succ, Nat.reduceAdd, Array.getD_eq_getD_getElem?, List.getElem?_toArray, List.getElem?_cons_succ, List.getElem?_cons_zero, Option.getD_some]
              repeat go_step
              refine (CA.out).mono ?_
              rintro e z ⟨rfl, esK5, k, t⟩
              have K5 := Lib.hid k
              have TK5 := Lib.hid t
              clear k t
              rename_i hK
              refine hK _ _ ?_
              clear hK
              have HW5 := Lib.hid (HW4.out.turn TK5.out)
              clear CA K4 HW4 HB4 TK5 HRK4
              clear HK
              obtain ⟨pw, cw, hv, hcw, hpw⟩ := Row.cap (HW5).out.1
              subst hv
              obtain ⟨l, zs, b2, s9, u9, E, i1, i2, ez, a1, a2, c9, hl, hu, hbl⟩ := kept_on (HK5).out (by omega) keep
              have HON := Lib.hid (show ∀ (w : World) es y, Lw W w d mp es (P.on ⟨(kp ws sure s').fs, { s' with off := true, ak := 0, af := 0, al := 0 }⟩ [keep]) g y → _ from fun w es y h => open_wide h (by rw [onk_ops]; have := (HK5).out.ops; unfold big; omega) E (by omega) HT.out a1 a2)
              have HE2 := Lib.hid ez
              have HC9 := Lib.hid c9
              have HU9 := Lib.hid hu
              have HBL := Lib.hid hbl
              have HL9 := Lib.hid hl
              have HFZ : Hid (Fit zs) := Lib.hid (by rw [← ez]; exact fun y hy => (HK5).out.fit y (List.mem_of_mem_take hy))
              have CSU := Lib.hid (fun (w : World) d mp es q g (ws : List S) (n : Nat) b (h : Lw W w d mp es q g (ky ws n b)) => show Calls Tryd.prog 13 #[.pointer (some ⟨g, 0, none⟩)] w fun e w' => e = .returned (.int .i64 (n : Int)) ∧ w = w' from h.sure.mono fun _ _ h => ⟨h.1, h.2.symm⟩)
              have dz : decide (zs.length < sure) = false := by rw [decide_eq_false_iff_not]; omega
              clear E a1 a2 c9 hl hu hbl ez
              go_upto_region 25 with (first
                | fail
                | (go_at_call 13; ((with_reducible refine (CSU.out _ _ _ _ _ _ _ _ _ (K5).out).mono ?_); rintro e _ ⟨rfl, rfl⟩))
                | (go_at_call 14; refine ((K5).out.off).mono ?_; rintro e x6 ⟨rfl, es6, k, t⟩; have K6 := Lib.hid k; have HW6 := Lib.hid ((HW5).out.turn t); clear k t)
                | (go_at_call 15; refine (K6.out.on1 keep).mono ?_; rintro e x7 ⟨rfl, es7, k, t⟩; have K7 := Lib.hid k; have HW7 := Lib.hid ((HW6.out.turn (TurnG.ext (Reg.Ext.alloc _ _))).turn t); clear k t)
                | (go_at_call 8; refine (HON.out _ _ _ K7.out).mono ?_; rintro e x8 ⟨es8, g8, p8, c8, rfl, k, hh, t⟩; have K8 := Lib.hid k; have HF8 := Lib.hid hh; have HW8 := Lib.hid (HW7.out.turn (.of t)); clear k hh t)
                | (go_at_call 16; refine (begins_any pw cw hpw _ ws zs _ HW8.out.rd hcw HF8.out.rd i2 HE2.out (by omega)).mono ?_; rintro e x9 ⟨rfl, hx9⟩; have K9 := Lib.hid (K8.out.ext hx9); have HF9 := Lib.hid (HF8.out.turn (TurnG.ext hx9)); clear hx9)
                | (go_at_call 13; ((with_reducible refine (CSU.out _ _ _ _ _ _ _ _ _ K9.out).mono ?_); rintro e _ ⟨rfl, rfl⟩)))
              clear K6 K7 K8 HW6 HW7 HW8 HF8 HON K5 HW5 HK5
              cases b2 with
              | true =>
                have hfz2 := fit_small HFZ.out
                obtain ⟨s2, E2, c2⟩ := rew1 HC9.out l l.length (ky zs zs.length true) zs (fit_good HFZ.out) (by have := HL9.out; rw [HU9.out]; omega)
                have CR := Lib.hid (fun (w : World) es (h : Lw W w d mp es ⟨d1 l l.length, s9⟩ g8 (ky zs zs.length true)) (u : Value) (hr : RdS u zs w) => h.rew (by have := HC9.out.ops; show s9.ops + 5 < big; unfold big; omega) zs u hr (by omega) HT.out E2)
                have CK := Lib.hid (fun (w : World) es q g (h : Lw W w d mp es q g (ky zs zs.length true)) => show Calls Tryd.prog 17 #[.pointer (some ⟨g, 0, none⟩)] w fun e w' => e = .returned (.bool true) ∧ w = w' from h.sick.mono fun _ _ h => ⟨h.1, h.2.symm⟩)
                have C10 := Lib.hid c2
                have HU10 : Hid ((u9 : Int) + (frames zs).length - l.length ≤ 200000) := Lib.hid (by have := HL9.out; rw [HU9.out]; omega)
                clear E2 c2
                go_upto_region 27 with (first
                  | (go_at_call 17; refine (CK.out _ _ _ _ K9.out).mono ?_; rintro e _ ⟨rfl, rfl⟩)
                  | (go_at_call 18; refine (CR.out _ _ K9.out _ HF9.out.rd).mono ?_; rintro e x10 ⟨rfl, es10, k, t⟩; have K10 := Lib.hid k; have HF10 := Lib.hid (HF9.out.turn t); clear k t))
                clear K9 HF9 CR CK
                have hu10 := HU10.out
                have hzl : zs.length ≤ 60 := by omega
                have hfz := fit_small HFZ.out
                have hbg := body_size gone_dig gone_good
                obtain ⟨s3, E3, c3⟩ := add1 (C10).out (frames zs) (frames zs).length (x := goneS) (y := ⟨(zs.length : Int), (zs.length : Int), ((frames zs).length : Int), false⟩) rfl gone_good (by omega)
                obtain ⟨s4, k4, E4, c4, q4, -⟩ := syn1 c3 (frames zs ++ frame (body goneS)) (frames zs).length (y := ⟨(zs.length : Int) + 1, (zs.length : Int), ((frames zs).length : Int) + ((frame (body goneS)).length : Int), false⟩) rfl
                have q4 := q4 (by show (zs.length : Int) ≠ (zs.length : Int) + 1; omega)
                subst q4
                have o3 := c3.ops
                have o4 := c4.ops
                have o0 := (C10).out.ops
                have C3 := Lib.hid (fun (w : World) es (h : Lw W w d mp es ⟨d1 (frames zs) (frames zs).length, s2⟩ g8 ⟨(zs.length : Int), (zs.length : Int), ((frames zs).length : Int), false⟩) => h.add (fine_of _ _ (by omega) (by omega) _ _) (by show (s2).ops < big; unfold big; omega) goneS gone_dig HT.out E3)
                have C4 := Lib.hid (fun (w : World) es (h : Lw W w d mp es ⟨d1 (frames zs ++ frame (body goneS)) (frames zs).length, s3⟩ g8 ⟨(zs.length : Int) + 1, (zs.length : Int), ((frames zs).length : Int) + ((frame (body goneS)).length : Int), false⟩) => h.sync (by show s3.ops < big; unfold big; omega) E4)
                obtain ⟨ys, hys⟩ : ∃ ys, ys = zs ++ [goneS] := ⟨_, rfl⟩
                have hf5 : Fit ys := by rw [hys]; exact fit_snoc HFZ.out gone_dig gone_good
                have hl5 : ys.length ≤ 100 := by rw [hys]; simp; omega
                have he5 : frames zs ++ frame (body goneS) = frames ys := by rw [hys]; exact (Slp.frames_snoc _ _).symm
                have C5 := Lib.hid (fun (w : World) es (y : Y) (h : Lw W w d mp es (P.on ⟨d1 (frames zs ++ frame (body goneS)) (frames zs ++ frame (body goneS)).length, { s4 with off := true, ak := 0, af := 0, al := 0 }⟩ []) g8 y) => again_old (xs := ys) [] (.inl rfl) c4.room o4 (by omega) hf5 he5 hl5 HT.out h)
                have CM2 := Lib.hid (show ∀ (u v : Value) (w : World), RdS u ys w → RdS v ys w → Calls Tryd.prog 19 #[u, v] w fun e w' => e = .returned (.bool true) ∧ Reg.Ext w w' from fun u v w h1 h2 => by rw [← (Slp.sameL_iff ys ys).2 rfl]; exact Slp.same_any u v ys ys w h1 h2)
                have HYS := Lib.hid hys
                clear hys
                clear E3 E4 c3 c4 o3 o4 o0 hf5 hl5 hfz hbg he5
                refine wp_region_lit ?_
                refine Slp.wpList_val rfl (.agg goneS.cells.toArray) (by as_aux_lemma => kernel_rfl) ?_
                simp only [Act.put, Act.eval, List.setIfInBounds_toArray, List.set_cons_zero, List.set_cons_succ, Nat.reduceAdd, Array.getD_eq_getD_getElem?, List.getElem?_toArray, List.getElem?_cons_succ, List.getElem?_cons_zero, Option.getD_some]
                iterate 3 go_step
                rw [Slp.z38]
                have hb8 := Slp.boxS x10 S.none
                have hx8 := Reg.Ext.alloc x10 (Obj.cells S.none.cells.toArray 37)
                have hg8 := (K10).out.dy.out.1
                have hlt8 := hb8.lt
                have HSZ := Lib.hid (K10).out.dy.dg.dk
                generalize (x10).alloc (Obj.cells S.none.cells.toArray 37) = w8 at *
                obtain ⟨bx, hbx⟩ : ∃ b, (x10).heap.size = b := ⟨_, rfl⟩
                rw [hbx] at hb8 hg8 hlt8 ⊢
                refine wpList_store_mid rfl 37 _ _ rfl bx 0 ((goneS).cells).toArray rfl ?_ (hb8.there _ (by have e1 := Slp.cells_length _ gone_dig; have e2 := Slp.cells_length _ Slp.none_dig; rw [List.size_toArray]; omega)) (by rw [List.size_toArray, Slp.cells_length _ gone_dig]; exact Slp.size38) (all_oneCell_toArray (Slp.oneS _)) ?_
                · rfl
                simp only [List.toList_toArray]
                simp only [Act.put, Act.eval, List.setIfInBounds_toArray, List.set_cons_zero, List.set_cons_succ, Nat.reduceAdd, Array.getD_eq_getD_getElem?, List.getElem?_toArray, List.getElem?_cons_succ, List.getElem?_cons_zero, Option.getD_some]
                have hbs := But.setCells bx goneS.cells 0 w8
                have h8 := hb8.setAll goneS.cells rfl
                have hx9 : Reg.Ext x10 (w8.setCells bx 0 goneS.cells) := hx8.trans_but hbs (by omega)
                have K11 := Lib.hid ((K10).out.ext hx9)
                have HF11 := Lib.hid ((HF10).out.turn (TurnG.ext hx9))
                have HB11 : Hid (HBx (w8.setCells bx 0 goneS.cells) d mp _ g8 bx goneS) := Lib.hid ⟨by omega, ⟨Nat.lt_of_lt_of_le hlt8 hbs.size, fun o => by have := HSZ.out.own_lt o; omega⟩, h8⟩
                clear hb8 hx8 hg8 hlt8 HSZ hbs h8 hx9 hbx K10 HF10
                generalize w8.setCells bx 0 goneS.cells = w11 at *
                clear w8
                go_upto_region 28 with (fail)
                refine wp_region_lit ?_
                iterate 3 go_step
                refine Slp.wpList_sl _ rfl bx 0 rfl goneS gone_dig (Lib.hid (range_of HB11.out.2.2)) rfl ?_
                simp only [Act.put, Act.eval, List.setIfInBounds_toArray, List.set_cons_zero, List.set_cons_succ, Nat.reduceAdd, Array.getD_eq_getD_getElem?, List.getElem?_toArray, List.getElem?_cons_succ, List.getElem?_cons_zero, Option.getD_some]
                repeat go_step
                refine (C3.out _ _ K11.out).mono ?_
                rintro e z ⟨rfl, esK12, k, t⟩
                have K12 := Lib.hid k
                have TK12 := Lib.hid t
                clear k t
                rename_i hK
                refine hK _ _ ?_
                clear hK
                have HF12 := Lib.hid (HF11.out.turn TK12.out)
                have HB12 := Lib.hid (HB11.out.turn TK12.out)
                clear K11 HF11 HB11 TK12
                go_upto_region 33 with (first
                  | (go_at_call 12; refine (C4.out _ _ K12.out).mono ?_; rintro e x13 ⟨rfl, es13, k, t⟩; have K13 := Lib.hid k; have HF13 := Lib.hid (HF12.out.turn t); have HB13 := Lib.hid (HB12.out.turn t); clear k t)
                  | (go_at_call 14; refine (K13.out.off).mono ?_; rintro e x14 ⟨rfl, es14, k, t⟩; have K14 := Lib.hid k; have HF14 := Lib.hid (HF13.out.turn t); have HB14 := Lib.hid (HB13.out.turn t); clear k t)
                  | (go_at_call 15; refine (K14.out.on0).mono ?_; rintro e x15 ⟨rfl, es15, k, t⟩; have K15 := Lib.hid k; have HF15 := Lib.hid (HF14.out.turn t); have HB15 := Lib.hid (HB14.out.turn t); clear k t)
                  | (go_at_call 8; refine (C5.out _ _ _ K15.out).mono ?_; rintro e x16 ⟨es16, g16, p16, c16, q16, rfl, k, -, -, hr, t⟩; have K16 := Lib.hid k; have HR16 := Lib.hid hr; have HF16 := Lib.hid (HF15.out.turn t); have HB16 := Lib.hid (HB15.out.turn t); clear k hr t))
                clear K12 K13 K14 K15 HF12 HF13 HF14 HF15 HB12 HB13 HB14 HB15 C3 C4 C5
                have hdr := Reg.Ext.drew x16
                have XWM := Lib.hid (K16.out.base.1.trans hdr)
                have HBR := Lib.hid (fun w' (h : Reg.Ext x16.drew w') => range_of (HB16.out.2.2.ext (hdr.trans h)))
                have HFR := Lib.hid (fun w' (h : Reg.Ext x16.drew w') => HF16.out.1.ext (hdr.trans h))
                have HRR := Lib.hid (fun w' (h : Reg.Ext x16.drew w') => HR16.out.ext (hdr.trans h))
                clear hdr K16 HR16 HF16 HB16
                refine wp_region_held (S := fun w => Reg.Ext x16.drew w) (by kernel_rfl) ?_
                change wpAnyH _ _ _ _ _ _ _ _ x16.drew
                generalize x16.drew = wm at *
                have X0 := Reg.Ext.refl wm
                obtain ⟨bm, hbm⟩ : ∃ b, wm.heap.size = b := ⟨_, rfl⟩
                refine wpAnyH_take (i := 0) rfl (by kernel_rfl) (by kernel_rfl) (by kernel_rfl) (fun _ _ _ h => h) (v := .int .i64 0) (.inl ⟨by kernel_rfl, fun w _ => by as_aux_lemma => kernel_rfl⟩) X0 ?_
                simp only [Act.put, Act.eval, List.setIfInBounds_toArray, List.set_cons_zero, List.set_cons_succ, Nat.reduceAdd, Array.getD_eq_getD_getElem?, List.getElem?_toArray, List.getElem?_cons_succ, List.getElem?_cons_zero, Option.getD_some]
                refine wpAnyH_take (i := 1) rfl (by kernel_rfl) (by kernel_rfl) (by kernel_rfl) (fun _ _ _ h => h) (v := .bool true) (.inl ⟨by kernel_rfl, fun w _ => by as_aux_lemma => kernel_rfl⟩) X0 ?_
                simp only [Act.put, Act.eval, List.setIfInBounds_toArray, List.set_cons_zero, List.set_cons_succ, Nat.reduceAdd, Array.getD_eq_getD_getElem?, List.getElem?_toArray, List.getElem?_cons_succ, List.getElem?_cons_zero, Option.getD_some]
                refine wpAnyH_take (i := 2) rfl (by kernel_rfl) (by kernel_rfl) (by kernel_rfl) (fun _ _ _ h => h) (v := .bool true) (.inl ⟨by kernel_rfl, fun w _ => by as_aux_lemma => kernel_rfl⟩) X0 ?_
                simp only [Act.put, Act.eval, List.setIfInBounds_toArray, List.set_cons_zero, List.set_cons_succ, Nat.reduceAdd, Array.getD_eq_getD_getElem?, List.getElem?_toArray, List.getElem?_cons_succ, List.getElem?_cons_zero, Option.getD_some]
                refine wpAnyH_take (i := 3) rfl (by kernel_rfl) (by kernel_rfl) (by kernel_rfl) (fun _ _ _ h => h) (v := .slice p16 ys.length c16) (.inl ⟨by kernel_rfl, fun w _ => by as_aux_lemma => kernel_rfl⟩) X0 ?_
                simp only [Act.put, Act.eval, List.setIfInBounds_toArray, List.set_cons_zero, List.set_cons_succ, Nat.reduceAdd, Array.getD_eq_getD_getElem?, List.getElem?_toArray, List.getElem?_cons_succ, List.getElem?_cons_zero, Option.getD_some]
                refine wpAnyH_take (i := 5) rfl (by kernel_rfl) (by kernel_rfl) (by kernel_rfl) (fun _ _ _ h => h) (v := .slice p8 zs.length c8) (.inl ⟨by kernel_rfl, fun w _ => by as_aux_lemma => kernel_rfl⟩) X0 ?_
                simp only [Act.put, Act.eval, List.setIfInBounds_toArray, List.set_cons_zero, List.set_cons_succ, Nat.reduceAdd, Array.getD_eq_getD_getElem?, List.getElem?_toArray, List.getElem?_cons_succ, List.getElem?_cons_zero, Option.getD_some]
                refine wpAnyH_take (i := 7) rfl (by kernel_rfl) (by kernel_rfl) (by kernel_rfl) (fun _ _ _ h => h) (v := .agg goneS.cells.toArray) (yieldsIf_load_mid (by kernel_rfl) 37 (.tmp 19) rfl bx 0 (by kernel_rfl) goneS.cells _ (fun w h => HBR.out w h) Slp.undS rfl (by rw [Slp.cells_length goneS gone_dig]; exact Slp.size38)) X0 ?_
                simp only [Act.put, Act.eval, List.setIfInBounds_toArray, List.set_cons_zero, List.set_cons_succ, Nat.reduceAdd, Array.getD_eq_getD_getElem?, List.getElem?_toArray, List.getElem?_cons_succ, List.getElem?_cons_zero, Option.getD_some]
                refine Ordd.Bx.out (?_ : Ordd.Bx (wpAnyH _ _ _ _ _ _ _ _ _))
                refine Ordd.two (i := 4) (j := 8) (by kernel_rfl) rfl rfl ?_ ?_
                · refine Ordd.any (by kernel_rfl) (.slice (some ⟨(wm).heap.size, 0, none⟩) 0 0) ((wm).alloc (.cells #[] 37)) (by kernel_rfl) ?_
                  have R4 := row_empty wm bm (by rw [← hbm]; exact X0.size)
                  have X4 : Reg.Ext wm ((wm).alloc (.cells #[] 37)) := X0.trans (Reg.Ext.alloc _ _)
                  have E4 := Reg.Ext.alloc wm (.cells #[] 37)
                  obtain ⟨r4, hr4⟩ : ∃ r, (wm).heap.size = r := ⟨_, rfl⟩
                  rw [hr4] at R4 ⊢
                  generalize (wm).alloc (.cells #[] 37) = w4 at *
                  simp only [Act.put, Act.eval, List.setIfInBounds_toArray, List.set_cons_zero, List.set_cons_succ, Nat.reduceAdd, Array.getD_eq_getD_getElem?, List.getElem?_toArray, List.getElem?_cons_succ, List.getElem?_cons_zero, Option.getD_some]
                  refine Ordd.fin X4 ?_
                  refine Ordd.two (i := 6) (j := 8) (by kernel_rfl) rfl rfl ?_ ?_
                  · refine Slp.h_cat (.tmp 165) (.tmp 166) rfl (.slice (some ⟨r4, 0, none⟩) 0 0) (.slice p8 zs.length c8) [] zs bm _ (by kernel_rfl) (by kernel_rfl) (HFR.out _ X4) R4 (by rw [← hbm]; exact X4.size) (by simp; omega) (by kernel_rfl) ?_
                    intro v6 w6 R6 hg6
                    have X6 : Reg.Ext wm w6 := Below.grown X4 hg6 X4.size fun q hq => by rw [hbm]; exact (R4.1.lt q hq).1
                    simp only [Act.put, Act.eval, List.setIfInBounds_toArray, List.set_cons_zero, List.set_cons_succ, Nat.reduceAdd, Array.getD_eq_getD_getElem?, List.getElem?_toArray, List.getElem?_cons_succ, List.getElem?_cons_zero, Option.getD_some]
                    refine Ordd.fin X6 ?_
                    refine Ordd.one (i := 8) (by kernel_rfl) rfl ?_
                    refine Slp.h_r1 (.tmp 168) rfl goneS gone_dig (by kernel_rfl) (by kernel_rfl) ?_
                    intro g8' w8' hgg8' hlt8' E8' L8'
                    have X8' : Reg.Ext wm w8' := X6.trans E8'
                    simp only [Act.put, Act.eval, List.setIfInBounds_toArray, List.set_cons_zero, List.set_cons_succ, Nat.reduceAdd, Array.getD_eq_getD_getElem?, List.getElem?_toArray, List.getElem?_cons_succ, List.getElem?_cons_zero, Option.getD_some]
                    refine Ordd.fin X8' ?_
                    refine Ordd.one (i := 9) (by kernel_rfl) rfl ?_
                    refine Slp.h_cat (.tmp 167) (.tmp 169) rfl v6 (.slice (some ⟨g8', 0, none⟩) 1 1) zs [goneS] bm 0 (by kernel_rfl) (by kernel_rfl) (Slp.Row.one gone_dig L8' (Nat.zero_le _)) (R6.ext E8') (by rw [← hbm]; exact X8'.size) (by simp; omega) (by kernel_rfl) ?_
                    intro v9 w9 R9 hg9
                    have X9 : Reg.Ext wm w9 := Below.grown X8' hg9 X8'.size fun q hq => by rw [hbm]; exact ((R6.ext E8').1.lt q hq).1
                    simp only [Act.put, Act.eval, List.setIfInBounds_toArray, List.set_cons_zero, List.set_cons_succ, Nat.reduceAdd, Array.getD_eq_getD_getElem?, List.getElem?_toArray, List.getElem?_cons_succ, List.getElem?_cons_zero, Option.getD_some]
                    refine Ordd.fin X9 ?_
                    refine Ordd.one (i := 10) (by kernel_rfl) rfl ?_
                    refine Ordd.call (by kernel_rfl) 19 #[.slice p16 ys.length c16, v9] (by kernel_rfl) (CM2.out _ _ _ (HRR.out _ X9) (by rw [HYS.out]; exact R9.rd)) (.bool true) (fun _ _ h => h.1) ?_
                    intro w10 hx10
                    have X10 := X9.trans hx10.2
                    simp only [Act.put, Act.eval, List.setIfInBounds_toArray, List.set_cons_zero, List.set_cons_succ, Nat.reduceAdd, Array.getD_eq_getD_getElem?, List.getElem?_toArray, List.getElem?_cons_succ, List.getElem?_cons_zero, Option.getD_some]
                    refine Ordd.fin X10 ?_
                    refine Ordd.one (i := 11) (by kernel_rfl) rfl ?_
                    refine Ordd.any (by kernel_rfl) (.bool true) w10 (by kernel_rfl) ?_
                    simp only [Act.put, Act.eval, List.setIfInBounds_toArray, List.set_cons_zero, List.set_cons_succ, Nat.reduceAdd, Array.getD_eq_getD_getElem?, List.getElem?_toArray, List.getElem?_cons_succ, List.getElem?_cons_zero, Option.getD_some]
                    refine Ordd.fin X10 ?_
                    refine Ordd.one (i := 12) (by kernel_rfl) rfl ?_
                    refine Ordd.any (by kernel_rfl) (.bool true) w10 (by kernel_rfl) ?_
                    simp only [Act.put, Act.eval, List.setIfInBounds_toArray, List.set_cons_zero, List.set_cons_succ, Nat.reduceAdd, Array.getD_eq_getD_getElem?, List.getElem?_toArray, List.getElem?_cons_succ, List.getElem?_cons_zero, Option.getD_some]
                    refine Ordd.fin X10 ?_
                    refine Ordd.done (by kernel_rfl) ?_
                    go_wp2_with fail
                    go_ret
                    exact ⟨rfl, XWM.out.trans X10⟩
                  · refine Slp.h_r1 (.tmp 168) rfl goneS gone_dig (by kernel_rfl) (by kernel_rfl) ?_
                    intro g8' w8' hgg8' hlt8' E8' L8'
                    have X8' : Reg.Ext wm w8' := X4.trans E8'
                    simp only [Act.put, Act.eval, List.setIfInBounds_toArray, List.set_cons_zero, List.set_cons_succ, Nat.reduceAdd, Array.getD_eq_getD_getElem?, List.getElem?_toArray, List.getElem?_cons_succ, List.getElem?_cons_zero, Option.getD_some]
                    refine Ordd.fin X8' ?_
                    refine Ordd.one (i := 6) (by kernel_rfl) rfl ?_
                    refine Slp.h_cat (.tmp 165) (.tmp 166) rfl (.slice (some ⟨r4, 0, none⟩) 0 0) (.slice p8 zs.length c8) [] zs bm _ (by kernel_rfl) (by kernel_rfl) (HFR.out _ X8') (R4.ext E8') (by rw [← hbm]; exact X8'.size) (by simp; omega) (by kernel_rfl) ?_
                    intro v6 w6 R6 hg6
                    have X6 : Reg.Ext wm w6 := Below.grown X8' hg6 X8'.size fun q hq => by rw [hbm]; exact ((R4.ext E8').1.lt q hq).1
                    simp only [Act.put, Act.eval, List.setIfInBounds_toArray, List.set_cons_zero, List.set_cons_succ, Nat.reduceAdd, Array.getD_eq_getD_getElem?, List.getElem?_toArray, List.getElem?_cons_succ, List.getElem?_cons_zero, Option.getD_some]
                    refine Ordd.fin X6 ?_
                    have L6 : Blk w6 g8' 37 goneS.cells := (hg6.block g8' hlt8' (show some g8' ≠ some r4 from Plk.ne_some (by have := (R4.1.lt r4 rfl).2; omega))).trans L8'
                    refine Ordd.one (i := 9) (by kernel_rfl) rfl ?_
                    refine Slp.h_cat (.tmp 167) (.tmp 169) rfl v6 (.slice (some ⟨g8', 0, none⟩) 1 1) zs [goneS] bm 0 (by kernel_rfl) (by kernel_rfl) (Slp.Row.one gone_dig L6 (Nat.zero_le _)) R6 (by rw [← hbm]; exact X6.size) (by simp; omega) (by kernel_rfl) ?_
                    intro v9 w9 R9 hg9
                    have X9 : Reg.Ext wm w9 := Below.grown X6 hg9 X6.size fun q hq => by rw [hbm]; exact (R6.1.lt q hq).1
                    simp only [Act.put, Act.eval, List.setIfInBounds_toArray, List.set_cons_zero, List.set_cons_succ, Nat.reduceAdd, Array.getD_eq_getD_getElem?, List.getElem?_toArray, List.getElem?_cons_succ, List.getElem?_cons_zero, Option.getD_some]
                    refine Ordd.fin X9 ?_
                    refine Ordd.one (i := 10) (by kernel_rfl) rfl ?_
                    refine Ordd.call (by kernel_rfl) 19 #[.slice p16 ys.length c16, v9] (by kernel_rfl) (CM2.out _ _ _ (HRR.out _ X9) (by rw [HYS.out]; exact R9.rd)) (.bool true) (fun _ _ h => h.1) ?_
                    intro w10 hx10
                    have X10 := X9.trans hx10.2
                    simp only [Act.put, Act.eval, List.setIfInBounds_toArray, List.set_cons_zero, List.set_cons_succ, Nat.reduceAdd, Array.getD_eq_getD_getElem?, List.getElem?_toArray, List.getElem?_cons_succ, List.getElem?_cons_zero, Option.getD_some]
                    refine Ordd.fin X10 ?_
                    refine Ordd.one (i := 11) (by kernel_rfl) rfl ?_
                    refine Ordd.any (by kernel_rfl) (.bool true) w10 (by kernel_rfl) ?_
                    simp only [Act.put, Act.eval, List.setIfInBounds_toArray, List.set_cons_zero, List.set_cons_succ, Nat.reduceAdd, Array.getD_eq_getD_getElem?, List.getElem?_toArray, List.getElem?_cons_succ, List.getElem?_cons_zero, Option.getD_some]
                    refine Ordd.fin X10 ?_
                    refine Ordd.one (i := 12) (by kernel_rfl) rfl ?_
                    refine Ordd.any (by kernel_rfl) (.bool true) w10 (by kernel_rfl) ?_
                    simp only [Act.put, Act.eval, List.setIfInBounds_toArray, List.set_cons_zero, List.set_cons_succ, Nat.reduceAdd, Array.getD_eq_getD_getElem?, List.getElem?_toArray, List.getElem?_cons_succ, List.getElem?_cons_zero, Option.getD_some]
                    refine Ordd.fin X10 ?_
                    refine Ordd.done (by kernel_rfl) ?_
                    go_wp2_with fail
                    go_ret
                    exact ⟨rfl, XWM.out.trans X10⟩
                · refine Slp.h_r1 (.tmp 168) rfl goneS gone_dig (by kernel_rfl) (by kernel_rfl) ?_
                  intro g8' w8' hgg8' hlt8' E8' L8'
                  have X8' : Reg.Ext wm w8' := X0.trans E8'
                  simp only [Act.put, Act.eval, List.setIfInBounds_toArray, List.set_cons_zero, List.set_cons_succ, Nat.reduceAdd, Array.getD_eq_getD_getElem?, List.getElem?_toArray, List.getElem?_cons_succ, List.getElem?_cons_zero, Option.getD_some]
                  refine Ordd.fin X8' ?_
                  refine Ordd.one (i := 4) (by kernel_rfl) rfl ?_
                  refine Ordd.any (by kernel_rfl) (.slice (some ⟨(w8').heap.size, 0, none⟩) 0 0) ((w8').alloc (.cells #[] 37)) (by kernel_rfl) ?_
                  have R4 := row_empty w8' bm (by rw [← hbm]; exact X8'.size)
                  have X4 : Reg.Ext wm ((w8').alloc (.cells #[] 37)) := X8'.trans (Reg.Ext.alloc _ _)
                  have E4 := Reg.Ext.alloc w8' (.cells #[] 37)
                  obtain ⟨r4, hr4⟩ : ∃ r, (w8').heap.size = r := ⟨_, rfl⟩
                  rw [hr4] at R4 ⊢
                  generalize (w8').alloc (.cells #[] 37) = w4 at *
                  simp only [Act.put, Act.eval, List.setIfInBounds_toArray, List.set_cons_zero, List.set_cons_succ, Nat.reduceAdd, Array.getD_eq_getD_getElem?, List.getElem?_toArray, List.getElem?_cons_succ, List.getElem?_cons_zero, Option.getD_some]
                  refine Ordd.fin X4 ?_
                  refine Ordd.one (i := 6) (by kernel_rfl) rfl ?_
                  refine Slp.h_cat (.tmp 165) (.tmp 166) rfl (.slice (some ⟨r4, 0, none⟩) 0 0) (.slice p8 zs.length c8) [] zs bm _ (by kernel_rfl) (by kernel_rfl) (HFR.out _ X4) R4 (by rw [← hbm]; exact X4.size) (by simp; omega) (by kernel_rfl) ?_
                  intro v6 w6 R6 hg6
                  have X6 : Reg.Ext wm w6 := Below.grown X4 hg6 X4.size fun q hq => by rw [hbm]; exact (R4.1.lt q hq).1
                  simp only [Act.put, Act.eval, List.setIfInBounds_toArray, List.set_cons_zero, List.set_cons_succ, Nat.reduceAdd, Array.getD_eq_getD_getElem?, List.getElem?_toArray, List.getElem?_cons_succ, List.getElem?_cons_zero, Option.getD_some]
                  refine Ordd.fin X6 ?_
                  have L6 : Blk w6 g8' 37 goneS.cells := (hg6.block g8' (Nat.lt_of_lt_of_le hlt8' E4.size) (show some g8' ≠ some r4 from Plk.ne_some (by omega))).trans (L8'.ext E4)
                  refine Ordd.one (i := 9) (by kernel_rfl) rfl ?_
                  refine Slp.h_cat (.tmp 167) (.tmp 169) rfl v6 (.slice (some ⟨g8', 0, none⟩) 1 1) zs [goneS] bm 0 (by kernel_rfl) (by kernel_rfl) (Slp.Row.one gone_dig L6 (Nat.zero_le _)) R6 (by rw [← hbm]; exact X6.size) (by simp; omega) (by kernel_rfl) ?_
                  intro v9 w9 R9 hg9
                  have X9 : Reg.Ext wm w9 := Below.grown X6 hg9 X6.size fun q hq => by rw [hbm]; exact (R6.1.lt q hq).1
                  simp only [Act.put, Act.eval, List.setIfInBounds_toArray, List.set_cons_zero, List.set_cons_succ, Nat.reduceAdd, Array.getD_eq_getD_getElem?, List.getElem?_toArray, List.getElem?_cons_succ, List.getElem?_cons_zero, Option.getD_some]
                  refine Ordd.fin X9 ?_
                  refine Ordd.one (i := 10) (by kernel_rfl) rfl ?_
                  refine Ordd.call (by kernel_rfl) 19 #[.slice p16 ys.length c16, v9] (by kernel_rfl) (CM2.out _ _ _ (HRR.out _ X9) (by rw [HYS.out]; exact R9.rd)) (.bool true) (fun _ _ h => h.1) ?_
                  intro w10 hx10
                  have X10 := X9.trans hx10.2
                  simp only [Act.put, Act.eval, List.setIfInBounds_toArray, List.set_cons_zero, List.set_cons_succ, Nat.reduceAdd, Array.getD_eq_getD_getElem?, List.getElem?_toArray, List.getElem?_cons_succ, List.getElem?_cons_zero, Option.getD_some]
                  refine Ordd.fin X10 ?_
                  refine Ordd.one (i := 11) (by kernel_rfl) rfl ?_
                  refine Ordd.any (by kernel_rfl) (.bool true) w10 (by kernel_rfl) ?_
                  simp only [Act.put, Act.eval, List.setIfInBounds_toArray, List.set_cons_zero, List.set_cons_succ, Nat.reduceAdd, Array.getD_eq_getD_getElem?, List.getElem?_toArray, List.getElem?_cons_succ, List.getElem?_cons_zero, Option.getD_some]
                  refine Ordd.fin X10 ?_
                  refine Ordd.one (i := 12) (by kernel_rfl) rfl ?_
                  refine Ordd.any (by kernel_rfl) (.bool true) w10 (by kernel_rfl) ?_
                  simp only [Act.put, Act.eval, List.setIfInBounds_toArray, List.set_cons_zero, List.set_cons_succ, Nat.reduceAdd, Array.getD_eq_getD_getElem?, List.getElem?_toArray, List.getElem?_cons_succ, List.getElem?_cons_zero, Option.getD_some]
                  refine Ordd.fin X10 ?_
                  refine Ordd.done (by kernel_rfl) ?_
                  go_wp2_with fail
                  go_ret
                  exact ⟨rfl, XWM.out.trans X10⟩
              | false =>
                have e := HBL.out rfl
                subst e
                have CK := Lib.hid (fun (w : World) es q g (h : Lw W w d mp es q g (ky zs zs.length false)) => show Calls Tryd.prog 17 #[.pointer (some ⟨g, 0, none⟩)] w fun e w' => e = .returned (.bool false) ∧ w = w' from h.sick.mono fun _ _ h => ⟨h.1, h.2.symm⟩)
                go_upto_region 27 with (go_at_call 17; refine (CK.out _ _ _ _ K9.out).mono ?_; rintro e _ ⟨rfl, rfl⟩)
                clear CK
                have hl9 := HL9.out
                have hu9 := HU9.out
                have K10 : Hid (Lw W x9 d mp es8 ⟨d1 (frames zs) (frames zs).length, s9⟩ g8 ⟨(zs.length : Int), (zs.length : Int), ((frames zs).length : Int), false⟩) := K9
                clear K9
                have hzl : zs.length ≤ 60 := by omega
                have hfz := fit_small HFZ.out
                have hbg := body_size gone_dig gone_good
                obtain ⟨s3, E3, c3⟩ := add1 (HC9).out (frames zs) (frames zs).length (x := goneS) (y := ⟨(zs.length : Int), (zs.length : Int), ((frames zs).length : Int), false⟩) rfl gone_good (by omega)
                obtain ⟨s4, k4, E4, c4, q4, -⟩ := syn1 c3 (frames zs ++ frame (body goneS)) (frames zs).length (y := ⟨(zs.length : Int) + 1, (zs.length : Int), ((frames zs).length : Int) + ((frame (body goneS)).length : Int), false⟩) rfl
                have q4 := q4 (by show (zs.length : Int) ≠ (zs.length : Int) + 1; omega)
                subst q4
                have o3 := c3.ops
                have o4 := c4.ops
                have o0 := (HC9).out.ops
                have C3 := Lib.hid (fun (w : World) es (h : Lw W w d mp es ⟨d1 (frames zs) (frames zs).length, s9⟩ g8 ⟨(zs.length : Int), (zs.length : Int), ((frames zs).length : Int), false⟩) => h.add (fine_of _ _ (by omega) (by omega) _ _) (by show (s9).ops < big; unfold big; omega) goneS gone_dig HT.out E3)
                have C4 := Lib.hid (fun (w : World) es (h : Lw W w d mp es ⟨d1 (frames zs ++ frame (body goneS)) (frames zs).length, s3⟩ g8 ⟨(zs.length : Int) + 1, (zs.length : Int), ((frames zs).length : Int) + ((frame (body goneS)).length : Int), false⟩) => h.sync (by show s3.ops < big; unfold big; omega) E4)
                obtain ⟨ys, hys⟩ : ∃ ys, ys = zs ++ [goneS] := ⟨_, rfl⟩
                have hf5 : Fit ys := by rw [hys]; exact fit_snoc HFZ.out gone_dig gone_good
                have hl5 : ys.length ≤ 100 := by rw [hys]; simp; omega
                have he5 : frames zs ++ frame (body goneS) = frames ys := by rw [hys]; exact (Slp.frames_snoc _ _).symm
                have C5 := Lib.hid (fun (w : World) es (y : Y) (h : Lw W w d mp es (P.on ⟨d1 (frames zs ++ frame (body goneS)) (frames zs ++ frame (body goneS)).length, { s4 with off := true, ak := 0, af := 0, al := 0 }⟩ []) g8 y) => again_old (xs := ys) [] (.inl rfl) c4.room o4 (by omega) hf5 he5 hl5 HT.out h)
                have CM2 := Lib.hid (show ∀ (u v : Value) (w : World), RdS u ys w → RdS v ys w → Calls Tryd.prog 19 #[u, v] w fun e w' => e = .returned (.bool true) ∧ Reg.Ext w w' from fun u v w h1 h2 => by rw [← (Slp.sameL_iff ys ys).2 rfl]; exact Slp.same_any u v ys ys w h1 h2)
                have HYS := Lib.hid hys
                clear hys
                clear E3 E4 c3 c4 o3 o4 o0 hf5 hl5 hfz hbg he5
                refine wp_region_lit ?_
                refine Slp.wpList_val rfl (.agg goneS.cells.toArray) (by as_aux_lemma => kernel_rfl) ?_
                simp only [Act.put, Act.eval, List.setIfInBounds_toArray, List.set_cons_zero, List.set_cons_succ, Nat.reduceAdd, Array.getD_eq_getD_getElem?, List.getElem?_toArray, List.getElem?_cons_succ, List.getElem?_cons_zero, Option.getD_some]
                iterate 3 go_step
                rw [Slp.z38]
                have hb8 := Slp.boxS x9 S.none
                have hx8 := Reg.Ext.alloc x9 (Obj.cells S.none.cells.toArray 37)
                have hg8 := (K10).out.dy.out.1
                have hlt8 := hb8.lt
                have HSZ := Lib.hid (K10).out.dy.dg.dk
                generalize (x9).alloc (Obj.cells S.none.cells.toArray 37) = w8 at *
                obtain ⟨bx, hbx⟩ : ∃ b, (x9).heap.size = b := ⟨_, rfl⟩
                rw [hbx] at hb8 hg8 hlt8 ⊢
                refine wpList_store_mid rfl 37 _ _ rfl bx 0 ((goneS).cells).toArray rfl ?_ (hb8.there _ (by have e1 := Slp.cells_length _ gone_dig; have e2 := Slp.cells_length _ Slp.none_dig; rw [List.size_toArray]; omega)) (by rw [List.size_toArray, Slp.cells_length _ gone_dig]; exact Slp.size38) (all_oneCell_toArray (Slp.oneS _)) ?_
                · rfl
                simp only [List.toList_toArray]
                simp only [Act.put, Act.eval, List.setIfInBounds_toArray, List.set_cons_zero, List.set_cons_succ, Nat.reduceAdd, Array.getD_eq_getD_getElem?, List.getElem?_toArray, List.getElem?_cons_succ, List.getElem?_cons_zero, Option.getD_some]
                have hbs := But.setCells bx goneS.cells 0 w8
                have h8 := hb8.setAll goneS.cells rfl
                have hx9 : Reg.Ext x9 (w8.setCells bx 0 goneS.cells) := hx8.trans_but hbs (by omega)
                have K11 := Lib.hid ((K10).out.ext hx9)
                have HF11 := Lib.hid ((HF9).out.turn (TurnG.ext hx9))
                have HB11 : Hid (HBx (w8.setCells bx 0 goneS.cells) d mp _ g8 bx goneS) := Lib.hid ⟨by omega, ⟨Nat.lt_of_lt_of_le hlt8 hbs.size, fun o => by have := HSZ.out.own_lt o; omega⟩, h8⟩
                clear hb8 hx8 hg8 hlt8 HSZ hbs h8 hx9 hbx K10 HF9
                generalize w8.setCells bx 0 goneS.cells = w11 at *
                clear w8
                go_upto_region 28 with (fail)
                refine wp_region_lit ?_
                iterate 3 go_step
                refine Slp.wpList_sl _ rfl bx 0 rfl goneS gone_dig (Lib.hid (range_of HB11.out.2.2)) rfl ?_
                simp only [Act.put, Act.eval, List.setIfInBounds_toArray, List.set_cons_zero, List.set_cons_succ, Nat.reduceAdd, Array.getD_eq_getD_getElem?, List.getElem?_toArray, List.getElem?_cons_succ, List.getElem?_cons_zero, Option.getD_some]
                repeat go_step
                refine (C3.out _ _ K11.out).mono ?_
                rintro e z ⟨rfl, esK12, k, t⟩
                have K12 := Lib.hid k
                have TK12 := Lib.hid t
                clear k t
                rename_i hK
                refine hK _ _ ?_
                clear hK
                have HF12 := Lib.hid (HF11.out.turn TK12.out)
                have HB12 := Lib.hid (HB11.out.turn TK12.out)
                clear K11 HF11 HB11 TK12
                go_upto_region 33 with (first
                  | (go_at_call 12; refine (C4.out _ _ K12.out).mono ?_; rintro e x13 ⟨rfl, es13, k, t⟩; have K13 := Lib.hid k; have HF13 := Lib.hid (HF12.out.turn t); have HB13 := Lib.hid (HB12.out.turn t); clear k t)
                  | (go_at_call 14; refine (K13.out.off).mono ?_; rintro e x14 ⟨rfl, es14, k, t⟩; have K14 := Lib.hid k; have HF14 := Lib.hid (HF13.out.turn t); have HB14 := Lib.hid (HB13.out.turn t); clear k t)
                  | (go_at_call 15; refine (K14.out.on0).mono ?_; rintro e x15 ⟨rfl, es15, k, t⟩; have K15 := Lib.hid k; have HF15 := Lib.hid (HF14.out.turn t); have HB15 := Lib.hid (HB14.out.turn t); clear k t)
                  | (go_at_call 8; refine (C5.out _ _ _ K15.out).mono ?_; rintro e x16 ⟨es16, g16, p16, c16, q16, rfl, k, -, -, hr, t⟩; have K16 := Lib.hid k; have HR16 := Lib.hid hr; have HF16 := Lib.hid (HF15.out.turn t); have HB16 := Lib.hid (HB15.out.turn t); clear k hr t))
                clear K12 K13 K14 K15 HF12 HF13 HF14 HF15 HB12 HB13 HB14 HB15 C3 C4 C5
                have hdr := Reg.Ext.drew x16
                have XWM := Lib.hid (K16.out.base.1.trans hdr)
                have HBR := Lib.hid (fun w' (h : Reg.Ext x16.drew w') => range_of (HB16.out.2.2.ext (hdr.trans h)))
                have HFR := Lib.hid (fun w' (h : Reg.Ext x16.drew w') => HF16.out.1.ext (hdr.trans h))
                have HRR := Lib.hid (fun w' (h : Reg.Ext x16.drew w') => HR16.out.ext (hdr.trans h))
                clear hdr K16 HR16 HF16 HB16
                refine wp_region_held (S := fun w => Reg.Ext x16.drew w) (by kernel_rfl) ?_
                change wpAnyH _ _ _ _ _ _ _ _ x16.drew
                generalize x16.drew = wm at *
                have X0 := Reg.Ext.refl wm
                obtain ⟨bm, hbm⟩ : ∃ b, wm.heap.size = b := ⟨_, rfl⟩
                refine wpAnyH_take (i := 0) rfl (by kernel_rfl) (by kernel_rfl) (by kernel_rfl) (fun _ _ _ h => h) (v := .int .i64 0) (.inl ⟨by kernel_rfl, fun w _ => by as_aux_lemma => kernel_rfl⟩) X0 ?_
                simp only [Act.put, Act.eval, List.setIfInBounds_toArray, List.set_cons_zero, List.set_cons_succ, Nat.reduceAdd, Array.getD_eq_getD_getElem?, List.getElem?_toArray, List.getElem?_cons_succ, List.getElem?_cons_zero, Option.getD_some]
                refine wpAnyH_take (i := 1) rfl (by kernel_rfl) (by kernel_rfl) (by kernel_rfl) (fun _ _ _ h => h) (v := .bool true) (.inl ⟨by kernel_rfl, fun w _ => by as_aux_lemma => kernel_rfl⟩) X0 ?_
                simp only [Act.put, Act.eval, List.setIfInBounds_toArray, List.set_cons_zero, List.set_cons_succ, Nat.reduceAdd, Array.getD_eq_getD_getElem?, List.getElem?_toArray, List.getElem?_cons_succ, List.getElem?_cons_zero, Option.getD_some]
                refine wpAnyH_take (i := 2) rfl (by kernel_rfl) (by kernel_rfl) (by kernel_rfl) (fun _ _ _ h => h) (v := .bool true) (.inl ⟨by kernel_rfl, fun w _ => by as_aux_lemma => kernel_rfl⟩) X0 ?_
                simp only [Act.put, Act.eval, List.setIfInBounds_toArray, List.set_cons_zero, List.set_cons_succ, Nat.reduceAdd, Array.getD_eq_getD_getElem?, List.getElem?_toArray, List.getElem?_cons_succ, List.getElem?_cons_zero, Option.getD_some]
                refine wpAnyH_take (i := 3) rfl (by kernel_rfl) (by kernel_rfl) (by kernel_rfl) (fun _ _ _ h => h) (v := .slice p16 ys.length c16) (.inl ⟨by kernel_rfl, fun w _ => by as_aux_lemma => kernel_rfl⟩) X0 ?_
                simp only [Act.put, Act.eval, List.setIfInBounds_toArray, List.set_cons_zero, List.set_cons_succ, Nat.reduceAdd, Array.getD_eq_getD_getElem?, List.getElem?_toArray, List.getElem?_cons_succ, List.getElem?_cons_zero, Option.getD_some]
                refine wpAnyH_take (i := 5) rfl (by kernel_rfl) (by kernel_rfl) (by kernel_rfl) (fun _ _ _ h => h) (v := .slice p8 zs.length c8) (.inl ⟨by kernel_rfl, fun w _ => by as_aux_lemma => kernel_rfl⟩) X0 ?_
                simp only [Act.put, Act.eval, List.setIfInBounds_toArray, List.set_cons_zero, List.set_cons_succ, Nat.reduceAdd, Array.getD_eq_getD_getElem?, List.getElem?_toArray, List.getElem?_cons_succ, List.getElem?_cons_zero, Option.getD_some]
                refine wpAnyH_take (i := 7) rfl (by kernel_rfl) (by kernel_rfl) (by kernel_rfl) (fun _ _ _ h => h) (v := .agg goneS.cells.toArray) (yieldsIf_load_mid (by kernel_rfl) 37 (.tmp 19) rfl bx 0 (by kernel_rfl) goneS.cells _ (fun w h => HBR.out w h) Slp.undS rfl (by rw [Slp.cells_length goneS gone_dig]; exact Slp.size38)) X0 ?_
                simp only [Act.put, Act.eval, List.setIfInBounds_toArray, List.set_cons_zero, List.set_cons_succ, Nat.reduceAdd, Array.getD_eq_getD_getElem?, List.getElem?_toArray, List.getElem?_cons_succ, List.getElem?_cons_zero, Option.getD_some]
                refine Ordd.Bx.out (?_ : Ordd.Bx (wpAnyH _ _ _ _ _ _ _ _ _))
                refine Ordd.two (i := 4) (j := 8) (by kernel_rfl) rfl rfl ?_ ?_
                · refine Ordd.any (by kernel_rfl) (.slice (some ⟨(wm).heap.size, 0, none⟩) 0 0) ((wm).alloc (.cells #[] 37)) (by kernel_rfl) ?_
                  have R4 := row_empty wm bm (by rw [← hbm]; exact X0.size)
                  have X4 : Reg.Ext wm ((wm).alloc (.cells #[] 37)) := X0.trans (Reg.Ext.alloc _ _)
                  have E4 := Reg.Ext.alloc wm (.cells #[] 37)
                  obtain ⟨r4, hr4⟩ : ∃ r, (wm).heap.size = r := ⟨_, rfl⟩
                  rw [hr4] at R4 ⊢
                  generalize (wm).alloc (.cells #[] 37) = w4 at *
                  simp only [Act.put, Act.eval, List.setIfInBounds_toArray, List.set_cons_zero, List.set_cons_succ, Nat.reduceAdd, Array.getD_eq_getD_getElem?, List.getElem?_toArray, List.getElem?_cons_succ, List.getElem?_cons_zero, Option.getD_some]
                  refine Ordd.fin X4 ?_
                  refine Ordd.two (i := 6) (j := 8) (by kernel_rfl) rfl rfl ?_ ?_
                  · refine Slp.h_cat (.tmp 165) (.tmp 166) rfl (.slice (some ⟨r4, 0, none⟩) 0 0) (.slice p8 zs.length c8) [] zs bm _ (by kernel_rfl) (by kernel_rfl) (HFR.out _ X4) R4 (by rw [← hbm]; exact X4.size) (by simp; omega) (by kernel_rfl) ?_
                    intro v6 w6 R6 hg6
                    have X6 : Reg.Ext wm w6 := Below.grown X4 hg6 X4.size fun q hq => by rw [hbm]; exact (R4.1.lt q hq).1
                    simp only [Act.put, Act.eval, List.setIfInBounds_toArray, List.set_cons_zero, List.set_cons_succ, Nat.reduceAdd, Array.getD_eq_getD_getElem?, List.getElem?_toArray, List.getElem?_cons_succ, List.getElem?_cons_zero, Option.getD_some]
                    refine Ordd.fin X6 ?_
                    refine Ordd.one (i := 8) (by kernel_rfl) rfl ?_
                    refine Slp.h_r1 (.tmp 168) rfl goneS gone_dig (by kernel_rfl) (by kernel_rfl) ?_
                    intro g8' w8' hgg8' hlt8' E8' L8'
                    have X8' : Reg.Ext wm w8' := X6.trans E8'
                    simp only [Act.put, Act.eval, List.setIfInBounds_toArray, List.set_cons_zero, List.set_cons_succ, Nat.reduceAdd, Array.getD_eq_getD_getElem?, List.getElem?_toArray, List.getElem?_cons_succ, List.getElem?_cons_zero, Option.getD_some]
                    refine Ordd.fin X8' ?_
                    refine Ordd.one (i := 9) (by kernel_rfl) rfl ?_
                    refine Slp.h_cat (.tmp 167) (.tmp 169) rfl v6 (.slice (some ⟨g8', 0, none⟩) 1 1) zs [goneS] bm 0 (by kernel_rfl) (by kernel_rfl) (Slp.Row.one gone_dig L8' (Nat.zero_le _)) (R6.ext E8') (by rw [← hbm]; exact X8'.size) (by simp; omega) (by kernel_rfl) ?_
                    intro v9 w9 R9 hg9
                    have X9 : Reg.Ext wm w9 := Below.grown X8' hg9 X8'.size fun q hq => by rw [hbm]; exact ((R6.ext E8').1.lt q hq).1
                    simp only [Act.put, Act.eval, List.setIfInBounds_toArray, List.set_cons_zero, List.set_cons_succ, Nat.reduceAdd, Array.getD_eq_getD_getElem?, List.getElem?_toArray, List.getElem?_cons_succ, List.getElem?_cons_zero, Option.getD_some]
                    refine Ordd.fin X9 ?_
                    refine Ordd.one (i := 10) (by kernel_rfl) rfl ?_
                    refine Ordd.call (by kernel_rfl) 19 #[.slice p16 ys.length c16, v9] (by kernel_rfl) (CM2.out _ _ _ (HRR.out _ X9) (by rw [HYS.out]; exact R9.rd)) (.bool true) (fun _ _ h => h.1) ?_
                    intro w10 hx10
                    have X10 := X9.trans hx10.2
                    simp only [Act.put, Act.eval, List.setIfInBounds_toArray, List.set_cons_zero, List.set_cons_succ, Nat.reduceAdd, Array.getD_eq_getD_getElem?, List.getElem?_toArray, List.getElem?_cons_succ, List.getElem?_cons_zero, Option.getD_some]
                    refine Ordd.fin X10 ?_
                    refine Ordd.one (i := 11) (by kernel_rfl) rfl ?_
                    refine Ordd.any (by kernel_rfl) (.bool true) w10 (by kernel_rfl) ?_
                    simp only [Act.put, Act.eval, List.setIfInBounds_toArray, List.set_cons_zero, List.set_cons_succ, Nat.reduceAdd, Array.getD_eq_getD_getElem?, List.getElem?_toArray, List.getElem?_cons_succ, List.getElem?_cons_zero, Option.getD_some]
                    refine Ordd.fin X10 ?_
                    refine Ordd.one (i := 12) (by kernel_rfl) rfl ?_
                    refine Ordd.any (by kernel_rfl) (.bool true) w10 (by kernel_rfl) ?_
                    simp only [Act.put, Act.eval, List.setIfInBounds_toArray, List.set_cons_zero, List.set_cons_succ, Nat.reduceAdd, Array.getD_eq_getD_getElem?, List.getElem?_toArray, List.getElem?_cons_succ, List.getElem?_cons_zero, Option.getD_some]
                    refine Ordd.fin X10 ?_
                    refine Ordd.done (by kernel_rfl) ?_
                    go_wp2_with fail
                    go_ret
                    exact ⟨rfl, XWM.out.trans X10⟩
                  · refine Slp.h_r1 (.tmp 168) rfl goneS gone_dig (by kernel_rfl) (by kernel_rfl) ?_
                    intro g8' w8' hgg8' hlt8' E8' L8'
                    have X8' : Reg.Ext wm w8' := X4.trans E8'
                    simp only [Act.put, Act.eval, List.setIfInBounds_toArray, List.set_cons_zero, List.set_cons_succ, Nat.reduceAdd, Array.getD_eq_getD_getElem?, List.getElem?_toArray, List.getElem?_cons_succ, List.getElem?_cons_zero, Option.getD_some]
                    refine Ordd.fin X8' ?_
                    refine Ordd.one (i := 6) (by kernel_rfl) rfl ?_
                    refine Slp.h_cat (.tmp 165) (.tmp 166) rfl (.slice (some ⟨r4, 0, none⟩) 0 0) (.slice p8 zs.length c8) [] zs bm _ (by kernel_rfl) (by kernel_rfl) (HFR.out _ X8') (R4.ext E8') (by rw [← hbm]; exact X8'.size) (by simp; omega) (by kernel_rfl) ?_
                    intro v6 w6 R6 hg6
                    have X6 : Reg.Ext wm w6 := Below.grown X8' hg6 X8'.size fun q hq => by rw [hbm]; exact ((R4.ext E8').1.lt q hq).1
                    simp only [Act.put, Act.eval, List.setIfInBounds_toArray, List.set_cons_zero, List.set_cons_succ, Nat.reduceAdd, Array.getD_eq_getD_getElem?, List.getElem?_toArray, List.getElem?_cons_succ, List.getElem?_cons_zero, Option.getD_some]
                    refine Ordd.fin X6 ?_
                    have L6 : Blk w6 g8' 37 goneS.cells := (hg6.block g8' hlt8' (show some g8' ≠ some r4 from Plk.ne_some (by have := (R4.1.lt r4 rfl).2; omega))).trans L8'
                    refine Ordd.one (i := 9) (by kernel_rfl) rfl ?_
                    refine Slp.h_cat (.tmp 167) (.tmp 169) rfl v6 (.slice (some ⟨g8', 0, none⟩) 1 1) zs [goneS] bm 0 (by kernel_rfl) (by kernel_rfl) (Slp.Row.one gone_dig L6 (Nat.zero_le _)) R6 (by rw [← hbm]; exact X6.size) (by simp; omega) (by kernel_rfl) ?_
                    intro v9 w9 R9 hg9
                    have X9 : Reg.Ext wm w9 := Below.grown X6 hg9 X6.size fun q hq => by rw [hbm]; exact (R6.1.lt q hq).1
                    simp only [Act.put, Act.eval, List.setIfInBounds_toArray, List.set_cons_zero, List.set_cons_succ, Nat.reduceAdd, Array.getD_eq_getD_getElem?, List.getElem?_toArray, List.getElem?_cons_succ, List.getElem?_cons_zero, Option.getD_some]
                    refine Ordd.fin X9 ?_
                    refine Ordd.one (i := 10) (by kernel_rfl) rfl ?_
                    refine Ordd.call (by kernel_rfl) 19 #[.slice p16 ys.length c16, v9] (by kernel_rfl) (CM2.out _ _ _ (HRR.out _ X9) (by rw [HYS.out]; exact R9.rd)) (.bool true) (fun _ _ h => h.1) ?_
                    intro w10 hx10
                    have X10 := X9.trans hx10.2
                    simp only [Act.put, Act.eval, List.setIfInBounds_toArray, List.set_cons_zero, List.set_cons_succ, Nat.reduceAdd, Array.getD_eq_getD_getElem?, List.getElem?_toArray, List.getElem?_cons_succ, List.getElem?_cons_zero, Option.getD_some]
                    refine Ordd.fin X10 ?_
                    refine Ordd.one (i := 11) (by kernel_rfl) rfl ?_
                    refine Ordd.any (by kernel_rfl) (.bool true) w10 (by kernel_rfl) ?_
                    simp only [Act.put, Act.eval, List.setIfInBounds_toArray, List.set_cons_zero, List.set_cons_succ, Nat.reduceAdd, Array.getD_eq_getD_getElem?, List.getElem?_toArray, List.getElem?_cons_succ, List.getElem?_cons_zero, Option.getD_some]
                    refine Ordd.fin X10 ?_
                    refine Ordd.one (i := 12) (by kernel_rfl) rfl ?_
                    refine Ordd.any (by kernel_rfl) (.bool true) w10 (by kernel_rfl) ?_
                    simp only [Act.put, Act.eval, List.setIfInBounds_toArray, List.set_cons_zero, List.set_cons_succ, Nat.reduceAdd, Array.getD_eq_getD_getElem?, List.getElem?_toArray, List.getElem?_cons_succ, List.getElem?_cons_zero, Option.getD_some]
                    refine Ordd.fin X10 ?_
                    refine Ordd.done (by kernel_rfl) ?_
                    go_wp2_with fail
                    go_ret
                    exact ⟨rfl, XWM.out.trans X10⟩
                · refine Slp.h_r1 (.tmp 168) rfl goneS gone_dig (by kernel_rfl) (by kernel_rfl) ?_
                  intro g8' w8' hgg8' hlt8' E8' L8'
                  have X8' : Reg.Ext wm w8' := X0.trans E8'
                  simp only [Act.put, Act.eval, List.setIfInBounds_toArray, List.set_cons_zero, List.set_cons_succ, Nat.reduceAdd, Array.getD_eq_getD_getElem?, List.getElem?_toArray, List.getElem?_cons_succ, List.getElem?_cons_zero, Option.getD_some]
                  refine Ordd.fin X8' ?_
                  refine Ordd.one (i := 4) (by kernel_rfl) rfl ?_
                  refine Ordd.any (by kernel_rfl) (.slice (some ⟨(w8').heap.size, 0, none⟩) 0 0) ((w8').alloc (.cells #[] 37)) (by kernel_rfl) ?_
                  have R4 := row_empty w8' bm (by rw [← hbm]; exact X8'.size)
                  have X4 : Reg.Ext wm ((w8').alloc (.cells #[] 37)) := X8'.trans (Reg.Ext.alloc _ _)
                  have E4 := Reg.Ext.alloc w8' (.cells #[] 37)
                  obtain ⟨r4, hr4⟩ : ∃ r, (w8').heap.size = r := ⟨_, rfl⟩
                  rw [hr4] at R4 ⊢
                  generalize (w8').alloc (.cells #[] 37) = w4 at *
                  simp only [Act.put, Act.eval, List.setIfInBounds_toArray, List.set_cons_zero, List.set_cons_succ, Nat.reduceAdd, Array.getD_eq_getD_getElem?, List.getElem?_toArray, List.getElem?_cons_succ, List.getElem?_cons_zero, Option.getD_some]
                  refine Ordd.fin X4 ?_
                  refine Ordd.one (i := 6) (by kernel_rfl) rfl ?_
                  refine Slp.h_cat (.tmp 165) (.tmp 166) rfl (.slice (some ⟨r4, 0, none⟩) 0 0) (.slice p8 zs.length c8) [] zs bm _ (by kernel_rfl) (by kernel_rfl) (HFR.out _ X4) R4 (by rw [← hbm]; exact X4.size) (by simp; omega) (by kernel_rfl) ?_
                  intro v6 w6 R6 hg6
                  have X6 : Reg.Ext wm w6 := Below.grown X4 hg6 X4.size fun q hq => by rw [hbm]; exact (R4.1.lt q hq).1
                  simp only [Act.put, Act.eval, List.setIfInBounds_toArray, List.set_cons_zero, List.set_cons_succ, Nat.reduceAdd, Array.getD_eq_getD_getElem?, List.getElem?_toArray, List.getElem?_cons_succ, List.getElem?_cons_zero, Option.getD_some]
                  refine Ordd.fin X6 ?_
                  have L6 : Blk w6 g8' 37 goneS.cells := (hg6.block g8' (Nat.lt_of_lt_of_le hlt8' E4.size) (show some g8' ≠ some r4 from Plk.ne_some (by omega))).trans (L8'.ext E4)
                  refine Ordd.one (i := 9) (by kernel_rfl) rfl ?_
                  refine Slp.h_cat (.tmp 167) (.tmp 169) rfl v6 (.slice (some ⟨g8', 0, none⟩) 1 1) zs [goneS] bm 0 (by kernel_rfl) (by kernel_rfl) (Slp.Row.one gone_dig L6 (Nat.zero_le _)) R6 (by rw [← hbm]; exact X6.size) (by simp; omega) (by kernel_rfl) ?_
                  intro v9 w9 R9 hg9
                  have X9 : Reg.Ext wm w9 := Below.grown X6 hg9 X6.size fun q hq => by rw [hbm]; exact (R6.1.lt q hq).1
                  simp only [Act.put, Act.eval, List.setIfInBounds_toArray, List.set_cons_zero, List.set_cons_succ, Nat.reduceAdd, Array.getD_eq_getD_getElem?, List.getElem?_toArray, List.getElem?_cons_succ, List.getElem?_cons_zero, Option.getD_some]
                  refine Ordd.fin X9 ?_
                  refine Ordd.one (i := 10) (by kernel_rfl) rfl ?_
                  refine Ordd.call (by kernel_rfl) 19 #[.slice p16 ys.length c16, v9] (by kernel_rfl) (CM2.out _ _ _ (HRR.out _ X9) (by rw [HYS.out]; exact R9.rd)) (.bool true) (fun _ _ h => h.1) ?_
                  intro w10 hx10
                  have X10 := X9.trans hx10.2
                  simp only [Act.put, Act.eval, List.setIfInBounds_toArray, List.set_cons_zero, List.set_cons_succ, Nat.reduceAdd, Array.getD_eq_getD_getElem?, List.getElem?_toArray, List.getElem?_cons_succ, List.getElem?_cons_zero, Option.getD_some]
                  refine Ordd.fin X10 ?_
                  refine Ordd.one (i := 11) (by kernel_rfl) rfl ?_
                  refine Ordd.any (by kernel_rfl) (.bool true) w10 (by kernel_rfl) ?_
                  simp only [Act.put, Act.eval, List.setIfInBounds_toArray, List.set_cons_zero, List.set_cons_succ, Nat.reduceAdd, Array.getD_eq_getD_getElem?, List.getElem?_toArray, List.getElem?_cons_succ, List.getElem?_cons_zero, Option.getD_some]
                  refine Ordd.fin X10 ?_
                  refine Ordd.one (i := 12) (by kernel_rfl) rfl ?_
                  refine Ordd.any (by kernel_rfl) (.bool true) w10 (by kernel_rfl) ?_
                  simp only [Act.put, Act.eval, List.setIfInBounds_toArray, List.set_cons_zero, List.set_cons_succ, Nat.reduceAdd, Array.getD_eq_getD_getElem?, List.getElem?_toArray, List.getElem?_cons_succ, List.getElem?_cons_zero, Option.getD_some]
                  refine Ordd.fin X10 ?_
                  refine Ordd.done (by kernel_rfl) ?_
                  go_wp2_with fail
                  go_ret
                  exact ⟨rfl, XWM.out.trans X10⟩
            · have CA := Lib.hid (K4.out.add HFI.out HOPS.out x hx HT.out E)
              have HK5 := Lib.hid hk'
              have HA5 := Lib.hid ha'
              clear E hk' ha' hbg
              go_upto_region 14 with (fail)
              refine wp_region_lit ?_
              iterate 12 go_step
              refine Slp.wpList_sl _ rfl ga (oa + k * 38) rfl x hx HRK4 rfl ?_
              simp only [Act.put, Act.eval, List.setIfInBounds_toArray, List.set_cons_zero, List.set_cons_succ, Nat.reduceAdd, Array.getD_eq_getD_getElem?, List.getElem?_toArray, List.getElem?_cons_succ, List.getElem?_cons_zero, Option.getD_some]
              repeat go_step
              refine (CA.out).mono ?_
              rintro e z ⟨rfl, esK5, k, t⟩
              have K5 := Lib.hid k
              have TK5 := Lib.hid t
              clear k t
              rename_i hK
              refine hK _ _ ?_
              clear hK
              have HW5 := Lib.hid (HW4.out.turn TK5.out)
              have HB5 := Lib.hid (Nat.le_trans HB4.out TK5.out.size)
              have HRK5 := Lib.hid (Slp.rangeAt_ext HRK.out K5.out.base.1)
              clear CA K4 HW4 HB4 TK5 HRK4 HK HA
              go_upto_region 17 with (fail)
              refine wp_region_lit ?_
              iterate 12 go_step
              refine Slp.wpList_sl _ rfl ga (oa + k * 38) rfl x hx HRK5 rfl ?_
              simp only [Act.put, Act.eval, List.setIfInBounds_toArray, List.set_cons_zero, List.set_cons_succ, Nat.reduceAdd, Array.getD_eq_getD_getElem?, List.getElem?_toArray, List.getElem?_cons_succ, List.getElem?_cons_zero, Option.getD_some]
              refine Slp.wpList_r1 _ rfl x hx rfl rfl ?_
              intro gg w6 hgg hlt hz hbl _
              have K6 := Lib.hid (K5.out.ext hz)
              have H6 := Lib.hid (HW5.out.turn (TurnG.ext hz))
              have HB6 := Lib.hid (Nat.le_trans HB5.out hz.size)
              clear hz K5 HW5 HB5 hlt hgg HRK5
              simp only [Act.put, Act.eval, List.setIfInBounds_toArray, List.set_cons_zero, List.set_cons_succ, Nat.reduceAdd, Array.getD_eq_getD_getElem?, List.getElem?_toArray, List.getElem?_cons_succ, List.getElem?_cons_zero, Option.getD_some]
              refine Slp.wpList_push rfl _ _ rfl u13 ws B gg x hx rfl rfl hbl H6.out.1 HB6.out (by omega) ?_
              intro v' w7 hr7 hg7 hat7
              have K7 := Lib.hid (K6.out.grown H6.out HB.out hg7)
              have H7 := Lib.hid (Held.grown K6.out H6.out HB6.out hg7 hr7 hat7)
              have HB7 := Lib.hid (Nat.le_trans HB6.out hg7.size)
              clear hr7 hg7 hat7 K6 H6 HB6 hbl
              have hlen : (ws ++ [x]).length ≤ k + 1 := by simp; omega
              generalize ws ++ [x] = ws2 at *
              have HOP7 : Hid ((kp ws2 sure s').h.ops < big) := Lib.hid (by have := HK5.out.ops; show s'.ops < big; unfold big; omega)
              by_cases hb : k < bs.length
              · obtain ⟨ad2, rfl, hlt2, hcellB⟩ := HRB.out k (by rw [List.length_map]; exact hb)
                rw [List.getElem_map] at hcellB
                generalize bs[k] = bb at hcellB
                have cellb : w7.cell? (ad2.add k) = some (.bool bb) := (K7.out.base.1.cell (p := ad2.add k) (by unfold Addr.add; split <;> simpa using hlt2)).trans hcellB
                have dkb : decide (k < bs.length) = true := decide_eq_true hb
                cases bb with
                | false =>
                  go_wp2_with fail
                  go_roundw
                  case rel => exact ⟨k + 1, esK5, s', j', ws2, sure, by omega, by omega, by go_num, K7, H7, Lib.hid ⟨HK5.out.fit, HK5.out.le, HK5.out.room, HK5.out.used, by have := HK5.out.ops; omega⟩, HA5, hlen, HB7⟩
                  case measure => simp [intOf]; omega
                | true =>
                  rcases kept_sync HK5.out HA5.out with ⟨s9', E, hk'⟩ | ⟨s9', j9, E, hk', ha'⟩
                  · have CY := Lib.hid (K7.out.sync HOP7.out E)
                    have HK8 := Lib.hid hk'
                    clear E hk' HK5 HA5
                    go_upto_region 19 with (go_at_call 12; refine (CY.out).mono ?_; rintro e w8 ⟨rfl, es8', k8, t8⟩; have K8' := Lib.hid k8; have H8' := Lib.hid (H7.out.turn t8); clear k8 t8)
                    clear CY K7 H7 HB7
                    obtain ⟨pw, cw, hv, hcw, hpw⟩ := Row.cap (H8').out.1
                    subst hv
                    obtain ⟨l, zs, b2, s9, u9, E, i1, i2, ez, a1, a2, c9, hl, hu, hbl⟩ := kept_on (HK8).out (by omega) keep
                    have HON := Lib.hid (show ∀ (w : World) es y, Lw W w d mp es (P.on ⟨(kp ws2 sure s9').fs, { s9' with off := true, ak := 0, af := 0, al := 0 }⟩ [keep]) g y → _ from fun w es y h => open_wide h (by rw [onk_ops]; have := (HK8).out.ops; unfold big; omega) E (by omega) HT.out a1 a2)
                    have HE2 := Lib.hid ez
                    have HC9 := Lib.hid c9
                    have HU9 := Lib.hid hu
                    have HBL := Lib.hid hbl
                    have HL9 := Lib.hid hl
                    have HFZ : Hid (Fit zs) := Lib.hid (by rw [← ez]; exact fun y hy => (HK8).out.fit y (List.mem_of_mem_take hy))
                    have CSU := Lib.hid (fun (w : World) d mp es q g (ws : List S) (n : Nat) b (h : Lw W w d mp es q g (ky ws n b)) => show Calls Tryd.prog 13 #[.pointer (some ⟨g, 0, none⟩)] w fun e w' => e = .returned (.int .i64 (n : Int)) ∧ w = w' from h.sure.mono fun _ _ h => ⟨h.1, h.2.symm⟩)
                    have dz : decide (zs.length < sure) = false := by rw [decide_eq_false_iff_not]; omega
                    clear E a1 a2 c9 hl hu hbl ez
                    go_upto_region 25 with (first
                      | fail
                      | (go_at_call 13; ((with_reducible refine (CSU.out _ _ _ _ _ _ _ _ _ (K8').out).mono ?_); rintro e _ ⟨rfl, rfl⟩))
                      | (go_at_call 14; refine ((K8').out.off).mono ?_; rintro e x6 ⟨rfl, es6, k, t⟩; have K6 := Lib.hid k; have HW6 := Lib.hid ((H8').out.turn t); clear k t)
                      | (go_at_call 15; refine (K6.out.on1 keep).mono ?_; rintro e x7 ⟨rfl, es7, k, t⟩; have K7 := Lib.hid k; have HW7 := Lib.hid ((HW6.out.turn (TurnG.ext (Reg.Ext.alloc _ _))).turn t); clear k t)
                      | (go_at_call 8; refine (HON.out _ _ _ K7.out).mono ?_; rintro e x8 ⟨es8, g8, p8, c8, rfl, k, hh, t⟩; have K8 := Lib.hid k; have HF8 := Lib.hid hh; have HW8 := Lib.hid (HW7.out.turn (.of t)); clear k hh t)
                      | (go_at_call 16; refine (begins_any pw cw hpw _ ws2 zs _ HW8.out.rd hcw HF8.out.rd i2 HE2.out (by omega)).mono ?_; rintro e x9 ⟨rfl, hx9⟩; have K9 := Lib.hid (K8.out.ext hx9); have HF9 := Lib.hid (HF8.out.turn (TurnG.ext hx9)); clear hx9)
                      | (go_at_call 13; ((with_reducible refine (CSU.out _ _ _ _ _ _ _ _ _ K9.out).mono ?_); rintro e _ ⟨rfl, rfl⟩)))
                    clear K6 K7 K8 HW6 HW7 HW8 HF8 HON K8' H8' HK8
                    cases b2 with
                    | true =>
                      have hfz2 := fit_small HFZ.out
                      obtain ⟨s2, E2, c2⟩ := rew1 HC9.out l l.length (ky zs zs.length true) zs (fit_good HFZ.out) (by have := HL9.out; rw [HU9.out]; omega)
                      have CR := Lib.hid (fun (w : World) es (h : Lw W w d mp es ⟨d1 l l.length, s9⟩ g8 (ky zs zs.length true)) (u : Value) (hr : RdS u zs w) => h.rew (by have := HC9.out.ops; show s9.ops + 5 < big; unfold big; omega) zs u hr (by omega) HT.out E2)
                      have CK := Lib.hid (fun (w : World) es q g (h : Lw W w d mp es q g (ky zs zs.length true)) => show Calls Tryd.prog 17 #[.pointer (some ⟨g, 0, none⟩)] w fun e w' => e = .returned (.bool true) ∧ w = w' from h.sick.mono fun _ _ h => ⟨h.1, h.2.symm⟩)
                      have C10 := Lib.hid c2
                      have HU10 : Hid ((u9 : Int) + (frames zs).length - l.length ≤ 200000) := Lib.hid (by have := HL9.out; rw [HU9.out]; omega)
                      clear E2 c2
                      go_upto_region 27 with (first
                        | (go_at_call 17; refine (CK.out _ _ _ _ K9.out).mono ?_; rintro e _ ⟨rfl, rfl⟩)
                        | (go_at_call 18; refine (CR.out _ _ K9.out _ HF9.out.rd).mono ?_; rintro e x10 ⟨rfl, es10, k, t⟩; have K10 := Lib.hid k; have HF10 := Lib.hid (HF9.out.turn t); clear k t))
                      clear K9 HF9 CR CK
                      have hu10 := HU10.out
                      have hzl : zs.length ≤ 60 := by omega
                      have hfz := fit_small HFZ.out
                      have hbg := body_size gone_dig gone_good
                      obtain ⟨s3, E3, c3⟩ := add1 (C10).out (frames zs) (frames zs).length (x := goneS) (y := ⟨(zs.length : Int), (zs.length : Int), ((frames zs).length : Int), false⟩) rfl gone_good (by omega)
                      obtain ⟨s4, k4, E4, c4, q4, -⟩ := syn1 c3 (frames zs ++ frame (body goneS)) (frames zs).length (y := ⟨(zs.length : Int) + 1, (zs.length : Int), ((frames zs).length : Int) + ((frame (body goneS)).length : Int), false⟩) rfl
                      have q4 := q4 (by show (zs.length : Int) ≠ (zs.length : Int) + 1; omega)
                      subst q4
                      have o3 := c3.ops
                      have o4 := c4.ops
                      have o0 := (C10).out.ops
                      have C3 := Lib.hid (fun (w : World) es (h : Lw W w d mp es ⟨d1 (frames zs) (frames zs).length, s2⟩ g8 ⟨(zs.length : Int), (zs.length : Int), ((frames zs).length : Int), false⟩) => h.add (fine_of _ _ (by omega) (by omega) _ _) (by show (s2).ops < big; unfold big; omega) goneS gone_dig HT.out E3)
                      have C4 := Lib.hid (fun (w : World) es (h : Lw W w d mp es ⟨d1 (frames zs ++ frame (body goneS)) (frames zs).length, s3⟩ g8 ⟨(zs.length : Int) + 1, (zs.length : Int), ((frames zs).length : Int) + ((frame (body goneS)).length : Int), false⟩) => h.sync (by show s3.ops < big; unfold big; omega) E4)
                      obtain ⟨ys, hys⟩ : ∃ ys, ys = zs ++ [goneS] := ⟨_, rfl⟩
                      have hf5 : Fit ys := by rw [hys]; exact fit_snoc HFZ.out gone_dig gone_good
                      have hl5 : ys.length ≤ 100 := by rw [hys]; simp; omega
                      have he5 : frames zs ++ frame (body goneS) = frames ys := by rw [hys]; exact (Slp.frames_snoc _ _).symm
                      have C5 := Lib.hid (fun (w : World) es (y : Y) (h : Lw W w d mp es (P.on ⟨d1 (frames zs ++ frame (body goneS)) (frames zs ++ frame (body goneS)).length, { s4 with off := true, ak := 0, af := 0, al := 0 }⟩ []) g8 y) => again_old (xs := ys) [] (.inl rfl) c4.room o4 (by omega) hf5 he5 hl5 HT.out h)
                      have CM2 := Lib.hid (show ∀ (u v : Value) (w : World), RdS u ys w → RdS v ys w → Calls Tryd.prog 19 #[u, v] w fun e w' => e = .returned (.bool true) ∧ Reg.Ext w w' from fun u v w h1 h2 => by rw [← (Slp.sameL_iff ys ys).2 rfl]; exact Slp.same_any u v ys ys w h1 h2)
                      have HYS := Lib.hid hys
                      clear hys
                      clear E3 E4 c3 c4 o3 o4 o0 hf5 hl5 hfz hbg he5
                      refine wp_region_lit ?_
                      refine Slp.wpList_val rfl (.agg goneS.cells.toArray) (by as_aux_lemma => kernel_rfl) ?_
                      simp only [Act.put, Act.eval, List.setIfInBounds_toArray, List.set_cons_zero, List.set_cons_succ, Nat.reduceAdd, Array.getD_eq_getD_getElem?, List.getElem?_toArray, List.getElem?_cons_succ, List.getElem?_cons_zero, Option.getD_some]
                      iterate 3 go_step
                      rw [Slp.z38]
                      have hb8 := Slp.boxS x10 S.none
                      have hx8 := Reg.Ext.alloc x10 (Obj.cells S.none.cells.toArray 37)
                      have hg8 := (K10).out.dy.out.1
                      have hlt8 := hb8.lt
                      have HSZ := Lib.hid (K10).out.dy.dg.dk
                      generalize (x10).alloc (Obj.cells S.none.cells.toArray 37) = w8 at *
                      obtain ⟨bx, hbx⟩ : ∃ b, (x10).heap.size = b := ⟨_, rfl⟩
                      rw [hbx] at hb8 hg8 hlt8 ⊢
                      refine wpList_store_mid rfl 37 _ _ rfl bx 0 ((goneS).cells).toArray rfl ?_ (hb8.there _ (by have e1 := Slp.cells_length _ gone_dig; have e2 := Slp.cells_length _ Slp.none_dig; rw [List.size_toArray]; omega)) (by rw [List.size_toArray, Slp.cells_length _ gone_dig]; exact Slp.size38) (all_oneCell_toArray (Slp.oneS _)) ?_
                      · rfl
                      simp only [List.toList_toArray]
                      simp only [Act.put, Act.eval, List.setIfInBounds_toArray, List.set_cons_zero, List.set_cons_succ, Nat.reduceAdd, Array.getD_eq_getD_getElem?, List.getElem?_toArray, List.getElem?_cons_succ, List.getElem?_cons_zero, Option.getD_some]
                      have hbs := But.setCells bx goneS.cells 0 w8
                      have h8 := hb8.setAll goneS.cells rfl
                      have hx9 : Reg.Ext x10 (w8.setCells bx 0 goneS.cells) := hx8.trans_but hbs (by omega)
                      have K11 := Lib.hid ((K10).out.ext hx9)
                      have HF11 := Lib.hid ((HF10).out.turn (TurnG.ext hx9))
                      have HB11 : Hid (HBx (w8.setCells bx 0 goneS.cells) d mp _ g8 bx goneS) := Lib.hid ⟨by omega, ⟨Nat.lt_of_lt_of_le hlt8 hbs.size, fun o => by have := HSZ.out.own_lt o; omega⟩, h8⟩
                      clear hb8 hx8 hg8 hlt8 HSZ hbs h8 hx9 hbx K10 HF10
                      generalize w8.setCells bx 0 goneS.cells = w11 at *
                      clear w8
                      go_upto_region 28 with (fail)
                      refine wp_region_lit ?_
                      iterate 3 go_step
                      refine Slp.wpList_sl _ rfl bx 0 rfl goneS gone_dig (Lib.hid (range_of HB11.out.2.2)) rfl ?_
                      simp only [Act.put, Act.eval, List.setIfInBounds_toArray, List.set_cons_zero, List.set_cons_succ, Nat.reduceAdd, Array.getD_eq_getD_getElem?, List.getElem?_toArray, List.getElem?_cons_succ, List.getElem?_cons_zero, Option.getD_some]
                      repeat go_step
                      refine (C3.out _ _ K11.out).mono ?_
                      rintro e z ⟨rfl, esK12, k, t⟩
                      have K12 := Lib.hid k
                      have TK12 := Lib.hid t
                      clear k t
                      rename_i hK
                      refine hK _ _ ?_
                      clear hK
                      have HF12 := Lib.hid (HF11.out.turn TK12.out)
                      have HB12 := Lib.hid (HB11.out.turn TK12.out)
                      clear K11 HF11 HB11 TK12
                      go_upto_region 33 with (first
                        | (go_at_call 12; refine (C4.out _ _ K12.out).mono ?_; rintro e x13 ⟨rfl, es13, k, t⟩; have K13 := Lib.hid k; have HF13 := Lib.hid (HF12.out.turn t); have HB13 := Lib.hid (HB12.out.turn t); clear k t)
                        | (go_at_call 14; refine (K13.out.off).mono ?_; rintro e x14 ⟨rfl, es14, k, t⟩; have K14 := Lib.hid k; have HF14 := Lib.hid (HF13.out.turn t); have HB14 := Lib.hid (HB13.out.turn t); clear k t)
                        | (go_at_call 15; refine (K14.out.on0).mono ?_; rintro e x15 ⟨rfl, es15, k, t⟩; have K15 := Lib.hid k; have HF15 := Lib.hid (HF14.out.turn t); have HB15 := Lib.hid (HB14.out.turn t); clear k t)
                        | (go_at_call 8; refine (C5.out _ _ _ K15.out).mono ?_; rintro e x16 ⟨es16, g16, p16, c16, q16, rfl, k, -, -, hr, t⟩; have K16 := Lib.hid k; have HR16 := Lib.hid hr; have HF16 := Lib.hid (HF15.out.turn t); have HB16 := Lib.hid (HB15.out.turn t); clear k hr t))
                      clear K12 K13 K14 K15 HF12 HF13 HF14 HF15 HB12 HB13 HB14 HB15 C3 C4 C5
                      have hdr := Reg.Ext.drew x16
                      have XWM := Lib.hid (K16.out.base.1.trans hdr)
                      have HBR := Lib.hid (fun w' (h : Reg.Ext x16.drew w') => range_of (HB16.out.2.2.ext (hdr.trans h)))
                      have HFR := Lib.hid (fun w' (h : Reg.Ext x16.drew w') => HF16.out.1.ext (hdr.trans h))
                      have HRR := Lib.hid (fun w' (h : Reg.Ext x16.drew w') => HR16.out.ext (hdr.trans h))
                      clear hdr K16 HR16 HF16 HB16
                      refine wp_region_held (S := fun w => Reg.Ext x16.drew w) (by kernel_rfl) ?_
                      change wpAnyH _ _ _ _ _ _ _ _ x16.drew
                      generalize x16.drew = wm at *
                      have X0 := Reg.Ext.refl wm
                      obtain ⟨bm, hbm⟩ : ∃ b, wm.heap.size = b := ⟨_, rfl⟩
                      refine wpAnyH_take (i := 0) rfl (by kernel_rfl) (by kernel_rfl) (by kernel_rfl) (fun _ _ _ h => h) (v := .int .i64 0) (.inl ⟨by kernel_rfl, fun w _ => by as_aux_lemma => kernel_rfl⟩) X0 ?_
                      simp only [Act.put, Act.eval, List.setIfInBounds_toArray, List.set_cons_zero, List.set_cons_succ, Nat.reduceAdd, Array.getD_eq_getD_getElem?, List.getElem?_toArray, List.getElem?_cons_succ, List.getElem?_cons_zero, Option.getD_some]
                      refine wpAnyH_take (i := 1) rfl (by kernel_rfl) (by kernel_rfl) (by kernel_rfl) (fun _ _ _ h => h) (v := .bool true) (.inl ⟨by kernel_rfl, fun w _ => by as_aux_lemma => kernel_rfl⟩) X0 ?_
                      simp only [Act.put, Act.eval, List.setIfInBounds_toArray, List.set_cons_zero, List.set_cons_succ, Nat.reduceAdd, Array.getD_eq_getD_getElem?, List.getElem?_toArray, List.getElem?_cons_succ, List.getElem?_cons_zero, Option.getD_some]
                      refine wpAnyH_take (i := 2) rfl (by kernel_rfl) (by kernel_rfl) (by kernel_rfl) (fun _ _ _ h => h) (v := .bool true) (.inl ⟨by kernel_rfl, fun w _ => by as_aux_lemma => kernel_rfl⟩) X0 ?_
                      simp only [Act.put, Act.eval, List.setIfInBounds_toArray, List.set_cons_zero, List.set_cons_succ, Nat.reduceAdd, Array.getD_eq_getD_getElem?, List.getElem?_toArray, List.getElem?_cons_succ, List.getElem?_cons_zero, Option.getD_some]
                      refine wpAnyH_take (i := 3) rfl (by kernel_rfl) (by kernel_rfl) (by kernel_rfl) (fun _ _ _ h => h) (v := .slice p16 ys.length c16) (.inl ⟨by kernel_rfl, fun w _ => by as_aux_lemma => kernel_rfl⟩) X0 ?_
                      simp only [Act.put, Act.eval, List.setIfInBounds_toArray, List.set_cons_zero, List.set_cons_succ, Nat.reduceAdd, Array.getD_eq_getD_getElem?, List.getElem?_toArray, List.getElem?_cons_succ, List.getElem?_cons_zero, Option.getD_some]
                      refine wpAnyH_take (i := 5) rfl (by kernel_rfl) (by kernel_rfl) (by kernel_rfl) (fun _ _ _ h => h) (v := .slice p8 zs.length c8) (.inl ⟨by kernel_rfl, fun w _ => by as_aux_lemma => kernel_rfl⟩) X0 ?_
                      simp only [Act.put, Act.eval, List.setIfInBounds_toArray, List.set_cons_zero, List.set_cons_succ, Nat.reduceAdd, Array.getD_eq_getD_getElem?, List.getElem?_toArray, List.getElem?_cons_succ, List.getElem?_cons_zero, Option.getD_some]
                      refine wpAnyH_take (i := 7) rfl (by kernel_rfl) (by kernel_rfl) (by kernel_rfl) (fun _ _ _ h => h) (v := .agg goneS.cells.toArray) (yieldsIf_load_mid (by kernel_rfl) 37 (.tmp 19) rfl bx 0 (by kernel_rfl) goneS.cells _ (fun w h => HBR.out w h) Slp.undS rfl (by rw [Slp.cells_length goneS gone_dig]; exact Slp.size38)) X0 ?_
                      simp only [Act.put, Act.eval, List.setIfInBounds_toArray, List.set_cons_zero, List.set_cons_succ, Nat.reduceAdd, Array.getD_eq_getD_getElem?, List.getElem?_toArray, List.getElem?_cons_succ, List.getElem?_cons_zero, Option.getD_some]
                      refine Ordd.Bx.out (?_ : Ordd.Bx (wpAnyH _ _ _ _ _ _ _ _ _))
                      refine Ordd.two (i := 4) (j := 8) (by kernel_rfl) rfl rfl ?_ ?_
                      · refine Ordd.any (by kernel_rfl) (.slice (some ⟨(wm).heap.size, 0, none⟩) 0 0) ((wm).alloc (.cells #[] 37)) (by kernel_rfl) ?_
                        have R4 := row_empty wm bm (by rw [← hbm]; exact X0.size)
                        have X4 : Reg.Ext wm ((wm).alloc (.cells #[] 37)) := X0.trans (Reg.Ext.alloc _ _)
                        have E4 := Reg.Ext.alloc wm (.cells #[] 37)
                        obtain ⟨r4, hr4⟩ : ∃ r, (wm).heap.size = r := ⟨_, rfl⟩
                        rw [hr4] at R4 ⊢
                        generalize (wm).alloc (.cells #[] 37) = w4 at *
                        simp only [Act.put, Act.eval, List.setIfInBounds_toArray, List.set_cons_zero, List.set_cons_succ, Nat.reduceAdd, Array.getD_eq_getD_getElem?, List.getElem?_toArray, List.getElem?_cons_succ, List.getElem?_cons_zero, Option.getD_some]
                        refine Ordd.fin X4 ?_
                        refine Ordd.two (i := 6) (j := 8) (by kernel_rfl) rfl rfl ?_ ?_
                        · refine Slp.h_cat (.tmp 165) (.tmp 166) rfl (.slice (some ⟨r4, 0, none⟩) 0 0) (.slice p8 zs.length c8) [] zs bm _ (by kernel_rfl) (by kernel_rfl) (HFR.out _ X4) R4 (by rw [← hbm]; exact X4.size) (by simp; omega) (by kernel_rfl) ?_
                          intro v6 w6 R6 hg6
                          have X6 : Reg.Ext wm w6 := Below.grown X4 hg6 X4.size fun q hq => by rw [hbm]; exact (R4.1.lt q hq).1
                          simp only [Act.put, Act.eval, List.setIfInBounds_toArray, List.set_cons_zero, List.set_cons_succ, Nat.reduceAdd, Array.getD_eq_getD_getElem?, List.getElem?_toArray, List.getElem?_cons_succ, List.getElem?_cons_zero, Option.getD_some]
                          refine Ordd.fin X6 ?_
                          refine Ordd.one (i := 8) (by kernel_rfl) rfl ?_
                          refine Slp.h_r1 (.tmp 168) rfl goneS gone_dig (by kernel_rfl) (by kernel_rfl) ?_
                          intro g8' w8' hgg8' hlt8' E8' L8'
                          have X8' : Reg.Ext wm w8' := X6.trans E8'
                          simp only [Act.put, Act.eval, List.setIfInBounds_toArray, List.set_cons_zero, List.set_cons_succ, Nat.reduceAdd, Array.getD_eq_getD_getElem?, List.getElem?_toArray, List.getElem?_cons_succ, List.getElem?_cons_zero, Option.getD_some]
                          refine Ordd.fin X8' ?_
                          refine Ordd.one (i := 9) (by kernel_rfl) rfl ?_
                          refine Slp.h_cat (.tmp 167) (.tmp 169) rfl v6 (.slice (some ⟨g8', 0, none⟩) 1 1) zs [goneS] bm 0 (by kernel_rfl) (by kernel_rfl) (Slp.Row.one gone_dig L8' (Nat.zero_le _)) (R6.ext E8') (by rw [← hbm]; exact X8'.size) (by simp; omega) (by kernel_rfl) ?_
                          intro v9 w9 R9 hg9
                          have X9 : Reg.Ext wm w9 := Below.grown X8' hg9 X8'.size fun q hq => by rw [hbm]; exact ((R6.ext E8').1.lt q hq).1
                          simp only [Act.put, Act.eval, List.setIfInBounds_toArray, List.set_cons_zero, List.set_cons_succ, Nat.reduceAdd, Array.getD_eq_getD_getElem?, List.getElem?_toArray, List.getElem?_cons_succ, List.getElem?_cons_zero, Option.getD_some]
                          refine Ordd.fin X9 ?_
                          refine Ordd.one (i := 10) (by kernel_rfl) rfl ?_
                          refine Ordd.call (by kernel_rfl) 19 #[.slice p16 ys.length c16, v9] (by kernel_rfl) (CM2.out _ _ _ (HRR.out _ X9) (by rw [HYS.out]; exact R9.rd)) (.bool true) (fun _ _ h => h.1) ?_
                          intro w10 hx10
                          have X10 := X9.trans hx10.2
                          simp only [Act.put, Act.eval, List.setIfInBounds_toArray, List.set_cons_zero, List.set_cons_succ, Nat.reduceAdd, Array.getD_eq_getD_getElem?, List.getElem?_toArray, List.getElem?_cons_succ, List.getElem?_cons_zero, Option.getD_some]
                          refine Ordd.fin X10 ?_
                          refine Ordd.one (i := 11) (by kernel_rfl) rfl ?_
                          refine Ordd.any (by kernel_rfl) (.bool true) w10 (by kernel_rfl) ?_
                          simp only [Act.put, Act.eval, List.setIfInBounds_toArray, List.set_cons_zero, List.set_cons_succ, Nat.reduceAdd, Array.getD_eq_getD_getElem?, List.getElem?_toArray, List.getElem?_cons_succ, List.getElem?_cons_zero, Option.getD_some]
                          refine Ordd.fin X10 ?_
                          refine Ordd.one (i := 12) (by kernel_rfl) rfl ?_
                          refine Ordd.any (by kernel_rfl) (.bool true) w10 (by kernel_rfl) ?_
                          simp only [Act.put, Act.eval, List.setIfInBounds_toArray, List.set_cons_zero, List.set_cons_succ, Nat.reduceAdd, Array.getD_eq_getD_getElem?, List.getElem?_toArray, List.getElem?_cons_succ, List.getElem?_cons_zero, Option.getD_some]
                          refine Ordd.fin X10 ?_
                          refine Ordd.done (by kernel_rfl) ?_
                          go_wp2_with fail
                          go_ret
                          exact ⟨rfl, XWM.out.trans X10⟩
                        · refine Slp.h_r1 (.tmp 168) rfl goneS gone_dig (by kernel_rfl) (by kernel_rfl) ?_
                          intro g8' w8' hgg8' hlt8' E8' L8'
                          have X8' : Reg.Ext wm w8' := X4.trans E8'
                          simp only [Act.put, Act.eval, List.setIfInBounds_toArray, List.set_cons_zero, List.set_cons_succ, Nat.reduceAdd, Array.getD_eq_getD_getElem?, List.getElem?_toArray, List.getElem?_cons_succ, List.getElem?_cons_zero, Option.getD_some]
                          refine Ordd.fin X8' ?_
                          refine Ordd.one (i := 6) (by kernel_rfl) rfl ?_
                          refine Slp.h_cat (.tmp 165) (.tmp 166) rfl (.slice (some ⟨r4, 0, none⟩) 0 0) (.slice p8 zs.length c8) [] zs bm _ (by kernel_rfl) (by kernel_rfl) (HFR.out _ X8') (R4.ext E8') (by rw [← hbm]; exact X8'.size) (by simp; omega) (by kernel_rfl) ?_
                          intro v6 w6 R6 hg6
                          have X6 : Reg.Ext wm w6 := Below.grown X8' hg6 X8'.size fun q hq => by rw [hbm]; exact ((R4.ext E8').1.lt q hq).1
                          simp only [Act.put, Act.eval, List.setIfInBounds_toArray, List.set_cons_zero, List.set_cons_succ, Nat.reduceAdd, Array.getD_eq_getD_getElem?, List.getElem?_toArray, List.getElem?_cons_succ, List.getElem?_cons_zero, Option.getD_some]
                          refine Ordd.fin X6 ?_
                          have L6 : Blk w6 g8' 37 goneS.cells := (hg6.block g8' hlt8' (show some g8' ≠ some r4 from Plk.ne_some (by have := (R4.1.lt r4 rfl).2; omega))).trans L8'
                          refine Ordd.one (i := 9) (by kernel_rfl) rfl ?_
                          refine Slp.h_cat (.tmp 167) (.tmp 169) rfl v6 (.slice (some ⟨g8', 0, none⟩) 1 1) zs [goneS] bm 0 (by kernel_rfl) (by kernel_rfl) (Slp.Row.one gone_dig L6 (Nat.zero_le _)) R6 (by rw [← hbm]; exact X6.size) (by simp; omega) (by kernel_rfl) ?_
                          intro v9 w9 R9 hg9
                          have X9 : Reg.Ext wm w9 := Below.grown X6 hg9 X6.size fun q hq => by rw [hbm]; exact (R6.1.lt q hq).1
                          simp only [Act.put, Act.eval, List.setIfInBounds_toArray, List.set_cons_zero, List.set_cons_succ, Nat.reduceAdd, Array.getD_eq_getD_getElem?, List.getElem?_toArray, List.getElem?_cons_succ, List.getElem?_cons_zero, Option.getD_some]
                          refine Ordd.fin X9 ?_
                          refine Ordd.one (i := 10) (by kernel_rfl) rfl ?_
                          refine Ordd.call (by kernel_rfl) 19 #[.slice p16 ys.length c16, v9] (by kernel_rfl) (CM2.out _ _ _ (HRR.out _ X9) (by rw [HYS.out]; exact R9.rd)) (.bool true) (fun _ _ h => h.1) ?_
                          intro w10 hx10
                          have X10 := X9.trans hx10.2
                          simp only [Act.put, Act.eval, List.setIfInBounds_toArray, List.set_cons_zero, List.set_cons_succ, Nat.reduceAdd, Array.getD_eq_getD_getElem?, List.getElem?_toArray, List.getElem?_cons_succ, List.getElem?_cons_zero, Option.getD_some]
                          refine Ordd.fin X10 ?_
                          refine Ordd.one (i := 11) (by kernel_rfl) rfl ?_
                          refine Ordd.any (by kernel_rfl) (.bool true) w10 (by kernel_rfl) ?_
                          simp only [Act.put, Act.eval, List.setIfInBounds_toArray, List.set_cons_zero, List.set_cons_succ, Nat.reduceAdd, Array.getD_eq_getD_getElem?, List.getElem?_toArray, List.getElem?_cons_succ, List.getElem?_cons_zero, Option.getD_some]
                          refine Ordd.fin X10 ?_
                          refine Ordd.one (i := 12) (by kernel_rfl) rfl ?_
                          refine Ordd.any (by kernel_rfl) (.bool true) w10 (by kernel_rfl) ?_
                          simp only [Act.put, Act.eval, List.setIfInBounds_toArray, List.set_cons_zero, List.set_cons_succ, Nat.reduceAdd, Array.getD_eq_getD_getElem?, List.getElem?_toArray, List.getElem?_cons_succ, List.getElem?_cons_zero, Option.getD_some]
                          refine Ordd.fin X10 ?_
                          refine Ordd.done (by kernel_rfl) ?_
                          go_wp2_with fail
                          go_ret
                          exact ⟨rfl, XWM.out.trans X10⟩
                      · refine Slp.h_r1 (.tmp 168) rfl goneS gone_dig (by kernel_rfl) (by kernel_rfl) ?_
                        intro g8' w8' hgg8' hlt8' E8' L8'
                        have X8' : Reg.Ext wm w8' := X0.trans E8'
                        simp only [Act.put, Act.eval, List.setIfInBounds_toArray, List.set_cons_zero, List.set_cons_succ, Nat.reduceAdd, Array.getD_eq_getD_getElem?, List.getElem?_toArray, List.getElem?_cons_succ, List.getElem?_cons_zero, Option.getD_some]
                        refine Ordd.fin X8' ?_
                        refine Ordd.one (i := 4) (by kernel_rfl) rfl ?_
                        refine Ordd.any (by kernel_rfl) (.slice (some ⟨(w8').heap.size, 0, none⟩) 0 0) ((w8').alloc (.cells #[] 37)) (by kernel_rfl) ?_
                        have R4 := row_empty w8' bm (by rw [← hbm]; exact X8'.size)
                        have X4 : Reg.Ext wm ((w8').alloc (.cells #[] 37)) := X8'.trans (Reg.Ext.alloc _ _)
                        have E4 := Reg.Ext.alloc w8' (.cells #[] 37)
                        obtain ⟨r4, hr4⟩ : ∃ r, (w8').heap.size = r := ⟨_, rfl⟩
                        rw [hr4] at R4 ⊢
                        generalize (w8').alloc (.cells #[] 37) = w4 at *
                        simp only [Act.put, Act.eval, List.setIfInBounds_toArray, List.set_cons_zero, List.set_cons_succ, Nat.reduceAdd, Array.getD_eq_getD_getElem?, List.getElem?_toArray, List.getElem?_cons_succ, List.getElem?_cons_zero, Option.getD_some]
                        refine Ordd.fin X4 ?_
                        refine Ordd.one (i := 6) (by kernel_rfl) rfl ?_
                        refine Slp.h_cat (.tmp 165) (.tmp 166) rfl (.slice (some ⟨r4, 0, none⟩) 0 0) (.slice p8 zs.length c8) [] zs bm _ (by kernel_rfl) (by kernel_rfl) (HFR.out _ X4) R4 (by rw [← hbm]; exact X4.size) (by simp; omega) (by kernel_rfl) ?_
                        intro v6 w6 R6 hg6
                        have X6 : Reg.Ext wm w6 := Below.grown X4 hg6 X4.size fun q hq => by rw [hbm]; exact (R4.1.lt q hq).1
                        simp only [Act.put, Act.eval, List.setIfInBounds_toArray, List.set_cons_zero, List.set_cons_succ, Nat.reduceAdd, Array.getD_eq_getD_getElem?, List.getElem?_toArray, List.getElem?_cons_succ, List.getElem?_cons_zero, Option.getD_some]
                        refine Ordd.fin X6 ?_
                        have L6 : Blk w6 g8' 37 goneS.cells := (hg6.block g8' (Nat.lt_of_lt_of_le hlt8' E4.size) (show some g8' ≠ some r4 from Plk.ne_some (by omega))).trans (L8'.ext E4)
                        refine Ordd.one (i := 9) (by kernel_rfl) rfl ?_
                        refine Slp.h_cat (.tmp 167) (.tmp 169) rfl v6 (.slice (some ⟨g8', 0, none⟩) 1 1) zs [goneS] bm 0 (by kernel_rfl) (by kernel_rfl) (Slp.Row.one gone_dig L6 (Nat.zero_le _)) R6 (by rw [← hbm]; exact X6.size) (by simp; omega) (by kernel_rfl) ?_
                        intro v9 w9 R9 hg9
                        have X9 : Reg.Ext wm w9 := Below.grown X6 hg9 X6.size fun q hq => by rw [hbm]; exact (R6.1.lt q hq).1
                        simp only [Act.put, Act.eval, List.setIfInBounds_toArray, List.set_cons_zero, List.set_cons_succ, Nat.reduceAdd, Array.getD_eq_getD_getElem?, List.getElem?_toArray, List.getElem?_cons_succ, List.getElem?_cons_zero, Option.getD_some]
                        refine Ordd.fin X9 ?_
                        refine Ordd.one (i := 10) (by kernel_rfl) rfl ?_
                        refine Ordd.call (by kernel_rfl) 19 #[.slice p16 ys.length c16, v9] (by kernel_rfl) (CM2.out _ _ _ (HRR.out _ X9) (by rw [HYS.out]; exact R9.rd)) (.bool true) (fun _ _ h => h.1) ?_
                        intro w10 hx10
                        have X10 := X9.trans hx10.2
                        simp only [Act.put, Act.eval, List.setIfInBounds_toArray, List.set_cons_zero, List.set_cons_succ, Nat.reduceAdd, Array.getD_eq_getD_getElem?, List.getElem?_toArray, List.getElem?_cons_succ, List.getElem?_cons_zero, Option.getD_some]
                        refine Ordd.fin X10 ?_
                        refine Ordd.one (i := 11) (by kernel_rfl) rfl ?_
                        refine Ordd.any (by kernel_rfl) (.bool true) w10 (by kernel_rfl) ?_
                        simp only [Act.put, Act.eval, List.setIfInBounds_toArray, List.set_cons_zero, List.set_cons_succ, Nat.reduceAdd, Array.getD_eq_getD_getElem?, List.getElem?_toArray, List.getElem?_cons_succ, List.getElem?_cons_zero, Option.getD_some]
                        refine Ordd.fin X10 ?_
                        refine Ordd.one (i := 12) (by kernel_rfl) rfl ?_
                        refine Ordd.any (by kernel_rfl) (.bool true) w10 (by kernel_rfl) ?_
                        simp only [Act.put, Act.eval, List.setIfInBounds_toArray, List.set_cons_zero, List.set_cons_succ, Nat.reduceAdd, Array.getD_eq_getD_getElem?, List.getElem?_toArray, List.getElem?_cons_succ, List.getElem?_cons_zero, Option.getD_some]
                        refine Ordd.fin X10 ?_
                        refine Ordd.done (by kernel_rfl) ?_
                        go_wp2_with fail
                        go_ret
                        exact ⟨rfl, XWM.out.trans X10⟩
                    | false =>
                      have e := HBL.out rfl
                      subst e
                      have CK := Lib.hid (fun (w : World) es q g (h : Lw W w d mp es q g (ky zs zs.length false)) => show Calls Tryd.prog 17 #[.pointer (some ⟨g, 0, none⟩)] w fun e w' => e = .returned (.bool false) ∧ w = w' from h.sick.mono fun _ _ h => ⟨h.1, h.2.symm⟩)
                      go_upto_region 27 with (go_at_call 17; refine (CK.out _ _ _ _ K9.out).mono ?_; rintro e _ ⟨rfl, rfl⟩)
                      clear CK
                      have hl9 := HL9.out
                      have hu9 := HU9.out
                      have K10 : Hid (Lw W x9 d mp es8 ⟨d1 (frames zs) (frames zs).length, s9⟩ g8 ⟨(zs.length : Int), (zs.length : Int), ((frames zs).length : Int), false⟩) := K9
                      clear K9
                      have hzl : zs.length ≤ 60 := by omega
                      have hfz := fit_small HFZ.out
                      have hbg := body_size gone_dig gone_good
                      obtain ⟨s3, E3, c3⟩ := add1 (HC9).out (frames zs) (frames zs).length (x := goneS) (y := ⟨(zs.length : Int), (zs.length : Int), ((frames zs).length : Int), false⟩) rfl gone_good (by omega)
                      obtain ⟨s4, k4, E4, c4, q4, -⟩ := syn1 c3 (frames zs ++ frame (body goneS)) (frames zs).length (y := ⟨(zs.length : Int) + 1, (zs.length : Int), ((frames zs).length : Int) + ((frame (body goneS)).length : Int), false⟩) rfl
                      have q4 := q4 (by show (zs.length : Int) ≠ (zs.length : Int) + 1; omega)
                      subst q4
                      have o3 := c3.ops
                      have o4 := c4.ops
                      have o0 := (HC9).out.ops
                      have C3 := Lib.hid (fun (w : World) es (h : Lw W w d mp es ⟨d1 (frames zs) (frames zs).length, s9⟩ g8 ⟨(zs.length : Int), (zs.length : Int), ((frames zs).length : Int), false⟩) => h.add (fine_of _ _ (by omega) (by omega) _ _) (by show (s9).ops < big; unfold big; omega) goneS gone_dig HT.out E3)
                      have C4 := Lib.hid (fun (w : World) es (h : Lw W w d mp es ⟨d1 (frames zs ++ frame (body goneS)) (frames zs).length, s3⟩ g8 ⟨(zs.length : Int) + 1, (zs.length : Int), ((frames zs).length : Int) + ((frame (body goneS)).length : Int), false⟩) => h.sync (by show s3.ops < big; unfold big; omega) E4)
                      obtain ⟨ys, hys⟩ : ∃ ys, ys = zs ++ [goneS] := ⟨_, rfl⟩
                      have hf5 : Fit ys := by rw [hys]; exact fit_snoc HFZ.out gone_dig gone_good
                      have hl5 : ys.length ≤ 100 := by rw [hys]; simp; omega
                      have he5 : frames zs ++ frame (body goneS) = frames ys := by rw [hys]; exact (Slp.frames_snoc _ _).symm
                      have C5 := Lib.hid (fun (w : World) es (y : Y) (h : Lw W w d mp es (P.on ⟨d1 (frames zs ++ frame (body goneS)) (frames zs ++ frame (body goneS)).length, { s4 with off := true, ak := 0, af := 0, al := 0 }⟩ []) g8 y) => again_old (xs := ys) [] (.inl rfl) c4.room o4 (by omega) hf5 he5 hl5 HT.out h)
                      have CM2 := Lib.hid (show ∀ (u v : Value) (w : World), RdS u ys w → RdS v ys w → Calls Tryd.prog 19 #[u, v] w fun e w' => e = .returned (.bool true) ∧ Reg.Ext w w' from fun u v w h1 h2 => by rw [← (Slp.sameL_iff ys ys).2 rfl]; exact Slp.same_any u v ys ys w h1 h2)
                      have HYS := Lib.hid hys
                      clear hys
                      clear E3 E4 c3 c4 o3 o4 o0 hf5 hl5 hfz hbg he5
                      refine wp_region_lit ?_
                      refine Slp.wpList_val rfl (.agg goneS.cells.toArray) (by as_aux_lemma => kernel_rfl) ?_
                      simp only [Act.put, Act.eval, List.setIfInBounds_toArray, List.set_cons_zero, List.set_cons_succ, Nat.reduceAdd, Array.getD_eq_getD_getElem?, List.getElem?_toArray, List.getElem?_cons_succ, List.getElem?_cons_zero, Option.getD_some]
                      iterate 3 go_step
                      rw [Slp.z38]
                      have hb8 := Slp.boxS x9 S.none
                      have hx8 := Reg.Ext.alloc x9 (Obj.cells S.none.cells.toArray 37)
                      have hg8 := (K10).out.dy.out.1
                      have hlt8 := hb8.lt
                      have HSZ := Lib.hid (K10).out.dy.dg.dk
                      generalize (x9).alloc (Obj.cells S.none.cells.toArray 37) = w8 at *
                      obtain ⟨bx, hbx⟩ : ∃ b, (x9).heap.size = b := ⟨_, rfl⟩
                      rw [hbx] at hb8 hg8 hlt8 ⊢
                      refine wpList_store_mid rfl 37 _ _ rfl bx 0 ((goneS).cells).toArray rfl ?_ (hb8.there _ (by have e1 := Slp.cells_length _ gone_dig; have e2 := Slp.cells_length _ Slp.none_dig; rw [List.size_toArray]; omega)) (by rw [List.size_toArray, Slp.cells_length _ gone_dig]; exact Slp.size38) (all_oneCell_toArray (Slp.oneS _)) ?_
                      · rfl
                      simp only [List.toList_toArray]
                      simp only [Act.put, Act.eval, List.setIfInBounds_toArray, List.set_cons_zero, List.set_cons_succ, Nat.reduceAdd, Array.getD_eq_getD_getElem?, List.getElem?_toArray, List.getElem?_cons_succ, List.getElem?_cons_zero, Option.getD_some]
                      have hbs := But.setCells bx goneS.cells 0 w8
                      have h8 := hb8.setAll goneS.cells rfl
                      have hx9 : Reg.Ext x9 (w8.setCells bx 0 goneS.cells) := hx8.trans_but hbs (by omega)
                      have K11 := Lib.hid ((K10).out.ext hx9)
                      have HF11 := Lib.hid ((HF9).out.turn (TurnG.ext hx9))
                      have HB11 : Hid (HBx (w8.setCells bx 0 goneS.cells) d mp _ g8 bx goneS) := Lib.hid ⟨by omega, ⟨Nat.lt_of_lt_of_le hlt8 hbs.size, fun o => by have := HSZ.out.own_lt o; omega⟩, h8⟩
                      clear hb8 hx8 hg8 hlt8 HSZ hbs h8 hx9 hbx K10 HF9
                      generalize w8.setCells bx 0 goneS.cells = w11 at *
                      clear w8
                      go_upto_region 28 with (fail)
                      refine wp_region_lit ?_
                      iterate 3 go_step
                      refine Slp.wpList_sl _ rfl bx 0 rfl goneS gone_dig (Lib.hid (range_of HB11.out.2.2)) rfl ?_
                      simp only [Act.put, Act.eval, List.setIfInBounds_toArray, List.set_cons_zero, List.set_cons_succ, Nat.reduceAdd, Array.getD_eq_getD_getElem?, List.getElem?_toArray, List.getElem?_cons_succ, List.getElem?_cons_zero, Option.getD_some]
                      repeat go_step
                      refine (C3.out _ _ K11.out).mono ?_
                      rintro e z ⟨rfl, esK12, k, t⟩
                      have K12 := Lib.hid k
                      have TK12 := Lib.hid t
                      clear k t
                      rename_i hK
                      refine hK _ _ ?_
                      clear hK
                      have HF12 := Lib.hid (HF11.out.turn TK12.out)
                      have HB12 := Lib.hid (HB11.out.turn TK12.out)
                      clear K11 HF11 HB11 TK12
                      go_upto_region 33 with (first
                        | (go_at_call 12; refine (C4.out _ _ K12.out).mono ?_; rintro e x13 ⟨rfl, es13, k, t⟩; have K13 := Lib.hid k; have HF13 := Lib.hid (HF12.out.turn t); have HB13 := Lib.hid (HB12.out.turn t); clear k t)
                        | (go_at_call 14; refine (K13.out.off).mono ?_; rintro e x14 ⟨rfl, es14, k, t⟩; have K14 := Lib.hid k; have HF14 := Lib.hid (HF13.out.turn t); have HB14 := Lib.hid (HB13.out.turn t); clear k t)
                        | (go_at_call 15; refine (K14.out.on0).mono ?_; rintro e x15 ⟨rfl, es15, k, t⟩; have K15 := Lib.hid k; have HF15 := Lib.hid (HF14.out.turn t); have HB15 := Lib.hid (HB14.out.turn t); clear k t)
                        | (go_at_call 8; refine (C5.out _ _ _ K15.out).mono ?_; rintro e x16 ⟨es16, g16, p16, c16, q16, rfl, k, -, -, hr, t⟩; have K16 := Lib.hid k; have HR16 := Lib.hid hr; have HF16 := Lib.hid (HF15.out.turn t); have HB16 := Lib.hid (HB15.out.turn t); clear k hr t))
                      clear K12 K13 K14 K15 HF12 HF13 HF14 HF15 HB12 HB13 HB14 HB15 C3 C4 C5
                      have hdr := Reg.Ext.drew x16
                      have XWM := Lib.hid (K16.out.base.1.trans hdr)
                      have HBR := Lib.hid (fun w' (h : Reg.Ext x16.drew w') => range_of (HB16.out.2.2.ext (hdr.trans h)))
                      have HFR := Lib.hid (fun w' (h : Reg.Ext x16.drew w') => HF16.out.1.ext (hdr.trans h))
                      have HRR := Lib.hid (fun w' (h : Reg.Ext x16.drew w') => HR16.out.ext (hdr.trans h))
                      clear hdr K16 HR16 HF16 HB16
                      refine wp_region_held (S := fun w => Reg.Ext x16.drew w) (by kernel_rfl) ?_
                      change wpAnyH _ _ _ _ _ _ _ _ x16.drew
                      generalize x16.drew = wm at *
                      have X0 := Reg.Ext.refl wm
                      obtain ⟨bm, hbm⟩ : ∃ b, wm.heap.size = b := ⟨_, rfl⟩
                      refine wpAnyH_take (i := 0) rfl (by kernel_rfl) (by kernel_rfl) (by kernel_rfl) (fun _ _ _ h => h) (v := .int .i64 0) (.inl ⟨by kernel_rfl, fun w _ => by as_aux_lemma => kernel_rfl⟩) X0 ?_
                      simp only [Act.put, Act.eval, List.setIfInBounds_toArray, List.set_cons_zero, List.set_cons_succ, Nat.reduceAdd, Array.getD_eq_getD_getElem?, List.getElem?_toArray, List.getElem?_cons_succ, List.getElem?_cons_zero, Option.getD_some]
                      refine wpAnyH_take (i := 1) rfl (by kernel_rfl) (by kernel_rfl) (by kernel_rfl) (fun _ _ _ h => h) (v := .bool true) (.inl ⟨by kernel_rfl, fun w _ => by as_aux_lemma => kernel_rfl⟩) X0 ?_
                      simp only [Act.put, Act.eval, List.setIfInBounds_toArray, List.set_cons_zero, List.set_cons_succ, Nat.reduceAdd, Array.getD_eq_getD_getElem?, List.getElem?_toArray, List.getElem?_cons_succ, List.getElem?_cons_zero, Option.getD_some]
                      refine wpAnyH_take (i := 2) rfl (by kernel_rfl) (by kernel_rfl) (by kernel_rfl) (fun _ _ _ h => h) (v := .bool true) (.inl ⟨by kernel_rfl, fun w _ => by as_aux_lemma => kernel_rfl⟩) X0 ?_
                      simp only [Act.put, Act.eval, List.setIfInBounds_toArray, List.set_cons_zero, List.set_cons_succ, Nat.reduceAdd, Array.getD_eq_getD_getElem?, List.getElem?_toArray, List.getElem?_cons_succ, List.getElem?_cons_zero, Option.getD_some]
                      refine wpAnyH_take (i := 3) rfl (by kernel_rfl) (by kernel_rfl) (by kernel_rfl) (fun _ _ _ h => h) (v := .slice p16 ys.length c16) (.inl ⟨by kernel_rfl, fun w _ => by as_aux_lemma => kernel_rfl⟩) X0 ?_
                      simp only [Act.put, Act.eval, List.setIfInBounds_toArray, List.set_cons_zero, List.set_cons_succ, Nat.reduceAdd, Array.getD_eq_getD_getElem?, List.getElem?_toArray, List.getElem?_cons_succ, List.getElem?_cons_zero, Option.getD_some]
                      refine wpAnyH_take (i := 5) rfl (by kernel_rfl) (by kernel_rfl) (by kernel_rfl) (fun _ _ _ h => h) (v := .slice p8 zs.length c8) (.inl ⟨by kernel_rfl, fun w _ => by as_aux_lemma => kernel_rfl⟩) X0 ?_
                      simp only [Act.put, Act.eval, List.setIfInBounds_toArray, List.set_cons_zero, List.set_cons_succ, Nat.reduceAdd, Array.getD_eq_getD_getElem?, List.getElem?_toArray, List.getElem?_cons_succ, List.getElem?_cons_zero, Option.getD_some]
                      refine wpAnyH_take (i := 7) rfl (by kernel_rfl) (by kernel_rfl) (by kernel_rfl) (fun _ _ _ h => h) (v := .agg goneS.cells.toArray) (yieldsIf_load_mid (by kernel_rfl) 37 (.tmp 19) rfl bx 0 (by kernel_rfl) goneS.cells _ (fun w h => HBR.out w h) Slp.undS rfl (by rw [Slp.cells_length goneS gone_dig]; exact Slp.size38)) X0 ?_
                      simp only [Act.put, Act.eval, List.setIfInBounds_toArray, List.set_cons_zero, List.set_cons_succ, Nat.reduceAdd, Array.getD_eq_getD_getElem?, List.getElem?_toArray, List.getElem?_cons_succ, List.getElem?_cons_zero, Option.getD_some]
                      refine Ordd.Bx.out (?_ : Ordd.Bx (wpAnyH _ _ _ _ _ _ _ _ _))
                      refine Ordd.two (i := 4) (j := 8) (by kernel_rfl) rfl rfl ?_ ?_
                      · refine Ordd.any (by kernel_rfl) (.slice (some ⟨(wm).heap.size, 0, none⟩) 0 0) ((wm).alloc (.cells #[] 37)) (by kernel_rfl) ?_
                        have R4 := row_empty wm bm (by rw [← hbm]; exact X0.size)
                        have X4 : Reg.Ext wm ((wm).alloc (.cells #[] 37)) := X0.trans (Reg.Ext.alloc _ _)
                        have E4 := Reg.Ext.alloc wm (.cells #[] 37)
                        obtain ⟨r4, hr4⟩ : ∃ r, (wm).heap.size = r := ⟨_, rfl⟩
                        rw [hr4] at R4 ⊢
                        generalize (wm).alloc (.cells #[] 37) = w4 at *
                        simp only [Act.put, Act.eval, List.setIfInBounds_toArray, List.set_cons_zero, List.set_cons_succ, Nat.reduceAdd, Array.getD_eq_getD_getElem?, List.getElem?_toArray, List.getElem?_cons_succ, List.getElem?_cons_zero, Option.getD_some]
                        refine Ordd.fin X4 ?_
                        refine Ordd.two (i := 6) (j := 8) (by kernel_rfl) rfl rfl ?_ ?_
                        · refine Slp.h_cat (.tmp 165) (.tmp 166) rfl (.slice (some ⟨r4, 0, none⟩) 0 0) (.slice p8 zs.length c8) [] zs bm _ (by kernel_rfl) (by kernel_rfl) (HFR.out _ X4) R4 (by rw [← hbm]; exact X4.size) (by simp; omega) (by kernel_rfl) ?_
                          intro v6 w6 R6 hg6
                          have X6 : Reg.Ext wm w6 := Below.grown X4 hg6 X4.size fun q hq => by rw [hbm]; exact (R4.1.lt q hq).1
                          simp only [Act.put, Act.eval, List.setIfInBounds_toArray, List.set_cons_zero, List.set_cons_succ, Nat.reduceAdd, Array.getD_eq_getD_getElem?, List.getElem?_toArray, List.getElem?_cons_succ, List.getElem?_cons_zero, Option.getD_some]
                          refine Ordd.fin X6 ?_
                          refine Ordd.one (i := 8) (by kernel_rfl) rfl ?_
                          refine Slp.h_r1 (.tmp 168) rfl goneS gone_dig (by kernel_rfl) (by kernel_rfl) ?_
                          intro g8' w8' hgg8' hlt8' E8' L8'
                          have X8' : Reg.Ext wm w8' := X6.trans E8'
                          simp only [Act.put, Act.eval, List.setIfInBounds_toArray, List.set_cons_zero, List.set_cons_succ, Nat.reduceAdd, Array.getD_eq_getD_getElem?, List.getElem?_toArray, List.getElem?_cons_succ, List.getElem?_cons_zero, Option.getD_some]
                          refine Ordd.fin X8' ?_
                          refine Ordd.one (i := 9) (by kernel_rfl) rfl ?_
                          refine Slp.h_cat (.tmp 167) (.tmp 169) rfl v6 (.slice (some ⟨g8', 0, none⟩) 1 1) zs [goneS] bm 0 (by kernel_rfl) (by kernel_rfl) (Slp.Row.one gone_dig L8' (Nat.zero_le _)) (R6.ext E8') (by rw [← hbm]; exact X8'.size) (by simp; omega) (by kernel_rfl) ?_
                          intro v9 w9 R9 hg9
                          have X9 : Reg.Ext wm w9 := Below.grown X8' hg9 X8'.size fun q hq => by rw [hbm]; exact ((R6.ext E8').1.lt q hq).1
                          simp only [Act.put, Act.eval, List.setIfInBounds_toArray, List.set_cons_zero, List.set_cons_succ, Nat.reduceAdd, Array.getD_eq_getD_getElem?, List.getElem?_toArray, List.getElem?_cons_succ, List.getElem?_cons_zero, Option.getD_some]
                          refine Ordd.fin X9 ?_
                          refine Ordd.one (i := 10) (by kernel_rfl) rfl ?_
                          refine Ordd.call (by kernel_rfl) 19 #[.slice p16 ys.length c16, v9] (by kernel_rfl) (CM2.out _ _ _ (HRR.out _ X9) (by rw [HYS.out]; exact R9.rd)) (.bool true) (fun _ _ h => h.1) ?_
                          intro w10 hx10
                          have X10 := X9.trans hx10.2
                          simp only [Act.put, Act.eval, List.setIfInBounds_toArray, List.set_cons_zero, List.set_cons_succ, Nat.reduceAdd, Array.getD_eq_getD_getElem?, List.getElem?_toArray, List.getElem?_cons_succ, List.getElem?_cons_zero, Option.getD_some]
                          refine Ordd.fin X10 ?_
                          refine Ordd.one (i := 11) (by kernel_rfl) rfl ?_
                          refine Ordd.any (by kernel_rfl) (.bool true) w10 (by kernel_rfl) ?_
                          simp only [Act.put, Act.eval, List.setIfInBounds_toArray, List.set_cons_zero, List.set_cons_succ, Nat.reduceAdd, Array.getD_eq_getD_getElem?, List.getElem?_toArray, List.getElem?_cons_succ, List.getElem?_cons_zero, Option.getD_some]
                          refine Ordd.fin X10 ?_
                          refine Ordd.one (i := 12) (by kernel_rfl) rfl ?_
                          refine Ordd.any (by kernel_rfl) (.bool true) w10 (by kernel_rfl) ?_
                          simp only [Act.put, Act.eval, List.setIfInBounds_toArray, List.set_cons_zero, List.set_cons_succ, Nat.reduceAdd, Array.getD_eq_getD_getElem?, List.getElem?_toArray, List.getElem?_cons_succ, List.getElem?_cons_zero, Option.getD_some]
                          refine Ordd.fin X10 ?_
                          refine Ordd.done (by kernel_rfl) ?_
                          go_wp2_with fail
                          go_ret
                          exact ⟨rfl, XWM.out.trans X10⟩
                        · refine Slp.h_r1 (.tmp 168) rfl goneS gone_dig (by kernel_rfl) (by kernel_rfl) ?_
                          intro g8' w8' hgg8' hlt8' E8' L8'
                          have X8' : Reg.Ext wm w8' := X4.trans E8'
                          simp only [Act.put, Act.eval, List.setIfInBounds_toArray, List.set_cons_zero, List.set_cons_succ, Nat.reduceAdd, Array.getD_eq_getD_getElem?, List.getElem?_toArray, List.getElem?_cons_succ, List.getElem?_cons_zero, Option.getD_some]
                          refine Ordd.fin X8' ?_
                          refine Ordd.one (i := 6) (by kernel_rfl) rfl ?_
                          refine Slp.h_cat (.tmp 165) (.tmp 166) rfl (.slice (some ⟨r4, 0, none⟩) 0 0) (.slice p8 zs.length c8) [] zs bm _ (by kernel_rfl) (by kernel_rfl) (HFR.out _ X8') (R4.ext E8') (by rw [← hbm]; exact X8'.size) (by simp; omega) (by kernel_rfl) ?_
                          intro v6 w6 R6 hg6
                          have X6 : Reg.Ext wm w6 := Below.grown X8' hg6 X8'.size fun q hq => by rw [hbm]; exact ((R4.ext E8').1.lt q hq).1
                          simp only [Act.put, Act.eval, List.setIfInBounds_toArray, List.set_cons_zero, List.set_cons_succ, Nat.reduceAdd, Array.getD_eq_getD_getElem?, List.getElem?_toArray, List.getElem?_cons_succ, List.getElem?_cons_zero, Option.getD_some]
                          refine Ordd.fin X6 ?_
                          have L6 : Blk w6 g8' 37 goneS.cells := (hg6.block g8' hlt8' (show some g8' ≠ some r4 from Plk.ne_some (by have := (R4.1.lt r4 rfl).2; omega))).trans L8'
                          refine Ordd.one (i := 9) (by kernel_rfl) rfl ?_
                          refine Slp.h_cat (.tmp 167) (.tmp 169) rfl v6 (.slice (some ⟨g8', 0, none⟩) 1 1) zs [goneS] bm 0 (by kernel_rfl) (by kernel_rfl) (Slp.Row.one gone_dig L6 (Nat.zero_le _)) R6 (by rw [← hbm]; exact X6.size) (by simp; omega) (by kernel_rfl) ?_
                          intro v9 w9 R9 hg9
                          have X9 : Reg.Ext wm w9 := Below.grown X6 hg9 X6.size fun q hq => by rw [hbm]; exact (R6.1.lt q hq).1
                          simp only [Act.put, Act.eval, List.setIfInBounds_toArray, List.set_cons_zero, List.set_cons_succ, Nat.reduceAdd, Array.getD_eq_getD_getElem?, List.getElem?_toArray, List.getElem?_cons_succ, List.getElem?_cons_zero, Option.getD_some]
                          refine Ordd.fin X9 ?_
                          refine Ordd.one (i := 10) (by kernel_rfl) rfl ?_
                          refine Ordd.call (by kernel_rfl) 19 #[.slice p16 ys.length c16, v9] (by kernel_rfl) (CM2.out _ _ _ (HRR.out _ X9) (by rw [HYS.out]; exact R9.rd)) (.bool true) (fun _ _ h => h.1) ?_
                          intro w10 hx10
                          have X10 := X9.trans hx10.2
                          simp only [Act.put, Act.eval, List.setIfInBounds_toArray, List.set_cons_zero, List.set_cons_succ, Nat.reduceAdd, Array.getD_eq_getD_getElem?, List.getElem?_toArray, List.getElem?_cons_succ, List.getElem?_cons_zero, Option.getD_some]
                          refine Ordd.fin X10 ?_
                          refine Ordd.one (i := 11) (by kernel_rfl) rfl ?_
                          refine Ordd.any (by kernel_rfl) (.bool true) w10 (by kernel_rfl) ?_
                          simp only [Act.put, Act.eval, List.setIfInBounds_toArray, List.set_cons_zero, List.set_cons_succ, Nat.reduceAdd, Array.getD_eq_getD_getElem?, List.getElem?_toArray, List.getElem?_cons_succ, List.getElem?_cons_zero, Option.getD_some]
                          refine Ordd.fin X10 ?_
                          refine Ordd.one (i := 12) (by kernel_rfl) rfl ?_
                          refine Ordd.any (by kernel_rfl) (.bool true) w10 (by kernel_rfl) ?_
                          simp only [Act.put, Act.eval, List.setIfInBounds_toArray, List.set_cons_zero, List.set_cons_succ, Nat.reduceAdd, Array.getD_eq_getD_getElem?, List.getElem?_toArray, List.getElem?_cons_succ, List.getElem?_cons_zero, Option.getD_some]
                          refine Ordd.fin X10 ?_
                          refine Ordd.done (by kernel_rfl) ?_
                          go_wp2_with fail
                          go_ret
                          exact ⟨rfl, XWM.out.trans X10⟩
                      · refine Slp.h_r1 (.tmp 168) rfl goneS gone_dig (by kernel_rfl) (by kernel_rfl) ?_
                        intro g8' w8' hgg8' hlt8' E8' L8'
                        have X8' : Reg.Ext wm w8' := X0.trans E8'
                        simp only [Act.put, Act.eval, List.setIfInBounds_toArray, List.set_cons_zero, List.set_cons_succ, Nat.reduceAdd, Array.getD_eq_getD_getElem?, List.getElem?_toArray, List.getElem?_cons_succ, List.getElem?_cons_zero, Option.getD_some]
                        refine Ordd.fin X8' ?_
                        refine Ordd.one (i := 4) (by kernel_rfl) rfl ?_
                        refine Ordd.any (by kernel_rfl) (.slice (some ⟨(w8').heap.size, 0, none⟩) 0 0) ((w8').alloc (.cells #[] 37)) (by kernel_rfl) ?_
                        have R4 := row_empty w8' bm (by rw [← hbm]; exact X8'.size)
                        have X4 : Reg.Ext wm ((w8').alloc (.cells #[] 37)) := X8'.trans (Reg.Ext.alloc _ _)
                        have E4 := Reg.Ext.alloc w8' (.cells #[] 37)
                        obtain ⟨r4, hr4⟩ : ∃ r, (w8').heap.size = r := ⟨_, rfl⟩
                        rw [hr4] at R4 ⊢
                        generalize (w8').alloc (.cells #[] 37) = w4 at *
                        simp only [Act.put, Act.eval, List.setIfInBounds_toArray, List.set_cons_zero, List.set_cons_succ, Nat.reduceAdd, Array.getD_eq_getD_getElem?, List.getElem?_toArray, List.getElem?_cons_succ, List.getElem?_cons_zero, Option.getD_some]
                        refine Ordd.fin X4 ?_
                        refine Ordd.one (i := 6) (by kernel_rfl) rfl ?_
                        refine Slp.h_cat (.tmp 165) (.tmp 166) rfl (.slice (some ⟨r4, 0, none⟩) 0 0) (.slice p8 zs.length c8) [] zs bm _ (by kernel_rfl) (by kernel_rfl) (HFR.out _ X4) R4 (by rw [← hbm]; exact X4.size) (by simp; omega) (by kernel_rfl) ?_
                        intro v6 w6 R6 hg6
                        have X6 : Reg.Ext wm w6 := Below.grown X4 hg6 X4.size fun q hq => by rw [hbm]; exact (R4.1.lt q hq).1
                        simp only [Act.put, Act.eval, List.setIfInBounds_toArray, List.set_cons_zero, List.set_cons_succ, Nat.reduceAdd, Array.getD_eq_getD_getElem?, List.getElem?_toArray, List.getElem?_cons_succ, List.getElem?_cons_zero, Option.getD_some]
                        refine Ordd.fin X6 ?_
                        have L6 : Blk w6 g8' 37 goneS.cells := (hg6.block g8' (Nat.lt_of_lt_of_le hlt8' E4.size) (show some g8' ≠ some r4 from Plk.ne_some (by omega))).trans (L8'.ext E4)
                        refine Ordd.one (i := 9) (by kernel_rfl) rfl ?_
                        refine Slp.h_cat (.tmp 167) (.tmp 169) rfl v6 (.slice (some ⟨g8', 0, none⟩) 1 1) zs [goneS] bm 0 (by kernel_rfl) (by kernel_rfl) (Slp.Row.one gone_dig L6 (Nat.zero_le _)) R6 (by rw [← hbm]; exact X6.size) (by simp; omega) (by kernel_rfl) ?_
                        intro v9 w9 R9 hg9
                        have X9 : Reg.Ext wm w9 := Below.grown X6 hg9 X6.size fun q hq => by rw [hbm]; exact (R6.1.lt q hq).1
                        simp only [Act.put, Act.eval, List.setIfInBounds_toArray, List.set_cons_zero, List.set_cons_succ, Nat.reduceAdd, Array.getD_eq_getD_getElem?, List.getElem?_toArray, List.getElem?_cons_succ, List.getElem?_cons_zero, Option.getD_some]
                        refine Ordd.fin X9 ?_
                        refine Ordd.one (i := 10) (by kernel_rfl) rfl ?_
                        refine Ordd.call (by kernel_rfl) 19 #[.slice p16 ys.length c16, v9] (by kernel_rfl) (CM2.out _ _ _ (HRR.out _ X9) (by rw [HYS.out]; exact R9.rd)) (.bool true) (fun _ _ h => h.1) ?_
                        intro w10 hx10
                        have X10 := X9.trans hx10.2
                        simp only [Act.put, Act.eval, List.setIfInBounds_toArray, List.set_cons_zero, List.set_cons_succ, Nat.reduceAdd, Array.getD_eq_getD_getElem?, List.getElem?_toArray, List.getElem?_cons_succ, List.getElem?_cons_zero, Option.getD_some]
                        refine Ordd.fin X10 ?_
                        refine Ordd.one (i := 11) (by kernel_rfl) rfl ?_
                        refine Ordd.any (by kernel_rfl) (.bool true) w10 (by kernel_rfl) ?_
                        simp only [Act.put, Act.eval, List.setIfInBounds_toArray, List.set_cons_zero, List.set_cons_succ, Nat.reduceAdd, Array.getD_eq_getD_getElem?, List.getElem?_toArray, List.getElem?_cons_succ, List.getElem?_cons_zero, Option.getD_some]
                        refine Ordd.fin X10 ?_
                        refine Ordd.one (i := 12) (by kernel_rfl) rfl ?_
                        refine Ordd.any (by kernel_rfl) (.bool true) w10 (by kernel_rfl) ?_
                        simp only [Act.put, Act.eval, List.setIfInBounds_toArray, List.set_cons_zero, List.set_cons_succ, Nat.reduceAdd, Array.getD_eq_getD_getElem?, List.getElem?_toArray, List.getElem?_cons_succ, List.getElem?_cons_zero, Option.getD_some]
                        refine Ordd.fin X10 ?_
                        refine Ordd.done (by kernel_rfl) ?_
                        go_wp2_with fail
                        go_ret
                        exact ⟨rfl, XWM.out.trans X10⟩
                  · have CY := Lib.hid (K7.out.sync HOP7.out E)
                    have HK8 := Lib.hid hk'
                    have HA8 := Lib.hid ha'
                    clear E hk' ha' HK5 HA5
                    go_wp2_with (go_at_call 12; refine (CY.out).mono ?_; rintro e w8 ⟨rfl, es8', k8, t8⟩; have K8' := Lib.hid k8; have H8' := Lib.hid (H7.out.turn t8); have HB8 := Lib.hid (Nat.le_trans HB7.out t8.size); clear k8 t8)
                    go_roundw
                    case rel => exact ⟨k + 1, es8', s9', j9, ws2, ws2.length, by omega, by omega, by go_num, K8', H8', Lib.hid ⟨HK8.out.fit, HK8.out.le, HK8.out.room, HK8.out.used, by have := HK8.out.ops; omega⟩, HA8, hlen, HB8⟩
                    case measure => simp [intOf]; omega
              · have dkb : decide (k < bs.length) = false := decide_eq_false hb
                go_wp2_with fail
                go_roundw
                case rel => exact ⟨k + 1, esK5, s', j', ws2, sure, by omega, by omega, by go_num, K7, H7, Lib.hid ⟨HK5.out.fit, HK5.out.le, HK5.out.room, HK5.out.used, by have := HK5.out.ops; omega⟩, HA5, hlen, HB7⟩
                case measure => simp [intOf]; omega
      · have hke : k = 60 := by omega
        subst hke
        have hops : 3 + 2 * 60 ≤ 300 := by decide
        obtain ⟨pw, cw, hv, hcw, hpw⟩ := Row.cap (HW).out.1
        subst hv
        obtain ⟨l, zs, b2, s9, u9, E, i1, i2, ez, a1, a2, c9, hl, hu, hbl⟩ := kept_on (HK).out (by omega) keep
        have HON := Lib.hid (show ∀ (w : World) es y, Lw W w d mp es (P.on ⟨(kp ws sure s).fs, { s with off := true, ak := 0, af := 0, al := 0 }⟩ [keep]) g y → _ from fun w es y h => open_wide h (by rw [onk_ops]; have := (HK).out.ops; unfold big; omega) E (by omega) HT.out a1 a2)
        have HE2 := Lib.hid ez
        have HC9 := Lib.hid c9
        have HU9 := Lib.hid hu
        have HBL := Lib.hid hbl
        have HL9 := Lib.hid hl
        have HFZ : Hid (Fit zs) := Lib.hid (by rw [← ez]; exact fun y hy => (HK).out.fit y (List.mem_of_mem_take hy))
        have CSU := Lib.hid (fun (w : World) d mp es q g (ws : List S) (n : Nat) b (h : Lw W w d mp es q g (ky ws n b)) => show Calls Tryd.prog 13 #[.pointer (some ⟨g, 0, none⟩)] w fun e w' => e = .returned (.int .i64 (n : Int)) ∧ w = w' from h.sure.mono fun _ _ h => ⟨h.1, h.2.symm⟩)
        have dz : decide (zs.length < sure) = false := by rw [decide_eq_false_iff_not]; omega
        clear E a1 a2 c9 hl hu hbl ez
        go_upto_region 25 with (first
          | fail
          | (go_at_call 13; ((with_reducible refine (CSU.out _ _ _ _ _ _ _ _ _ (K).out).mono ?_); rintro e _ ⟨rfl, rfl⟩))
          | (go_at_call 14; refine ((K).out.off).mono ?_; rintro e x6 ⟨rfl, es6, k, t⟩; have K6 := Lib.hid k; have HW6 := Lib.hid ((HW).out.turn t); clear k t)
          | (go_at_call 15; refine (K6.out.on1 keep).mono ?_; rintro e x7 ⟨rfl, es7, k, t⟩; have K7 := Lib.hid k; have HW7 := Lib.hid ((HW6.out.turn (TurnG.ext (Reg.Ext.alloc _ _))).turn t); clear k t)
          | (go_at_call 8; refine (HON.out _ _ _ K7.out).mono ?_; rintro e x8 ⟨es8, g8, p8, c8, rfl, k, hh, t⟩; have K8 := Lib.hid k; have HF8 := Lib.hid hh; have HW8 := Lib.hid (HW7.out.turn (.of t)); clear k hh t)
          | (go_at_call 16; refine (begins_any pw cw hpw _ ws zs _ HW8.out.rd hcw HF8.out.rd i2 HE2.out (by omega)).mono ?_; rintro e x9 ⟨rfl, hx9⟩; have K9 := Lib.hid (K8.out.ext hx9); have HF9 := Lib.hid (HF8.out.turn (TurnG.ext hx9)); clear hx9)
          | (go_at_call 13; ((with_reducible refine (CSU.out _ _ _ _ _ _ _ _ _ K9.out).mono ?_); rintro e _ ⟨rfl, rfl⟩)))
        clear K6 K7 K8 HW6 HW7 HW8 HF8 HON K HW HK
        cases b2 with
        | true =>
          have hfz2 := fit_small HFZ.out
          obtain ⟨s2, E2, c2⟩ := rew1 HC9.out l l.length (ky zs zs.length true) zs (fit_good HFZ.out) (by have := HL9.out; rw [HU9.out]; omega)
          have CR := Lib.hid (fun (w : World) es (h : Lw W w d mp es ⟨d1 l l.length, s9⟩ g8 (ky zs zs.length true)) (u : Value) (hr : RdS u zs w) => h.rew (by have := HC9.out.ops; show s9.ops + 5 < big; unfold big; omega) zs u hr (by omega) HT.out E2)
          have CK := Lib.hid (fun (w : World) es q g (h : Lw W w d mp es q g (ky zs zs.length true)) => show Calls Tryd.prog 17 #[.pointer (some ⟨g, 0, none⟩)] w fun e w' => e = .returned (.bool true) ∧ w = w' from h.sick.mono fun _ _ h => ⟨h.1, h.2.symm⟩)
          have C10 := Lib.hid c2
          have HU10 : Hid ((u9 : Int) + (frames zs).length - l.length ≤ 200000) := Lib.hid (by have := HL9.out; rw [HU9.out]; omega)
          clear E2 c2
          go_upto_region 27 with (first
            | (go_at_call 17; refine (CK.out _ _ _ _ K9.out).mono ?_; rintro e _ ⟨rfl, rfl⟩)
            | (go_at_call 18; refine (CR.out _ _ K9.out _ HF9.out.rd).mono ?_; rintro e x10 ⟨rfl, es10, k, t⟩; have K10 := Lib.hid k; have HF10 := Lib.hid (HF9.out.turn t); clear k t))
          clear K9 HF9 CR CK
          have hu10 := HU10.out
          have hzl : zs.length ≤ 60 := by omega
          have hfz := fit_small HFZ.out
          have hbg := body_size gone_dig gone_good
          obtain ⟨s3, E3, c3⟩ := add1 (C10).out (frames zs) (frames zs).length (x := goneS) (y := ⟨(zs.length : Int), (zs.length : Int), ((frames zs).length : Int), false⟩) rfl gone_good (by omega)
          obtain ⟨s4, k4, E4, c4, q4, -⟩ := syn1 c3 (frames zs ++ frame (body goneS)) (frames zs).length (y := ⟨(zs.length : Int) + 1, (zs.length : Int), ((frames zs).length : Int) + ((frame (body goneS)).length : Int), false⟩) rfl
          have q4 := q4 (by show (zs.length : Int) ≠ (zs.length : Int) + 1; omega)
          subst q4
          have o3 := c3.ops
          have o4 := c4.ops
          have o0 := (C10).out.ops
          have C3 := Lib.hid (fun (w : World) es (h : Lw W w d mp es ⟨d1 (frames zs) (frames zs).length, s2⟩ g8 ⟨(zs.length : Int), (zs.length : Int), ((frames zs).length : Int), false⟩) => h.add (fine_of _ _ (by omega) (by omega) _ _) (by show (s2).ops < big; unfold big; omega) goneS gone_dig HT.out E3)
          have C4 := Lib.hid (fun (w : World) es (h : Lw W w d mp es ⟨d1 (frames zs ++ frame (body goneS)) (frames zs).length, s3⟩ g8 ⟨(zs.length : Int) + 1, (zs.length : Int), ((frames zs).length : Int) + ((frame (body goneS)).length : Int), false⟩) => h.sync (by show s3.ops < big; unfold big; omega) E4)
          obtain ⟨ys, hys⟩ : ∃ ys, ys = zs ++ [goneS] := ⟨_, rfl⟩
          have hf5 : Fit ys := by rw [hys]; exact fit_snoc HFZ.out gone_dig gone_good
          have hl5 : ys.length ≤ 100 := by rw [hys]; simp; omega
          have he5 : frames zs ++ frame (body goneS) = frames ys := by rw [hys]; exact (Slp.frames_snoc _ _).symm
          have C5 := Lib.hid (fun (w : World) es (y : Y) (h : Lw W w d mp es (P.on ⟨d1 (frames zs ++ frame (body goneS)) (frames zs ++ frame (body goneS)).length, { s4 with off := true, ak := 0, af := 0, al := 0 }⟩ []) g8 y) => again_old (xs := ys) [] (.inl rfl) c4.room o4 (by omega) hf5 he5 hl5 HT.out h)
          have CM2 := Lib.hid (show ∀ (u v : Value) (w : World), RdS u ys w → RdS v ys w → Calls Tryd.prog 19 #[u, v] w fun e w' => e = .returned (.bool true) ∧ Reg.Ext w w' from fun u v w h1 h2 => by rw [← (Slp.sameL_iff ys ys).2 rfl]; exact Slp.same_any u v ys ys w h1 h2)
          have HYS := Lib.hid hys
          clear hys
          clear E3 E4 c3 c4 o3 o4 o0 hf5 hl5 hfz hbg he5
          refine wp_region_lit ?_
          refine Slp.wpList_val rfl (.agg goneS.cells.toArray) (by as_aux_lemma => kernel_rfl) ?_
          simp only [Act.put, Act.eval, List.setIfInBounds_toArray, List.set_cons_zero, List.set_cons_succ, Nat.reduceAdd, Array.getD_eq_getD_getElem?, List.getElem?_toArray, List.getElem?_cons_succ, List.getElem?_cons_zero, Option.getD_some]
          iterate 3 go_step
          rw [Slp.z38]
          have hb8 := Slp.boxS x10 S.none
          have hx8 := Reg.Ext.alloc x10 (Obj.cells S.none.cells.toArray 37)
          have hg8 := (K10).out.dy.out.1
          have hlt8 := hb8.lt
          have HSZ := Lib.hid (K10).out.dy.dg.dk
          generalize (x10).alloc (Obj.cells S.none.cells.toArray 37) = w8 at *
          obtain ⟨bx, hbx⟩ : ∃ b, (x10).heap.size = b := ⟨_, rfl⟩
          rw [hbx] at hb8 hg8 hlt8 ⊢
          refine wpList_store_mid rfl 37 _ _ rfl bx 0 ((goneS).cells).toArray rfl ?_ (hb8.there _ (by have e1 := Slp.cells_length _ gone_dig; have e2 := Slp.cells_length _ Slp.none_dig; rw [List.size_toArray]; omega)) (by rw [List.size_toArray, Slp.cells_length _ gone_dig]; exact Slp.size38) (all_oneCell_toArray (Slp.oneS _)) ?_
          · rfl
          simp only [List.toList_toArray]
          simp only [Act.put, Act.eval, List.setIfInBounds_toArray, List.set_cons_zero, List.set_cons_succ, Nat.reduceAdd, Array.getD_eq_getD_getElem?, List.getElem?_toArray, List.getElem?_cons_succ, List.getElem?_cons_zero, Option.getD_some]
          have hbs := But.setCells bx goneS.cells 0 w8
          have h8 := hb8.setAll goneS.cells rfl
          have hx9 : Reg.Ext x10 (w8.setCells bx 0 goneS.cells) := hx8.trans_but hbs (by omega)
          have K11 := Lib.hid ((K10).out.ext hx9)
          have HF11 := Lib.hid ((HF10).out.turn (TurnG.ext hx9))
          have HB11 : Hid (HBx (w8.setCells bx 0 goneS.cells) d mp _ g8 bx goneS) := Lib.hid ⟨by omega, ⟨Nat.lt_of_lt_of_le hlt8 hbs.size, fun o => by have := HSZ.out.own_lt o; omega⟩, h8⟩
          clear hb8 hx8 hg8 hlt8 HSZ hbs h8 hx9 hbx K10 HF10
          generalize w8.setCells bx 0 goneS.cells = w11 at *
          clear w8
          go_upto_region 28 with (fail)
          refine wp_region_lit ?_
          iterate 3 go_step
          refine Slp.wpList_sl _ rfl bx 0 rfl goneS gone_dig (Lib.hid (range_of HB11.out.2.2)) rfl ?_
          simp only [Act.put, Act.eval, List.setIfInBounds_toArray, List.set_cons_zero, List.set_cons_succ, Nat.reduceAdd, Array.getD_eq_getD_getElem?, List.getElem?_toArray, List.getElem?_cons_succ, List.getElem?_cons_zero, Option.getD_some]
          repeat go_step
          refine (C3.out _ _ K11.out).mono ?_
          rintro e z ⟨rfl, esK12, k, t⟩
          have K12 := Lib.hid k
          have TK12 := Lib.hid t
          clear k t
          rename_i hK
          refine hK _ _ ?_
          clear hK
          have HF12 := Lib.hid (HF11.out.turn TK12.out)
          have HB12 := Lib.hid (HB11.out.turn TK12.out)
          clear K11 HF11 HB11 TK12
          go_upto_region 33 with (first
            | (go_at_call 12; refine (C4.out _ _ K12.out).mono ?_; rintro e x13 ⟨rfl, es13, k, t⟩; have K13 := Lib.hid k; have HF13 := Lib.hid (HF12.out.turn t); have HB13 := Lib.hid (HB12.out.turn t); clear k t)
            | (go_at_call 14; refine (K13.out.off).mono ?_; rintro e x14 ⟨rfl, es14, k, t⟩; have K14 := Lib.hid k; have HF14 := Lib.hid (HF13.out.turn t); have HB14 := Lib.hid (HB13.out.turn t); clear k t)
            | (go_at_call 15; refine (K14.out.on0).mono ?_; rintro e x15 ⟨rfl, es15, k, t⟩; have K15 := Lib.hid k; have HF15 := Lib.hid (HF14.out.turn t); have HB15 := Lib.hid (HB14.out.turn t); clear k t)
            | (go_at_call 8; refine (C5.out _ _ _ K15.out).mono ?_; rintro e x16 ⟨es16, g16, p16, c16, q16, rfl, k, -, -, hr, t⟩; have K16 := Lib.hid k; have HR16 := Lib.hid hr; have HF16 := Lib.hid (HF15.out.turn t); have HB16 := Lib.hid (HB15.out.turn t); clear k hr t))
          clear K12 K13 K14 K15 HF12 HF13 HF14 HF15 HB12 HB13 HB14 HB15 C3 C4 C5
          have hdr := Reg.Ext.drew x16
          have XWM := Lib.hid (K16.out.base.1.trans hdr)
          have HBR := Lib.hid (fun w' (h : Reg.Ext x16.drew w') => range_of (HB16.out.2.2.ext (hdr.trans h)))
          have HFR := Lib.hid (fun w' (h : Reg.Ext x16.drew w') => HF16.out.1.ext (hdr.trans h))
          have HRR := Lib.hid (fun w' (h : Reg.Ext x16.drew w') => HR16.out.ext (hdr.trans h))
          clear hdr K16 HR16 HF16 HB16
          refine wp_region_held (S := fun w => Reg.Ext x16.drew w) (by kernel_rfl) ?_
          change wpAnyH _ _ _ _ _ _ _ _ x16.drew
          generalize x16.drew = wm at *
          have X0 := Reg.Ext.refl wm
          obtain ⟨bm, hbm⟩ : ∃ b, wm.heap.size = b := ⟨_, rfl⟩
          refine wpAnyH_take (i := 0) rfl (by kernel_rfl) (by kernel_rfl) (by kernel_rfl) (fun _ _ _ h => h) (v := .int .i64 0) (.inl ⟨by kernel_rfl, fun w _ => by as_aux_lemma => kernel_rfl⟩) X0 ?_
          simp only [Act.put, Act.eval, List.setIfInBounds_toArray, List.set_cons_zero, List.set_cons_succ, Nat.reduceAdd, Array.getD_eq_getD_getElem?, List.getElem?_toArray, List.getElem?_cons_succ, List.getElem?_cons_zero, Option.getD_some]
          refine wpAnyH_take (i := 1) rfl (by kernel_rfl) (by kernel_rfl) (by kernel_rfl) (fun _ _ _ h => h) (v := .bool true) (.inl ⟨by kernel_rfl, fun w _ => by as_aux_lemma => kernel_rfl⟩) X0 ?_
          simp only [Act.put, Act.eval, List.setIfInBounds_toArray, List.set_cons_zero, List.set_cons_succ, Nat.reduceAdd, Array.getD_eq_getD_getElem?, List.getElem?_toArray, List.getElem?_cons_succ, List.getElem?_cons_zero, Option.getD_some]
          refine wpAnyH_take (i := 2) rfl (by kernel_rfl) (by kernel_rfl) (by kernel_rfl) (fun _ _ _ h => h) (v := .bool true) (.inl ⟨by kernel_rfl, fun w _ => by as_aux_lemma => kernel_rfl⟩) X0 ?_
          simp only [Act.put, Act.eval, List.setIfInBounds_toArray, List.set_cons_zero, List.set_cons_succ, Nat.reduceAdd, Array.getD_eq_getD_getElem?, List.getElem?_toArray, List.getElem?_cons_succ, List.getElem?_cons_zero, Option.getD_some]
          refine wpAnyH_take (i := 3) rfl (by kernel_rfl) (by kernel_rfl) (by kernel_rfl) (fun _ _ _ h => h) (v := .slice p16 ys.length c16) (.inl ⟨by kernel_rfl, fun w _ => by as_aux_lemma => kernel_rfl⟩) X0 ?_
          simp only [Act.put, Act.eval, List.setIfInBounds_toArray, List.set_cons_zero, List.set_cons_succ, Nat.reduceAdd, Array.getD_eq_getD_getElem?, List.getElem?_toArray, List.getElem?_cons_succ, List.getElem?_cons_zero, Option.getD_some]
          refine wpAnyH_take (i := 5) rfl (by kernel_rfl) (by kernel_rfl) (by kernel_rfl) (fun _ _ _ h => h) (v := .slice p8 zs.length c8) (.inl ⟨by kernel_rfl, fun w _ => by as_aux_lemma => kernel_rfl⟩) X0 ?_
          simp only [Act.put, Act.eval, List.setIfInBounds_toArray, List.set_cons_zero, List.set_cons_succ, Nat.reduceAdd, Array.getD_eq_getD_getElem?, List.getElem?_toArray, List.getElem?_cons_succ, List.getElem?_cons_zero, Option.getD_some]
          refine wpAnyH_take (i := 7) rfl (by kernel_rfl) (by kernel_rfl) (by kernel_rfl) (fun _ _ _ h => h) (v := .agg goneS.cells.toArray) (yieldsIf_load_mid (by kernel_rfl) 37 (.tmp 19) rfl bx 0 (by kernel_rfl) goneS.cells _ (fun w h => HBR.out w h) Slp.undS rfl (by rw [Slp.cells_length goneS gone_dig]; exact Slp.size38)) X0 ?_
          simp only [Act.put, Act.eval, List.setIfInBounds_toArray, List.set_cons_zero, List.set_cons_succ, Nat.reduceAdd, Array.getD_eq_getD_getElem?, List.getElem?_toArray, List.getElem?_cons_succ, List.getElem?_cons_zero, Option.getD_some]
          refine Ordd.Bx.out (?_ : Ordd.Bx (wpAnyH _ _ _ _ _ _ _ _ _))
          refine Ordd.two (i := 4) (j := 8) (by kernel_rfl) rfl rfl ?_ ?_
          · refine Ordd.any (by kernel_rfl) (.slice (some ⟨(wm).heap.size, 0, none⟩) 0 0) ((wm).alloc (.cells #[] 37)) (by kernel_rfl) ?_
            have R4 := row_empty wm bm (by rw [← hbm]; exact X0.size)
            have X4 : Reg.Ext wm ((wm).alloc (.cells #[] 37)) := X0.trans (Reg.Ext.alloc _ _)
            have E4 := Reg.Ext.alloc wm (.cells #[] 37)
            obtain ⟨r4, hr4⟩ : ∃ r, (wm).heap.size = r := ⟨_, rfl⟩
            rw [hr4] at R4 ⊢
            generalize (wm).alloc (.cells #[] 37) = w4 at *
            simp only [Act.put, Act.eval, List.setIfInBounds_toArray, List.set_cons_zero, List.set_cons_succ, Nat.reduceAdd, Array.getD_eq_getD_getElem?, List.getElem?_toArray, List.getElem?_cons_succ, List.getElem?_cons_zero, Option.getD_some]
            refine Ordd.fin X4 ?_
            refine Ordd.two (i := 6) (j := 8) (by kernel_rfl) rfl rfl ?_ ?_
            · refine Slp.h_cat (.tmp 165) (.tmp 166) rfl (.slice (some ⟨r4, 0, none⟩) 0 0) (.slice p8 zs.length c8) [] zs bm _ (by kernel_rfl) (by kernel_rfl) (HFR.out _ X4) R4 (by rw [← hbm]; exact X4.size) (by simp; omega) (by kernel_rfl) ?_
              intro v6 w6 R6 hg6
              have X6 : Reg.Ext wm w6 := Below.grown X4 hg6 X4.size fun q hq => by rw [hbm]; exact (R4.1.lt q hq).1
              simp only [Act.put, Act.eval, List.setIfInBounds_toArray, List.set_cons_zero, List.set_cons_succ, Nat.reduceAdd, Array.getD_eq_getD_getElem?, List.getElem?_toArray, List.getElem?_cons_succ, List.getElem?_cons_zero, Option.getD_some]
              refine Ordd.fin X6 ?_
              refine Ordd.one (i := 8) (by kernel_rfl) rfl ?_
              refine Slp.h_r1 (.tmp 168) rfl goneS gone_dig (by kernel_rfl) (by kernel_rfl) ?_
              intro g8' w8' hgg8' hlt8' E8' L8'
              have X8' : Reg.Ext wm w8' := X6.trans E8'
              simp only [Act.put, Act.eval, List.setIfInBounds_toArray, List.set_cons_zero, List.set_cons_succ, Nat.reduceAdd, Array.getD_eq_getD_getElem?, List.getElem?_toArray, List.getElem?_cons_succ, List.getElem?_cons_zero, Option.getD_some]
              refine Ordd.fin X8' ?_
              refine Ordd.one (i := 9) (by kernel_rfl) rfl ?_
              refine Slp.h_cat (.tmp 167) (.tmp 169) rfl v6 (.slice (some ⟨g8', 0, none⟩) 1 1) zs [goneS] bm 0 (by kernel_rfl) (by kernel_rfl) (Slp.Row.one gone_dig L8' (Nat.zero_le _)) (R6.ext E8') (by rw [← hbm]; exact X8'.size) (by simp; omega) (by kernel_rfl) ?_
              intro v9 w9 R9 hg9
              have X9 : Reg.Ext wm w9 := Below.grown X8' hg9 X8'.size fun q hq => by rw [hbm]; exact ((R6.ext E8').1.lt q hq).1
              simp only [Act.put, Act.eval, List.setIfInBounds_toArray, List.set_cons_zero, List.set_cons_succ, Nat.reduceAdd, Array.getD_eq_getD_getElem?, List.getElem?_toArray, List.getElem?_cons_succ, List.getElem?_cons_zero, Option.getD_some]
              refine Ordd.fin X9 ?_
              refine Ordd.one (i := 10) (by kernel_rfl) rfl ?_
              refine Ordd.call (by kernel_rfl) 19 #[.slice p16 ys.length c16, v9] (by kernel_rfl) (CM2.out _ _ _ (HRR.out _ X9) (by rw [HYS.out]; exact R9.rd)) (.bool true) (fun _ _ h => h.1) ?_
              intro w10 hx10
              have X10 := X9.trans hx10.2
              simp only [Act.put, Act.eval, List.setIfInBounds_toArray, List.set_cons_zero, List.set_cons_succ, Nat.reduceAdd, Array.getD_eq_getD_getElem?, List.getElem?_toArray, List.getElem?_cons_succ, List.getElem?_cons_zero, Option.getD_some]
              refine Ordd.fin X10 ?_
              refine Ordd.one (i := 11) (by kernel_rfl) rfl ?_
              refine Ordd.any (by kernel_rfl) (.bool true) w10 (by kernel_rfl) ?_
              simp only [Act.put, Act.eval, List.setIfInBounds_toArray, List.set_cons_zero, List.set_cons_succ, Nat.reduceAdd, Array.getD_eq_getD_getElem?, List.getElem?_toArray, List.getElem?_cons_succ, List.getElem?_cons_zero, Option.getD_some]
              refine Ordd.fin X10 ?_
              refine Ordd.one (i := 12) (by kernel_rfl) rfl ?_
              refine Ordd.any (by kernel_rfl) (.bool true) w10 (by kernel_rfl) ?_
              simp only [Act.put, Act.eval, List.setIfInBounds_toArray, List.set_cons_zero, List.set_cons_succ, Nat.reduceAdd, Array.getD_eq_getD_getElem?, List.getElem?_toArray, List.getElem?_cons_succ, List.getElem?_cons_zero, Option.getD_some]
              refine Ordd.fin X10 ?_
              refine Ordd.done (by kernel_rfl) ?_
              go_wp2_with fail
              go_ret
              exact ⟨rfl, XWM.out.trans X10⟩
            · refine Slp.h_r1 (.tmp 168) rfl goneS gone_dig (by kernel_rfl) (by kernel_rfl) ?_
              intro g8' w8' hgg8' hlt8' E8' L8'
              have X8' : Reg.Ext wm w8' := X4.trans E8'
              simp only [Act.put, Act.eval, List.setIfInBounds_toArray, List.set_cons_zero, List.set_cons_succ, Nat.reduceAdd, Array.getD_eq_getD_getElem?, List.getElem?_toArray, List.getElem?_cons_succ, List.getElem?_cons_zero, Option.getD_some]
              refine Ordd.fin X8' ?_
              refine Ordd.one (i := 6) (by kernel_rfl) rfl ?_
              refine Slp.h_cat (.tmp 165) (.tmp 166) rfl (.slice (some ⟨r4, 0, none⟩) 0 0) (.slice p8 zs.length c8) [] zs bm _ (by kernel_rfl) (by kernel_rfl) (HFR.out _ X8') (R4.ext E8') (by rw [← hbm]; exact X8'.size) (by simp; omega) (by kernel_rfl) ?_
              intro v6 w6 R6 hg6
              have X6 : Reg.Ext wm w6 := Below.grown X8' hg6 X8'.size fun q hq => by rw [hbm]; exact ((R4.ext E8').1.lt q hq).1
              simp only [Act.put, Act.eval, List.setIfInBounds_toArray, List.set_cons_zero, List.set_cons_succ, Nat.reduceAdd, Array.getD_eq_getD_getElem?, List.getElem?_toArray, List.getElem?_cons_succ, List.getElem?_cons_zero, Option.getD_some]
              refine Ordd.fin X6 ?_
              have L6 : Blk w6 g8' 37 goneS.cells := (hg6.block g8' hlt8' (show some g8' ≠ some r4 from Plk.ne_some (by have := (R4.1.lt r4 rfl).2; omega))).trans L8'
              refine Ordd.one (i := 9) (by kernel_rfl) rfl ?_
              refine Slp.h_cat (.tmp 167) (.tmp 169) rfl v6 (.slice (some ⟨g8', 0, none⟩) 1 1) zs [goneS] bm 0 (by kernel_rfl) (by kernel_rfl) (Slp.Row.one gone_dig L6 (Nat.zero_le _)) R6 (by rw [← hbm]; exact X6.size) (by simp; omega) (by kernel_rfl) ?_
              intro v9 w9 R9 hg9
              have X9 : Reg.Ext wm w9 := Below.grown X6 hg9 X6.size fun q hq => by rw [hbm]; exact (R6.1.lt q hq).1
              simp only [Act.put, Act.eval, List.setIfInBounds_toArray, List.set_cons_zero, List.set_cons_succ, Nat.reduceAdd, Array.getD_eq_getD_getElem?, List.getElem?_toArray, List.getElem?_cons_succ, List.getElem?_cons_zero, Option.getD_some]
              refine Ordd.fin X9 ?_
              refine Ordd.one (i := 10) (by kernel_rfl) rfl ?_
              refine Ordd.call (by kernel_rfl) 19 #[.slice p16 ys.length c16, v9] (by kernel_rfl) (CM2.out _ _ _ (HRR.out _ X9) (by rw [HYS.out]; exact R9.rd)) (.bool true) (fun _ _ h => h.1) ?_
              intro w10 hx10
              have X10 := X9.trans hx10.2
              simp only [Act.put, Act.eval, List.setIfInBounds_toArray, List.set_cons_zero, List.set_cons_succ, Nat.reduceAdd, Array.getD_eq_getD_getElem?, List.getElem?_toArray, List.getElem?_cons_succ, List.getElem?_cons_zero, Option.getD_some]
              refine Ordd.fin X10 ?_
              refine Ordd.one (i := 11) (by kernel_rfl) rfl ?_
              refine Ordd.any (by kernel_rfl) (.bool true) w10 (by kernel_rfl) ?_
              simp only [Act.put, Act.eval, List.setIfInBounds_toArray, List.set_cons_zero, List.set_cons_succ, Nat.reduceAdd, Array.getD_eq_getD_getElem?, List.getElem?_toArray, List.getElem?_cons_succ, List.getElem?_cons_zero, Option.getD_some]
              refine Ordd.fin X10 ?_
              refine Ordd.one (i := 12) (by kernel_rfl) rfl ?_
              refine Ordd.any (by kernel_rfl) (.bool true) w10 (by kernel_rfl) ?_
              simp only [Act.put, Act.eval, List.setIfInBounds_toArray, List.set_cons_zero, List.set_cons_succ, Nat.reduceAdd, Array.getD_eq_getD_getElem?, List.getElem?_toArray, List.getElem?_cons_succ, List.getElem?_cons_zero, Option.getD_some]
              refine Ordd.fin X10 ?_
              refine Ordd.done (by kernel_rfl) ?_
              go_wp2_with fail
              go_ret
              exact ⟨rfl, XWM.out.trans X10⟩
          · refine Slp.h_r1 (.tmp 168) rfl goneS gone_dig (by kernel_rfl) (by kernel_rfl) ?_
            intro g8' w8' hgg8' hlt8' E8' L8'
            have X8' : Reg.Ext wm w8' := X0.trans E8'
            simp only [Act.put, Act.eval, List.setIfInBounds_toArray, List.set_cons_zero, List.set_cons_succ, Nat.reduceAdd, Array.getD_eq_getD_getElem?, List.getElem?_toArray, List.getElem?_cons_succ, List.getElem?_cons_zero, Option.getD_some]
            refine Ordd.fin X8' ?_
            refine Ordd.one (i := 4) (by kernel_rfl) rfl ?_
            refine Ordd.any (by kernel_rfl) (.slice (some ⟨(w8').heap.size, 0, none⟩) 0 0) ((w8').alloc (.cells #[] 37)) (by kernel_rfl) ?_
            have R4 := row_empty w8' bm (by rw [← hbm]; exact X8'.size)
            have X4 : Reg.Ext wm ((w8').alloc (.cells #[] 37)) := X8'.trans (Reg.Ext.alloc _ _)
            have E4 := Reg.Ext.alloc w8' (.cells #[] 37)
            obtain ⟨r4, hr4⟩ : ∃ r, (w8').heap.size = r := ⟨_, rfl⟩
            rw [hr4] at R4 ⊢
            generalize (w8').alloc (.cells #[] 37) = w4 at *
            simp only [Act.put, Act.eval, List.setIfInBounds_toArray, List.set_cons_zero, List.set_cons_succ, Nat.reduceAdd, Array.getD_eq_getD_getElem?, List.getElem?_toArray, List.getElem?_cons_succ, List.getElem?_cons_zero, Option.getD_some]
            refine Ordd.fin X4 ?_
            refine Ordd.one (i := 6) (by kernel_rfl) rfl ?_
            refine Slp.h_cat (.tmp 165) (.tmp 166) rfl (.slice (some ⟨r4, 0, none⟩) 0 0) (.slice p8 zs.length c8) [] zs bm _ (by kernel_rfl) (by kernel_rfl) (HFR.out _ X4) R4 (by rw [← hbm]; exact X4.size) (by simp; omega) (by kernel_rfl) ?_
            intro v6 w6 R6 hg6
            have X6 : Reg.Ext wm w6 := Below.grown X4 hg6 X4.size fun q hq => by rw [hbm]; exact (R4.1.lt q hq).1
            simp only [Act.put, Act.eval, List.setIfInBounds_toArray, List.set_cons_zero, List.set_cons_succ, Nat.reduceAdd, Array.getD_eq_getD_getElem?, List.getElem?_toArray, List.getElem?_cons_succ, List.getElem?_cons_zero, Option.getD_some]
            refine Ordd.fin X6 ?_
            have L6 : Blk w6 g8' 37 goneS.cells := (hg6.block g8' (Nat.lt_of_lt_of_le hlt8' E4.size) (show some g8' ≠ some r4 from Plk.ne_some (by omega))).trans (L8'.ext E4)
            refine Ordd.one (i := 9) (by kernel_rfl) rfl ?_
            refine Slp.h_cat (.tmp 167) (.tmp 169) rfl v6 (.slice (some ⟨g8', 0, none⟩) 1 1) zs [goneS] bm 0 (by kernel_rfl) (by kernel_rfl) (Slp.Row.one gone_dig L6 (Nat.zero_le _)) R6 (by rw [← hbm]; exact X6.size) (by simp; omega) (by kernel_rfl) ?_
            intro v9 w9 R9 hg9
            have X9 : Reg.Ext wm w9 := Below.grown X6 hg9 X6.size fun q hq => by rw [hbm]; exact (R6.1.lt q hq).1
            simp only [Act.put, Act.eval, List.setIfInBounds_toArray, List.set_cons_zero, List.set_cons_succ, Nat.reduceAdd, Array.getD_eq_getD_getElem?, List.getElem?_toArray, List.getElem?_cons_succ, List.getElem?_cons_zero, Option.getD_some]
            refine Ordd.fin X9 ?_
            refine Ordd.one (i := 10) (by kernel_rfl) rfl ?_
            refine Ordd.call (by kernel_rfl) 19 #[.slice p16 ys.length c16, v9] (by kernel_rfl) (CM2.out _ _ _ (HRR.out _ X9) (by rw [HYS.out]; exact R9.rd)) (.bool true) (fun _ _ h => h.1) ?_
            intro w10 hx10
            have X10 := X9.trans hx10.2
            simp only [Act.put, Act.eval, List.setIfInBounds_toArray, List.set_cons_zero, List.set_cons_succ, Nat.reduceAdd, Array.getD_eq_getD_getElem?, List.getElem?_toArray, List.getElem?_cons_succ, List.getElem?_cons_zero, Option.getD_some]
            refine Ordd.fin X10 ?_
            refine Ordd.one (i := 11) (by kernel_rfl) rfl ?_
            refine Ordd.any (by kernel_rfl) (.bool true) w10 (by kernel_rfl) ?_
            simp only [Act.put, Act.eval, List.setIfInBounds_toArray, List.set_cons_zero, List.set_cons_succ, Nat.reduceAdd, Array.getD_eq_getD_getElem?, List.getElem?_toArray, List.getElem?_cons_succ, List.getElem?_cons_zero, Option.getD_some]
            refine Ordd.fin X10 ?_
            refine Ordd.one (i := 12) (by kernel_rfl) rfl ?_
            refine Ordd.any (by kernel_rfl) (.bool true) w10 (by kernel_rfl) ?_
            simp only [Act.put, Act.eval, List.setIfInBounds_toArray, List.set_cons_zero, List.set_cons_succ, Nat.reduceAdd, Array.getD_eq_getD_getElem?, List.getElem?_toArray, List.getElem?_cons_succ, List.getElem?_cons_zero, Option.getD_some]
            refine Ordd.fin X10 ?_
            refine Ordd.done (by kernel_rfl) ?_
            go_wp2_with fail
            go_ret
            exact ⟨rfl, XWM.out.trans X10⟩
        | false =>
          have e := HBL.out rfl
          subst e
          have CK := Lib.hid (fun (w : World) es q g (h : Lw W w d mp es q g (ky zs zs.length false)) => show Calls Tryd.prog 17 #[.pointer (some ⟨g, 0, none⟩)] w fun e w' => e = .returned (.bool false) ∧ w = w' from h.sick.mono fun _ _ h => ⟨h.1, h.2.symm⟩)
          go_upto_region 27 with (go_at_call 17; refine (CK.out _ _ _ _ K9.out).mono ?_; rintro e _ ⟨rfl, rfl⟩)
          clear CK
          have hl9 := HL9.out
          have hu9 := HU9.out
          have K10 : Hid (Lw W x9 d mp es8 ⟨d1 (frames zs) (frames zs).length, s9⟩ g8 ⟨(zs.length : Int), (zs.length : Int), ((frames zs).length : Int), false⟩) := K9
          clear K9
          have hzl : zs.length ≤ 60 := by omega
          have hfz := fit_small HFZ.out
          have hbg := body_size gone_dig gone_good
          obtain ⟨s3, E3, c3⟩ := add1 (HC9).out (frames zs) (frames zs).length (x := goneS) (y := ⟨(zs.length : Int), (zs.length : Int), ((frames zs).length : Int), false⟩) rfl gone_good (by omega)
          obtain ⟨s4, k4, E4, c4, q4, -⟩ := syn1 c3 (frames zs ++ frame (body goneS)) (frames zs).length (y := ⟨(zs.length : Int) + 1, (zs.length : Int), ((frames zs).length : Int) + ((frame (body goneS)).length : Int), false⟩) rfl
          have q4 := q4 (by show (zs.length : Int) ≠ (zs.length : Int) + 1; omega)
          subst q4
          have o3 := c3.ops
          have o4 := c4.ops
          have o0 := (HC9).out.ops
          have C3 := Lib.hid (fun (w : World) es (h : Lw W w d mp es ⟨d1 (frames zs) (frames zs).length, s9⟩ g8 ⟨(zs.length : Int), (zs.length : Int), ((frames zs).length : Int), false⟩) => h.add (fine_of _ _ (by omega) (by omega) _ _) (by show (s9).ops < big; unfold big; omega) goneS gone_dig HT.out E3)
          have C4 := Lib.hid (fun (w : World) es (h : Lw W w d mp es ⟨d1 (frames zs ++ frame (body goneS)) (frames zs).length, s3⟩ g8 ⟨(zs.length : Int) + 1, (zs.length : Int), ((frames zs).length : Int) + ((frame (body goneS)).length : Int), false⟩) => h.sync (by show s3.ops < big; unfold big; omega) E4)
          obtain ⟨ys, hys⟩ : ∃ ys, ys = zs ++ [goneS] := ⟨_, rfl⟩
          have hf5 : Fit ys := by rw [hys]; exact fit_snoc HFZ.out gone_dig gone_good
          have hl5 : ys.length ≤ 100 := by rw [hys]; simp; omega
          have he5 : frames zs ++ frame (body goneS) = frames ys := by rw [hys]; exact (Slp.frames_snoc _ _).symm
          have C5 := Lib.hid (fun (w : World) es (y : Y) (h : Lw W w d mp es (P.on ⟨d1 (frames zs ++ frame (body goneS)) (frames zs ++ frame (body goneS)).length, { s4 with off := true, ak := 0, af := 0, al := 0 }⟩ []) g8 y) => again_old (xs := ys) [] (.inl rfl) c4.room o4 (by omega) hf5 he5 hl5 HT.out h)
          have CM2 := Lib.hid (show ∀ (u v : Value) (w : World), RdS u ys w → RdS v ys w → Calls Tryd.prog 19 #[u, v] w fun e w' => e = .returned (.bool true) ∧ Reg.Ext w w' from fun u v w h1 h2 => by rw [← (Slp.sameL_iff ys ys).2 rfl]; exact Slp.same_any u v ys ys w h1 h2)
          have HYS := Lib.hid hys
          clear hys
          clear E3 E4 c3 c4 o3 o4 o0 hf5 hl5 hfz hbg he5
          refine wp_region_lit ?_
          refine Slp.wpList_val rfl (.agg goneS.cells.toArray) (by as_aux_lemma => kernel_rfl) ?_
          simp only [Act.put, Act.eval, List.setIfInBounds_toArray, List.set_cons_zero, List.set_cons_succ, Nat.reduceAdd, Array.getD_eq_getD_getElem?, List.getElem?_toArray, List.getElem?_cons_succ, List.getElem?_cons_zero, Option.getD_some]
          iterate 3 go_step
          rw [Slp.z38]
          have hb8 := Slp.boxS x9 S.none
          have hx8 := Reg.Ext.alloc x9 (Obj.cells S.none.cells.toArray 37)
          have hg8 := (K10).out.dy.out.1
          have hlt8 := hb8.lt
          have HSZ := Lib.hid (K10).out.dy.dg.dk
          generalize (x9).alloc (Obj.cells S.none.cells.toArray 37) = w8 at *
          obtain ⟨bx, hbx⟩ : ∃ b, (x9).heap.size = b := ⟨_, rfl⟩
          rw [hbx] at hb8 hg8 hlt8 ⊢
          refine wpList_store_mid rfl 37 _ _ rfl bx 0 ((goneS).cells).toArray rfl ?_ (hb8.there _ (by have e1 := Slp.cells_length _ gone_dig; have e2 := Slp.cells_length _ Slp.none_dig; rw [List.size_toArray]; omega)) (by rw [List.size_toArray, Slp.cells_length _ gone_dig]; exact Slp.size38) (all_oneCell_toArray (Slp.oneS _)) ?_
          · rfl
          simp only [List.toList_toArray]
          simp only [Act.put, Act.eval, List.setIfInBounds_toArray, List.set_cons_zero, List.set_cons_succ, Nat.reduceAdd, Array.getD_eq_getD_getElem?, List.getElem?_toArray, List.getElem?_cons_succ, List.getElem?_cons_zero, Option.getD_some]
          have hbs := But.setCells bx goneS.cells 0 w8
          have h8 := hb8.setAll goneS.cells rfl
          have hx9 : Reg.Ext x9 (w8.setCells bx 0 goneS.cells) := hx8.trans_but hbs (by omega)
          have K11 := Lib.hid ((K10).out.ext hx9)
          have HF11 := Lib.hid ((HF9).out.turn (TurnG.ext hx9))
          have HB11 : Hid (HBx (w8.setCells bx 0 goneS.cells) d mp _ g8 bx goneS) := Lib.hid ⟨by omega, ⟨Nat.lt_of_lt_of_le hlt8 hbs.size, fun o => by have := HSZ.out.own_lt o; omega⟩, h8⟩
          clear hb8 hx8 hg8 hlt8 HSZ hbs h8 hx9 hbx K10 HF9
          generalize w8.setCells bx 0 goneS.cells = w11 at *
          clear w8
          go_upto_region 28 with (fail)
          refine wp_region_lit ?_
          iterate 3 go_step
          refine Slp.wpList_sl _ rfl bx 0 rfl goneS gone_dig (Lib.hid (range_of HB11.out.2.2)) rfl ?_
          simp only [Act.put, Act.eval, List.setIfInBounds_toArray, List.set_cons_zero, List.set_cons_succ, Nat.reduceAdd, Array.getD_eq_getD_getElem?, List.getElem?_toArray, List.getElem?_cons_succ, List.getElem?_cons_zero, Option.getD_some]
          repeat go_step
          refine (C3.out _ _ K11.out).mono ?_
          rintro e z ⟨rfl, esK12, k, t⟩
          have K12 := Lib.hid k
          have TK12 := Lib.hid t
          clear k t
          rename_i hK
          refine hK _ _ ?_
          clear hK
          have HF12 := Lib.hid (HF11.out.turn TK12.out)
          have HB12 := Lib.hid (HB11.out.turn TK12.out)
          clear K11 HF11 HB11 TK12
          go_upto_region 33 with (first
            | (go_at_call 12; refine (C4.out _ _ K12.out).mono ?_; rintro e x13 ⟨rfl, es13, k, t⟩; have K13 := Lib.hid k; have HF13 := Lib.hid (HF12.out.turn t); have HB13 := Lib.hid (HB12.out.turn t); clear k t)
            | (go_at_call 14; refine (K13.out.off).mono ?_; rintro e x14 ⟨rfl, es14, k, t⟩; have K14 := Lib.hid k; have HF14 := Lib.hid (HF13.out.turn t); have HB14 := Lib.hid (HB13.out.turn t); clear k t)
            | (go_at_call 15; refine (K14.out.on0).mono ?_; rintro e x15 ⟨rfl, es15, k, t⟩; have K15 := Lib.hid k; have HF15 := Lib.hid (HF14.out.turn t); have HB15 := Lib.hid (HB14.out.turn t); clear k t)
            | (go_at_call 8; refine (C5.out _ _ _ K15.out).mono ?_; rintro e x16 ⟨es16, g16, p16, c16, q16, rfl, k, -, -, hr, t⟩; have K16 := Lib.hid k; have HR16 := Lib.hid hr; have HF16 := Lib.hid (HF15.out.turn t); have HB16 := Lib.hid (HB15.out.turn t); clear k hr t))
          clear K12 K13 K14 K15 HF12 HF13 HF14 HF15 HB12 HB13 HB14 HB15 C3 C4 C5
          have hdr := Reg.Ext.drew x16
          have XWM := Lib.hid (K16.out.base.1.trans hdr)
          have HBR := Lib.hid (fun w' (h : Reg.Ext x16.drew w') => range_of (HB16.out.2.2.ext (hdr.trans h)))
          have HFR := Lib.hid (fun w' (h : Reg.Ext x16.drew w') => HF16.out.1.ext (hdr.trans h))
          have HRR := Lib.hid (fun w' (h : Reg.Ext x16.drew w') => HR16.out.ext (hdr.trans h))
          clear hdr K16 HR16 HF16 HB16
          refine wp_region_held (S := fun w => Reg.Ext x16.drew w) (by kernel_rfl) ?_
          change wpAnyH _ _ _ _ _ _ _ _ x16.drew
          generalize x16.drew = wm at *
          have X0 := Reg.Ext.refl wm
          obtain ⟨bm, hbm⟩ : ∃ b, wm.heap.size = b := ⟨_, rfl⟩
          refine wpAnyH_take (i := 0) rfl (by kernel_rfl) (by kernel_rfl) (by kernel_rfl) (fun _ _ _ h => h) (v := .int .i64 0) (.inl ⟨by kernel_rfl, fun w _ => by as_aux_lemma => kernel_rfl⟩) X0 ?_
          simp only [Act.put, Act.eval, List.setIfInBounds_toArray, List.set_cons_zero, List.set_cons_succ, Nat.reduceAdd, Array.getD_eq_getD_getElem?, List.getElem?_toArray, List.getElem?_cons_succ, List.getElem?_cons_zero, Option.getD_some]
          refine wpAnyH_take (i := 1) rfl (by kernel_rfl) (by kernel_rfl) (by kernel_rfl) (fun _ _ _ h => h) (v := .bool true) (.inl ⟨by kernel_rfl, fun w _ => by as_aux_lemma => kernel_rfl⟩) X0 ?_
          simp only [Act.put, Act.eval, List.setIfInBounds_toArray, List.set_cons_zero, List.set_cons_succ, Nat.reduceAdd, Array.getD_eq_getD_getElem?, List.getElem?_toArray, List.getElem?_cons_succ, List.getElem?_cons_zero, Option.getD_some]
          refine wpAnyH_take (i := 2) rfl (by kernel_rfl) (by kernel_rfl) (by kernel_rfl) (fun _ _ _ h => h) (v := .bool true) (.inl ⟨by kernel_rfl, fun w _ => by as_aux_lemma => kernel_rfl⟩) X0 ?_
          simp only [Act.put, Act.eval, List.setIfInBounds_toArray, List.set_cons_zero, List.set_cons_succ, Nat.reduceAdd, Array.getD_eq_getD_getElem?, List.getElem?_toArray, List.getElem?_cons_succ, List.getElem?_cons_zero, Option.getD_some]
          refine wpAnyH_take (i := 3) rfl (by kernel_rfl) (by kernel_rfl) (by kernel_rfl) (fun _ _ _ h => h) (v := .slice p16 ys.length c16) (.inl ⟨by kernel_rfl, fun w _ => by as_aux_lemma => kernel_rfl⟩) X0 ?_
          simp only [Act.put, Act.eval, List.setIfInBounds_toArray, List.set_cons_zero, List.set_cons_succ, Nat.reduceAdd, Array.getD_eq_getD_getElem?, List.getElem?_toArray, List.getElem?_cons_succ, List.getElem?_cons_zero, Option.getD_some]
          refine wpAnyH_take (i := 5) rfl (by kernel_rfl) (by kernel_rfl) (by kernel_rfl) (fun _ _ _ h => h) (v := .slice p8 zs.length c8) (.inl ⟨by kernel_rfl, fun w _ => by as_aux_lemma => kernel_rfl⟩) X0 ?_
          simp only [Act.put, Act.eval, List.setIfInBounds_toArray, List.set_cons_zero, List.set_cons_succ, Nat.reduceAdd, Array.getD_eq_getD_getElem?, List.getElem?_toArray, List.getElem?_cons_succ, List.getElem?_cons_zero, Option.getD_some]
          refine wpAnyH_take (i := 7) rfl (by kernel_rfl) (by kernel_rfl) (by kernel_rfl) (fun _ _ _ h => h) (v := .agg goneS.cells.toArray) (yieldsIf_load_mid (by kernel_rfl) 37 (.tmp 19) rfl bx 0 (by kernel_rfl) goneS.cells _ (fun w h => HBR.out w h) Slp.undS rfl (by rw [Slp.cells_length goneS gone_dig]; exact Slp.size38)) X0 ?_
          simp only [Act.put, Act.eval, List.setIfInBounds_toArray, List.set_cons_zero, List.set_cons_succ, Nat.reduceAdd, Array.getD_eq_getD_getElem?, List.getElem?_toArray, List.getElem?_cons_succ, List.getElem?_cons_zero, Option.getD_some]
          refine Ordd.Bx.out (?_ : Ordd.Bx (wpAnyH _ _ _ _ _ _ _ _ _))
          refine Ordd.two (i := 4) (j := 8) (by kernel_rfl) rfl rfl ?_ ?_
          · refine Ordd.any (by kernel_rfl) (.slice (some ⟨(wm).heap.size, 0, none⟩) 0 0) ((wm).alloc (.cells #[] 37)) (by kernel_rfl) ?_
            have R4 := row_empty wm bm (by rw [← hbm]; exact X0.size)
            have X4 : Reg.Ext wm ((wm).alloc (.cells #[] 37)) := X0.trans (Reg.Ext.alloc _ _)
            have E4 := Reg.Ext.alloc wm (.cells #[] 37)
            obtain ⟨r4, hr4⟩ : ∃ r, (wm).heap.size = r := ⟨_, rfl⟩
            rw [hr4] at R4 ⊢
            generalize (wm).alloc (.cells #[] 37) = w4 at *
            simp only [Act.put, Act.eval, List.setIfInBounds_toArray, List.set_cons_zero, List.set_cons_succ, Nat.reduceAdd, Array.getD_eq_getD_getElem?, List.getElem?_toArray, List.getElem?_cons_succ, List.getElem?_cons_zero, Option.getD_some]
            refine Ordd.fin X4 ?_
            refine Ordd.two (i := 6) (j := 8) (by kernel_rfl) rfl rfl ?_ ?_
            · refine Slp.h_cat (.tmp 165) (.tmp 166) rfl (.slice (some ⟨r4, 0, none⟩) 0 0) (.slice p8 zs.length c8) [] zs bm _ (by kernel_rfl) (by kernel_rfl) (HFR.out _ X4) R4 (by rw [← hbm]; exact X4.size) (by simp; omega) (by kernel_rfl) ?_
              intro v6 w6 R6 hg6
              have X6 : Reg.Ext wm w6 := Below.grown X4 hg6 X4.size fun q hq => by rw [hbm]; exact (R4.1.lt q hq).1
              simp only [Act.put, Act.eval, List.setIfInBounds_toArray, List.set_cons_zero, List.set_cons_succ, Nat.reduceAdd, Array.getD_eq_getD_getElem?, List.getElem?_toArray, List.getElem?_cons_succ, List.getElem?_cons_zero, Option.getD_some]
              refine Ordd.fin X6 ?_
              refine Ordd.one (i := 8) (by kernel_rfl) rfl ?_
              refine Slp.h_r1 (.tmp 168) rfl goneS gone_dig (by kernel_rfl) (by kernel_rfl) ?_
              intro g8' w8' hgg8' hlt8' E8' L8'
              have X8' : Reg.Ext wm w8' := X6.trans E8'
              simp only [Act.put, Act.eval, List.setIfInBounds_toArray, List.set_cons_zero, List.set_cons_succ, Nat.reduceAdd, Array.getD_eq_getD_getElem?, List.getElem?_toArray, List.getElem?_cons_succ, List.getElem?_cons_zero, Option.getD_some]
              refine Ordd.fin X8' ?_
              refine Ordd.one (i := 9) (by kernel_rfl) rfl ?_
              refine Slp.h_cat (.tmp 167) (.tmp 169) rfl v6 (.slice (some ⟨g8', 0, none⟩) 1 1) zs [goneS] bm 0 (by kernel_rfl) (by kernel_rfl) (Slp.Row.one gone_dig L8' (Nat.zero_le _)) (R6.ext E8') (by rw [← hbm]; exact X8'.size) (by simp; omega) (by kernel_rfl) ?_
              intro v9 w9 R9 hg9
              have X9 : Reg.Ext wm w9 := Below.grown X8' hg9 X8'.size fun q hq => by rw [hbm]; exact ((R6.ext E8').1.lt q hq).1
              simp only [Act.put, Act.eval, List.setIfInBounds_toArray, List.set_cons_zero, List.set_cons_succ, Nat.reduceAdd, Array.getD_eq_getD_getElem?, List.getElem?_toArray, List.getElem?_cons_succ, List.getElem?_cons_zero, Option.getD_some]
              refine Ordd.fin X9 ?_
              refine Ordd.one (i := 10) (by kernel_rfl) rfl ?_
              refine Ordd.call (by kernel_rfl) 19 #[.slice p16 ys.length c16, v9] (by kernel_rfl) (CM2.out _ _ _ (HRR.out _ X9) (by rw [HYS.out]; exact R9.rd)) (.bool true) (fun _ _ h => h.1) ?_
              intro w10 hx10
              have X10 := X9.trans hx10.2
              simp only [Act.put, Act.eval, List.setIfInBounds_toArray, List.set_cons_zero, List.set_cons_succ, Nat.reduceAdd, Array.getD_eq_getD_getElem?, List.getElem?_toArray, List.getElem?_cons_succ, List.getElem?_cons_zero, Option.getD_some]
              refine Ordd.fin X10 ?_
              refine Ordd.one (i := 11) (by kernel_rfl) rfl ?_
              refine Ordd.any (by kernel_rfl) (.bool true) w10 (by kernel_rfl) ?_
              simp only [Act.put, Act.eval, List.setIfInBounds_toArray, List.set_cons_zero, List.set_cons_succ, Nat.reduceAdd, Array.getD_eq_getD_getElem?, List.getElem?_toArray, List.getElem?_cons_succ, List.getElem?_cons_zero, Option.getD_some]
              refine Ordd.fin X10 ?_
              refine Ordd.one (i := 12) (by kernel_rfl) rfl ?_
              refine Ordd.any (by kernel_rfl) (.bool true) w10 (by kernel_rfl) ?_
              simp only [Act.put, Act.eval, List.setIfInBounds_toArray, List.set_cons_zero, List.set_cons_succ, Nat.reduceAdd, Array.getD_eq_getD_getElem?, List.getElem?_toArray, List.getElem?_cons_succ, List.getElem?_cons_zero, Option.getD_some]
              refine Ordd.fin X10 ?_
              refine Ordd.done (by kernel_rfl) ?_
              go_wp2_with fail
              go_ret
              exact ⟨rfl, XWM.out.trans X10⟩
            · refine Slp.h_r1 (.tmp 168) rfl goneS gone_dig (by kernel_rfl) (by kernel_rfl) ?_
              intro g8' w8' hgg8' hlt8' E8' L8'
              have X8' : Reg.Ext wm w8' := X4.trans E8'
              simp only [Act.put, Act.eval, List.setIfInBounds_toArray, List.set_cons_zero, List.set_cons_succ, Nat.reduceAdd, Array.getD_eq_getD_getElem?, List.getElem?_toArray, List.getElem?_cons_succ, List.getElem?_cons_zero, Option.getD_some]
              refine Ordd.fin X8' ?_
              refine Ordd.one (i := 6) (by kernel_rfl) rfl ?_
              refine Slp.h_cat (.tmp 165) (.tmp 166) rfl (.slice (some ⟨r4, 0, none⟩) 0 0) (.slice p8 zs.length c8) [] zs bm _ (by kernel_rfl) (by kernel_rfl) (HFR.out _ X8') (R4.ext E8') (by rw [← hbm]; exact X8'.size) (by simp; omega) (by kernel_rfl) ?_
              intro v6 w6 R6 hg6
              have X6 : Reg.Ext wm w6 := Below.grown X8' hg6 X8'.size fun q hq => by rw [hbm]; exact ((R4.ext E8').1.lt q hq).1
              simp only [Act.put, Act.eval, List.setIfInBounds_toArray, List.set_cons_zero, List.set_cons_succ, Nat.reduceAdd, Array.getD_eq_getD_getElem?, List.getElem?_toArray, List.getElem?_cons_succ, List.getElem?_cons_zero, Option.getD_some]
              refine Ordd.fin X6 ?_
              have L6 : Blk w6 g8' 37 goneS.cells := (hg6.block g8' hlt8' (show some g8' ≠ some r4 from Plk.ne_some (by have := (R4.1.lt r4 rfl).2; omega))).trans L8'
              refine Ordd.one (i := 9) (by kernel_rfl) rfl ?_
              refine Slp.h_cat (.tmp 167) (.tmp 169) rfl v6 (.slice (some ⟨g8', 0, none⟩) 1 1) zs [goneS] bm 0 (by kernel_rfl) (by kernel_rfl) (Slp.Row.one gone_dig L6 (Nat.zero_le _)) R6 (by rw [← hbm]; exact X6.size) (by simp; omega) (by kernel_rfl) ?_
              intro v9 w9 R9 hg9
              have X9 : Reg.Ext wm w9 := Below.grown X6 hg9 X6.size fun q hq => by rw [hbm]; exact (R6.1.lt q hq).1
              simp only [Act.put, Act.eval, List.setIfInBounds_toArray, List.set_cons_zero, List.set_cons_succ, Nat.reduceAdd, Array.getD_eq_getD_getElem?, List.getElem?_toArray, List.getElem?_cons_succ, List.getElem?_cons_zero, Option.getD_some]
              refine Ordd.fin X9 ?_
              refine Ordd.one (i := 10) (by kernel_rfl) rfl ?_
              refine Ordd.call (by kernel_rfl) 19 #[.slice p16 ys.length c16, v9] (by kernel_rfl) (CM2.out _ _ _ (HRR.out _ X9) (by rw [HYS.out]; exact R9.rd)) (.bool true) (fun _ _ h => h.1) ?_
              intro w10 hx10
              have X10 := X9.trans hx10.2
              simp only [Act.put, Act.eval, List.setIfInBounds_toArray, List.set_cons_zero, List.set_cons_succ, Nat.reduceAdd, Array.getD_eq_getD_getElem?, List.getElem?_toArray, List.getElem?_cons_succ, List.getElem?_cons_zero, Option.getD_some]
              refine Ordd.fin X10 ?_
              refine Ordd.one (i := 11) (by kernel_rfl) rfl ?_
              refine Ordd.any (by kernel_rfl) (.bool true) w10 (by kernel_rfl) ?_
              simp only [Act.put, Act.eval, List.setIfInBounds_toArray, List.set_cons_zero, List.set_cons_succ, Nat.reduceAdd, Array.getD_eq_getD_getElem?, List.getElem?_toArray, List.getElem?_cons_succ, List.getElem?_cons_zero, Option.getD_some]
              refine Ordd.fin X10 ?_
              refine Ordd.one (i := 12) (by kernel_rfl) rfl ?_
              refine Ordd.any (by kernel_rfl) (.bool true) w10 (by kernel_rfl) ?_
              simp only [Act.put, Act.eval, List.setIfInBounds_toArray, List.set_cons_zero, List.set_cons_succ, Nat.reduceAdd, Array.getD_eq_getD_getElem?, List.getElem?_toArray, List.getElem?_cons_succ, List.getElem?_cons_zero, Option.getD_some]
              refine Ordd.fin X10 ?_
              refine Ordd.done (by kernel_rfl) ?_
              go_wp2_with fail
              go_ret
              exact ⟨rfl, XWM.out.trans X10⟩
          · refine Slp.h_r1 (.tmp 168) rfl goneS gone_dig (by kernel_rfl) (by kernel_rfl) ?_
            intro g8' w8' hgg8' hlt8' E8' L8'
            have X8' : Reg.Ext wm w8' := X0.trans E8'
            simp only [Act.put, Act.eval, List.setIfInBounds_toArray, List.set_cons_zero, List.set_cons_succ, Nat.reduceAdd, Array.getD_eq_getD_getElem?, List.getElem?_toArray, List.getElem?_cons_succ, List.getElem?_cons_zero, Option.getD_some]
            refine Ordd.fin X8' ?_
            refine Ordd.one (i := 4) (by kernel_rfl) rfl ?_
            refine Ordd.any (by kernel_rfl) (.slice (some ⟨(w8').heap.size, 0, none⟩) 0 0) ((w8').alloc (.cells #[] 37)) (by kernel_rfl) ?_
            have R4 := row_empty w8' bm (by rw [← hbm]; exact X8'.size)
            have X4 : Reg.Ext wm ((w8').alloc (.cells #[] 37)) := X8'.trans (Reg.Ext.alloc _ _)
            have E4 := Reg.Ext.alloc w8' (.cells #[] 37)
            obtain ⟨r4, hr4⟩ : ∃ r, (w8').heap.size = r := ⟨_, rfl⟩
            rw [hr4] at R4 ⊢
            generalize (w8').alloc (.cells #[] 37) = w4 at *
            simp only [Act.put, Act.eval, List.setIfInBounds_toArray, List.set_cons_zero, List.set_cons_succ, Nat.reduceAdd, Array.getD_eq_getD_getElem?, List.getElem?_toArray, List.getElem?_cons_succ, List.getElem?_cons_zero, Option.getD_some]
            refine Ordd.fin X4 ?_
            refine Ordd.one (i := 6) (by kernel_rfl) rfl ?_
            refine Slp.h_cat (.tmp 165) (.tmp 166) rfl (.slice (some ⟨r4, 0, none⟩) 0 0) (.slice p8 zs.length c8) [] zs bm _ (by kernel_rfl) (by kernel_rfl) (HFR.out _ X4) R4 (by rw [← hbm]; exact X4.size) (by simp; omega) (by kernel_rfl) ?_
            intro v6 w6 R6 hg6
            have X6 : Reg.Ext wm w6 := Below.grown X4 hg6 X4.size fun q hq => by rw [hbm]; exact (R4.1.lt q hq).1
            simp only [Act.put, Act.eval, List.setIfInBounds_toArray, List.set_cons_zero, List.set_cons_succ, Nat.reduceAdd, Array.getD_eq_getD_getElem?, List.getElem?_toArray, List.getElem?_cons_succ, List.getElem?_cons_zero, Option.getD_some]
            refine Ordd.fin X6 ?_
            have L6 : Blk w6 g8' 37 goneS.cells := (hg6.block g8' (Nat.lt_of_lt_of_le hlt8' E4.size) (show some g8' ≠ some r4 from Plk.ne_some (by omega))).trans (L8'.ext E4)
            refine Ordd.one (i := 9) (by kernel_rfl) rfl ?_
            refine Slp.h_cat (.tmp 167) (.tmp 169) rfl v6 (.slice (some ⟨g8', 0, none⟩) 1 1) zs [goneS] bm 0 (by kernel_rfl) (by kernel_rfl) (Slp.Row.one gone_dig L6 (Nat.zero_le _)) R6 (by rw [← hbm]; exact X6.size) (by simp; omega) (by kernel_rfl) ?_
            intro v9 w9 R9 hg9
            have X9 : Reg.Ext wm w9 := Below.grown X6 hg9 X6.size fun q hq => by rw [hbm]; exact (R6.1.lt q hq).1
            simp only [Act.put, Act.eval, List.setIfInBounds_toArray, List.set_cons_zero, List.set_cons_succ, Nat.reduceAdd, Array.getD_eq_getD_getElem?, List.getElem?_toArray, List.getElem?_cons_succ, List.getElem?_cons_zero, Option.getD_some]
            refine Ordd.fin X9 ?_
            refine Ordd.one (i := 10) (by kernel_rfl) rfl ?_
            refine Ordd.call (by kernel_rfl) 19 #[.slice p16 ys.length c16, v9] (by kernel_rfl) (CM2.out _ _ _ (HRR.out _ X9) (by rw [HYS.out]; exact R9.rd)) (.bool true) (fun _ _ h => h.1) ?_
            intro w10 hx10
            have X10 := X9.trans hx10.2
            simp only [Act.put, Act.eval, List.setIfInBounds_toArray, List.set_cons_zero, List.set_cons_succ, Nat.reduceAdd, Array.getD_eq_getD_getElem?, List.getElem?_toArray, List.getElem?_cons_succ, List.getElem?_cons_zero, Option.getD_some]
            refine Ordd.fin X10 ?_
            refine Ordd.one (i := 11) (by kernel_rfl) rfl ?_
            refine Ordd.any (by kernel_rfl) (.bool true) w10 (by kernel_rfl) ?_
            simp only [Act.put, Act.eval, List.setIfInBounds_toArray, List.set_cons_zero, List.set_cons_succ, Nat.reduceAdd, Array.getD_eq_getD_getElem?, List.getElem?_toArray, List.getElem?_cons_succ, List.getElem?_cons_zero, Option.getD_some]
            refine Ordd.fin X10 ?_
            refine Ordd.one (i := 12) (by kernel_rfl) rfl ?_
            refine Ordd.any (by kernel_rfl) (.bool true) w10 (by kernel_rfl) ?_
            simp only [Act.put, Act.eval, List.setIfInBounds_toArray, List.set_cons_zero, List.set_cons_succ, Nat.reduceAdd, Array.getD_eq_getD_getElem?, List.getElem?_toArray, List.getElem?_cons_succ, List.getElem?_cons_zero, Option.getD_some]
            refine Ordd.fin X10 ?_
            refine Ordd.done (by kernel_rfl) ?_
            go_wp2_with fail
            go_ret
            exact ⟨rfl, XWM.out.trans X10⟩
    · have hke : k = xs.length := by omega
      subst hke
      obtain ⟨pw, cw, hv, hcw, hpw⟩ := Row.cap (HW).out.1
      subst hv
      obtain ⟨l, zs, b2, s9, u9, E, i1, i2, ez, a1, a2, c9, hl, hu, hbl⟩ := kept_on (HK).out (by omega) keep
      have HON := Lib.hid (show ∀ (w : World) es y, Lw W w d mp es (P.on ⟨(kp ws sure s).fs, { s with off := true, ak := 0, af := 0, al := 0 }⟩ [keep]) g y → _ from fun w es y h => open_wide h (by rw [onk_ops]; have := (HK).out.ops; unfold big; omega) E (by omega) HT.out a1 a2)
      have HE2 := Lib.hid ez
      have HC9 := Lib.hid c9
      have HU9 := Lib.hid hu
      have HBL := Lib.hid hbl
      have HL9 := Lib.hid hl
      have HFZ : Hid (Fit zs) := Lib.hid (by rw [← ez]; exact fun y hy => (HK).out.fit y (List.mem_of_mem_take hy))
      have CSU := Lib.hid (fun (w : World) d mp es q g (ws : List S) (n : Nat) b (h : Lw W w d mp es q g (ky ws n b)) => show Calls Tryd.prog 13 #[.pointer (some ⟨g, 0, none⟩)] w fun e w' => e = .returned (.int .i64 (n : Int)) ∧ w = w' from h.sure.mono fun _ _ h => ⟨h.1, h.2.symm⟩)
      have dz : decide (zs.length < sure) = false := by rw [decide_eq_false_iff_not]; omega
      clear E a1 a2 c9 hl hu hbl ez
      go_upto_region 25 with (first
        | fail
        | (go_at_call 13; ((with_reducible refine (CSU.out _ _ _ _ _ _ _ _ _ (K).out).mono ?_); rintro e _ ⟨rfl, rfl⟩))
        | (go_at_call 14; refine ((K).out.off).mono ?_; rintro e x6 ⟨rfl, es6, k, t⟩; have K6 := Lib.hid k; have HW6 := Lib.hid ((HW).out.turn t); clear k t)
        | (go_at_call 15; refine (K6.out.on1 keep).mono ?_; rintro e x7 ⟨rfl, es7, k, t⟩; have K7 := Lib.hid k; have HW7 := Lib.hid ((HW6.out.turn (TurnG.ext (Reg.Ext.alloc _ _))).turn t); clear k t)
        | (go_at_call 8; refine (HON.out _ _ _ K7.out).mono ?_; rintro e x8 ⟨es8, g8, p8, c8, rfl, k, hh, t⟩; have K8 := Lib.hid k; have HF8 := Lib.hid hh; have HW8 := Lib.hid (HW7.out.turn (.of t)); clear k hh t)
        | (go_at_call 16; refine (begins_any pw cw hpw _ ws zs _ HW8.out.rd hcw HF8.out.rd i2 HE2.out (by omega)).mono ?_; rintro e x9 ⟨rfl, hx9⟩; have K9 := Lib.hid (K8.out.ext hx9); have HF9 := Lib.hid (HF8.out.turn (TurnG.ext hx9)); clear hx9)
        | (go_at_call 13; ((with_reducible refine (CSU.out _ _ _ _ _ _ _ _ _ K9.out).mono ?_); rintro e _ ⟨rfl, rfl⟩)))
      clear K6 K7 K8 HW6 HW7 HW8 HF8 HON K HW HK
      cases b2 with
      | true =>
        have hfz2 := fit_small HFZ.out
        obtain ⟨s2, E2, c2⟩ := rew1 HC9.out l l.length (ky zs zs.length true) zs (fit_good HFZ.out) (by have := HL9.out; rw [HU9.out]; omega)
        have CR := Lib.hid (fun (w : World) es (h : Lw W w d mp es ⟨d1 l l.length, s9⟩ g8 (ky zs zs.length true)) (u : Value) (hr : RdS u zs w) => h.rew (by have := HC9.out.ops; show s9.ops + 5 < big; unfold big; omega) zs u hr (by omega) HT.out E2)
        have CK := Lib.hid (fun (w : World) es q g (h : Lw W w d mp es q g (ky zs zs.length true)) => show Calls Tryd.prog 17 #[.pointer (some ⟨g, 0, none⟩)] w fun e w' => e = .returned (.bool true) ∧ w = w' from h.sick.mono fun _ _ h => ⟨h.1, h.2.symm⟩)
        have C10 := Lib.hid c2
        have HU10 : Hid ((u9 : Int) + (frames zs).length - l.length ≤ 200000) := Lib.hid (by have := HL9.out; rw [HU9.out]; omega)
        clear E2 c2
        go_upto_region 27 with (first
          | (go_at_call 17; refine (CK.out _ _ _ _ K9.out).mono ?_; rintro e _ ⟨rfl, rfl⟩)
          | (go_at_call 18; refine (CR.out _ _ K9.out _ HF9.out.rd).mono ?_; rintro e x10 ⟨rfl, es10, k, t⟩; have K10 := Lib.hid k; have HF10 := Lib.hid (HF9.out.turn t); clear k t))
        clear K9 HF9 CR CK
        have hu10 := HU10.out
        have hzl : zs.length ≤ 60 := by omega
        have hfz := fit_small HFZ.out
        have hbg := body_size gone_dig gone_good
        obtain ⟨s3, E3, c3⟩ := add1 (C10).out (frames zs) (frames zs).length (x := goneS) (y := ⟨(zs.length : Int), (zs.length : Int), ((frames zs).length : Int), false⟩) rfl gone_good (by omega)
        obtain ⟨s4, k4, E4, c4, q4, -⟩ := syn1 c3 (frames zs ++ frame (body goneS)) (frames zs).length (y := ⟨(zs.length : Int) + 1, (zs.length : Int), ((frames zs).length : Int) + ((frame (body goneS)).length : Int), false⟩) rfl
        have q4 := q4 (by show (zs.length : Int) ≠ (zs.length : Int) + 1; omega)
        subst q4
        have o3 := c3.ops
        have o4 := c4.ops
        have o0 := (C10).out.ops
        have C3 := Lib.hid (fun (w : World) es (h : Lw W w d mp es ⟨d1 (frames zs) (frames zs).length, s2⟩ g8 ⟨(zs.length : Int), (zs.length : Int), ((frames zs).length : Int), false⟩) => h.add (fine_of _ _ (by omega) (by omega) _ _) (by show (s2).ops < big; unfold big; omega) goneS gone_dig HT.out E3)
        have C4 := Lib.hid (fun (w : World) es (h : Lw W w d mp es ⟨d1 (frames zs ++ frame (body goneS)) (frames zs).length, s3⟩ g8 ⟨(zs.length : Int) + 1, (zs.length : Int), ((frames zs).length : Int) + ((frame (body goneS)).length : Int), false⟩) => h.sync (by show s3.ops < big; unfold big; omega) E4)
        obtain ⟨ys, hys⟩ : ∃ ys, ys = zs ++ [goneS] := ⟨_, rfl⟩
        have hf5 : Fit ys := by rw [hys]; exact fit_snoc HFZ.out gone_dig gone_good
        have hl5 : ys.length ≤ 100 := by rw [hys]; simp; omega
        have he5 : frames zs ++ frame (body goneS) = frames ys := by rw [hys]; exact (Slp.frames_snoc _ _).symm
        have C5 := Lib.hid (fun (w : World) es (y : Y) (h : Lw W w d mp es (P.on ⟨d1 (frames zs ++ frame (body goneS)) (frames zs ++ frame (body goneS)).length, { s4 with off := true, ak := 0, af := 0, al := 0 }⟩ []) g8 y) => again_old (xs := ys) [] (.inl rfl) c4.room o4 (by omega) hf5 he5 hl5 HT.out h)
        have CM2 := Lib.hid (show ∀ (u v : Value) (w : World), RdS u ys w → RdS v ys w → Calls Tryd.prog 19 #[u, v] w fun e w' => e = .returned (.bool true) ∧ Reg.Ext w w' from fun u v w h1 h2 => by rw [← (Slp.sameL_iff ys ys).2 rfl]; exact Slp.same_any u v ys ys w h1 h2)
        have HYS := Lib.hid hys
        clear hys
        clear E3 E4 c3 c4 o3 o4 o0 hf5 hl5 hfz hbg he5
        refine wp_region_lit ?_
        refine Slp.wpList_val rfl (.agg goneS.cells.toArray) (by as_aux_lemma => kernel_rfl) ?_
        simp only [Act.put, Act.eval, List.setIfInBounds_toArray, List.set_cons_zero, List.set_cons_succ, Nat.reduceAdd, Array.getD_eq_getD_getElem?, List.getElem?_toArray, List.getElem?_cons_succ, List.getElem?_cons_zero, Option.getD_some]
        iterate 3 go_step
        rw [Slp.z38]
        have hb8 := Slp.boxS x10 S.none
        have hx8 := Reg.Ext.alloc x10 (Obj.cells S.none.cells.toArray 37)
        have hg8 := (K10).out.dy.out.1
        have hlt8 := hb8.lt
        have HSZ := Lib.hid (K10).out.dy.dg.dk
        generalize (x10).alloc (Obj.cells S.none.cells.toArray 37) = w8 at *
        obtain ⟨bx, hbx⟩ : ∃ b, (x10).heap.size = b := ⟨_, rfl⟩
        rw [hbx] at hb8 hg8 hlt8 ⊢
        refine wpList_store_mid rfl 37 _ _ rfl bx 0 ((goneS).cells).toArray rfl ?_ (hb8.there _ (by have e1 := Slp.cells_length _ gone_dig; have e2 := Slp.cells_length _ Slp.none_dig; rw [List.size_toArray]; omega)) (by rw [List.size_toArray, Slp.cells_length _ gone_dig]; exact Slp.size38) (all_oneCell_toArray (Slp.oneS _)) ?_
        · rfl
        simp only [List.toList_toArray]
        simp only [Act.put, Act.eval, List.setIfInBounds_toArray, List.set_cons_zero, List.set_cons_succ, Nat.reduceAdd, Array.getD_eq_getD_getElem?, List.getElem?_toArray, List.getElem?_cons_succ, List.getElem?_cons_zero, Option.getD_some]
        have hbs := But.setCells bx goneS.cells 0 w8
        have h8 := hb8.setAll goneS.cells rfl
        have hx9 : Reg.Ext x10 (w8.setCells bx 0 goneS.cells) := hx8.trans_but hbs (by omega)
        have K11 := Lib.hid ((K10).out.ext hx9)
        have HF11 := Lib.hid ((HF10).out.turn (TurnG.ext hx9))
        have HB11 : Hid (HBx (w8.setCells bx 0 goneS.cells) d mp _ g8 bx goneS) := Lib.hid ⟨by omega, ⟨Nat.lt_of_lt_of_le hlt8 hbs.size, fun o => by have := HSZ.out.own_lt o; omega⟩, h8⟩
        clear hb8 hx8 hg8 hlt8 HSZ hbs h8 hx9 hbx K10 HF10
        generalize w8.setCells bx 0 goneS.cells = w11 at *
        clear w8
        go_upto_region 28 with (fail)
        refine wp_region_lit ?_
        iterate 3 go_step
        refine Slp.wpList_sl _ rfl bx 0 rfl goneS gone_dig (Lib.hid (range_of HB11.out.2.2)) rfl ?_
        simp only [Act.put, Act.eval, List.setIfInBounds_toArray, List.set_cons_zero, List.set_cons_succ, Nat.reduceAdd, Array.getD_eq_getD_getElem?, List.getElem?_toArray, List.getElem?_cons_succ, List.getElem?_cons_zero, Option.getD_some]
        repeat go_step
        refine (C3.out _ _ K11.out).mono ?_
        rintro e z ⟨rfl, esK12, k, t⟩
        have K12 := Lib.hid k
        have TK12 := Lib.hid t
        clear k t
        rename_i hK
        refine hK _ _ ?_
        clear hK
        have HF12 := Lib.hid (HF11.out.turn TK12.out)
        have HB12 := Lib.hid (HB11.out.turn TK12.out)
        clear K11 HF11 HB11 TK12
        go_upto_region 33 with (first
          | (go_at_call 12; refine (C4.out _ _ K12.out).mono ?_; rintro e x13 ⟨rfl, es13, k, t⟩; have K13 := Lib.hid k; have HF13 := Lib.hid (HF12.out.turn t); have HB13 := Lib.hid (HB12.out.turn t); clear k t)
          | (go_at_call 14; refine (K13.out.off).mono ?_; rintro e x14 ⟨rfl, es14, k, t⟩; have K14 := Lib.hid k; have HF14 := Lib.hid (HF13.out.turn t); have HB14 := Lib.hid (HB13.out.turn t); clear k t)
          | (go_at_call 15; refine (K14.out.on0).mono ?_; rintro e x15 ⟨rfl, es15, k, t⟩; have K15 := Lib.hid k; have HF15 := Lib.hid (HF14.out.turn t); have HB15 := Lib.hid (HB14.out.turn t); clear k t)
          | (go_at_call 8; refine (C5.out _ _ _ K15.out).mono ?_; rintro e x16 ⟨es16, g16, p16, c16, q16, rfl, k, -, -, hr, t⟩; have K16 := Lib.hid k; have HR16 := Lib.hid hr; have HF16 := Lib.hid (HF15.out.turn t); have HB16 := Lib.hid (HB15.out.turn t); clear k hr t))
        clear K12 K13 K14 K15 HF12 HF13 HF14 HF15 HB12 HB13 HB14 HB15 C3 C4 C5
        have hdr := Reg.Ext.drew x16
        have XWM := Lib.hid (K16.out.base.1.trans hdr)
        have HBR := Lib.hid (fun w' (h : Reg.Ext x16.drew w') => range_of (HB16.out.2.2.ext (hdr.trans h)))
        have HFR := Lib.hid (fun w' (h : Reg.Ext x16.drew w') => HF16.out.1.ext (hdr.trans h))
        have HRR := Lib.hid (fun w' (h : Reg.Ext x16.drew w') => HR16.out.ext (hdr.trans h))
        clear hdr K16 HR16 HF16 HB16
        refine wp_region_held (S := fun w => Reg.Ext x16.drew w) (by kernel_rfl) ?_
        change wpAnyH _ _ _ _ _ _ _ _ x16.drew
        generalize x16.drew = wm at *
        have X0 := Reg.Ext.refl wm
        obtain ⟨bm, hbm⟩ : ∃ b, wm.heap.size = b := ⟨_, rfl⟩
        refine wpAnyH_take (i := 0) rfl (by kernel_rfl) (by kernel_rfl) (by kernel_rfl) (fun _ _ _ h => h) (v := .int .i64 0) (.inl ⟨by kernel_rfl, fun w _ => by as_aux_lemma => kernel_rfl⟩) X0 ?_
        simp only [Act.put, Act.eval, List.setIfInBounds_toArray, List.set_cons_zero, List.set_cons_succ, Nat.reduceAdd, Array.getD_eq_getD_getElem?, List.getElem?_toArray, List.getElem?_cons_succ, List.getElem?_cons_zero, Option.getD_some]
        refine wpAnyH_take (i := 1) rfl (by kernel_rfl) (by kernel_rfl) (by kernel_rfl) (fun _ _ _ h => h) (v := .bool true) (.inl ⟨by kernel_rfl, fun w _ => by as_aux_lemma => kernel_rfl⟩) X0 ?_
        simp only [Act.put, Act.eval, List.setIfInBounds_toArray, List.set_cons_zero, List.set_cons_succ, Nat.reduceAdd, Array.getD_eq_getD_getElem?, List.getElem?_toArray, List.getElem?_cons_succ, List.getElem?_cons_zero, Option.getD_some]
        refine wpAnyH_take (i := 2) rfl (by kernel_rfl) (by kernel_rfl) (by kernel_rfl) (fun _ _ _ h => h) (v := .bool true) (.inl ⟨by kernel_rfl, fun w _ => by as_aux_lemma => kernel_rfl⟩) X0 ?_
        simp only [Act.put, Act.eval, List.setIfInBounds_toArray, List.set_cons_zero, List.set_cons_succ, Nat.reduceAdd, Array.getD_eq_getD_getElem?, List.getElem?_toArray, List.getElem?_cons_succ, List.getElem?_cons_zero, Option.getD_some]
        refine wpAnyH_take (i := 3) rfl (by kernel_rfl) (by kernel_rfl) (by kernel_rfl) (fun _ _ _ h => h) (v := .slice p16 ys.length c16) (.inl ⟨by kernel_rfl, fun w _ => by as_aux_lemma => kernel_rfl⟩) X0 ?_
        simp only [Act.put, Act.eval, List.setIfInBounds_toArray, List.set_cons_zero, List.set_cons_succ, Nat.reduceAdd, Array.getD_eq_getD_getElem?, List.getElem?_toArray, List.getElem?_cons_succ, List.getElem?_cons_zero, Option.getD_some]
        refine wpAnyH_take (i := 5) rfl (by kernel_rfl) (by kernel_rfl) (by kernel_rfl) (fun _ _ _ h => h) (v := .slice p8 zs.length c8) (.inl ⟨by kernel_rfl, fun w _ => by as_aux_lemma => kernel_rfl⟩) X0 ?_
        simp only [Act.put, Act.eval, List.setIfInBounds_toArray, List.set_cons_zero, List.set_cons_succ, Nat.reduceAdd, Array.getD_eq_getD_getElem?, List.getElem?_toArray, List.getElem?_cons_succ, List.getElem?_cons_zero, Option.getD_some]
        refine wpAnyH_take (i := 7) rfl (by kernel_rfl) (by kernel_rfl) (by kernel_rfl) (fun _ _ _ h => h) (v := .agg goneS.cells.toArray) (yieldsIf_load_mid (by kernel_rfl) 37 (.tmp 19) rfl bx 0 (by kernel_rfl) goneS.cells _ (fun w h => HBR.out w h) Slp.undS rfl (by rw [Slp.cells_length goneS gone_dig]; exact Slp.size38)) X0 ?_
        simp only [Act.put, Act.eval, List.setIfInBounds_toArray, List.set_cons_zero, List.set_cons_succ, Nat.reduceAdd, Array.getD_eq_getD_getElem?, List.getElem?_toArray, List.getElem?_cons_succ, List.getElem?_cons_zero, Option.getD_some]
        refine Ordd.Bx.out (?_ : Ordd.Bx (wpAnyH _ _ _ _ _ _ _ _ _))
        refine Ordd.two (i := 4) (j := 8) (by kernel_rfl) rfl rfl ?_ ?_
        · refine Ordd.any (by kernel_rfl) (.slice (some ⟨(wm).heap.size, 0, none⟩) 0 0) ((wm).alloc (.cells #[] 37)) (by kernel_rfl) ?_
          have R4 := row_empty wm bm (by rw [← hbm]; exact X0.size)
          have X4 : Reg.Ext wm ((wm).alloc (.cells #[] 37)) := X0.trans (Reg.Ext.alloc _ _)
          have E4 := Reg.Ext.alloc wm (.cells #[] 37)
          obtain ⟨r4, hr4⟩ : ∃ r, (wm).heap.size = r := ⟨_, rfl⟩
          rw [hr4] at R4 ⊢
          generalize (wm).alloc (.cells #[] 37) = w4 at *
          simp only [Act.put, Act.eval, List.setIfInBounds_toArray, List.set_cons_zero, List.set_cons_succ, Nat.reduceAdd, Array.getD_eq_getD_getElem?, List.getElem?_toArray, List.getElem?_cons_succ, List.getElem?_cons_zero, Option.getD_some]
          refine Ordd.fin X4 ?_
          refine Ordd.two (i := 6) (j := 8) (by kernel_rfl) rfl rfl ?_ ?_
          · refine Slp.h_cat (.tmp 165) (.tmp 166) rfl (.slice (some ⟨r4, 0, none⟩) 0 0) (.slice p8 zs.length c8) [] zs bm _ (by kernel_rfl) (by kernel_rfl) (HFR.out _ X4) R4 (by rw [← hbm]; exact X4.size) (by simp; omega) (by kernel_rfl) ?_
            intro v6 w6 R6 hg6
            have X6 : Reg.Ext wm w6 := Below.grown X4 hg6 X4.size fun q hq => by rw [hbm]; exact (R4.1.lt q hq).1
            simp only [Act.put, Act.eval, List.setIfInBounds_toArray, List.set_cons_zero, List.set_cons_succ, Nat.reduceAdd, Array.getD_eq_getD_getElem?, List.getElem?_toArray, List.getElem?_cons_succ, List.getElem?_cons_zero, Option.getD_some]
            refine Ordd.fin X6 ?_
            refine Ordd.one (i := 8) (by kernel_rfl) rfl ?_
            refine Slp.h_r1 (.tmp 168) rfl goneS gone_dig (by kernel_rfl) (by kernel_rfl) ?_
            intro g8' w8' hgg8' hlt8' E8' L8'
            have X8' : Reg.Ext wm w8' := X6.trans E8'
            simp only [Act.put, Act.eval, List.setIfInBounds_toArray, List.set_cons_zero, List.set_cons_succ, Nat.reduceAdd, Array.getD_eq_getD_getElem?, List.getElem?_toArray, List.getElem?_cons_succ, List.getElem?_cons_zero, Option.getD_some]
            refine Ordd.fin X8' ?_
            refine Ordd.one (i := 9) (by kernel_rfl) rfl ?_
            refine Slp.h_cat (.tmp 167) (.tmp 169) rfl v6 (.slice (some ⟨g8', 0, none⟩) 1 1) zs [goneS] bm 0 (by kernel_rfl) (by kernel_rfl) (Slp.Row.one gone_dig L8' (Nat.zero_le _)) (R6.ext E8') (by rw [← hbm]; exact X8'.size) (by simp; omega) (by kernel_rfl) ?_
            intro v9 w9 R9 hg9
            have X9 : Reg.Ext wm w9 := Below.grown X8' hg9 X8'.size fun q hq => by rw [hbm]; exact ((R6.ext E8').1.lt q hq).1
            simp only [Act.put, Act.eval, List.setIfInBounds_toArray, List.set_cons_zero, List.set_cons_succ, Nat.reduceAdd, Array.getD_eq_getD_getElem?, List.getElem?_toArray, List.getElem?_cons_succ, List.getElem?_cons_zero, Option.getD_some]
            refine Ordd.fin X9 ?_
            refine Ordd.one (i := 10) (by kernel_rfl) rfl ?_
            refine Ordd.call (by kernel_rfl) 19 #[.slice p16 ys.length c16, v9] (by kernel_rfl) (CM2.out _ _ _ (HRR.out _ X9) (by rw [HYS.out]; exact R9.rd)) (.bool true) (fun _ _ h => h.1) ?_
            intro w10 hx10
            have X10 := X9.trans hx10.2
            simp only [Act.put, Act.eval, List.setIfInBounds_toArray, List.set_cons_zero, List.set_cons_succ, Nat.reduceAdd, Array.getD_eq_getD_getElem?, List.getElem?_toArray, List.getElem?_cons_succ, List.getElem?_cons_zero, Option.getD_some]
            refine Ordd.fin X10 ?_
            refine Ordd.one (i := 11) (by kernel_rfl) rfl ?_
            refine Ordd.any (by kernel_rfl) (.bool true) w10 (by kernel_rfl) ?_
            simp only [Act.put, Act.eval, List.setIfInBounds_toArray, List.set_cons_zero, List.set_cons_succ, Nat.reduceAdd, Array.getD_eq_getD_getElem?, List.getElem?_toArray, List.getElem?_cons_succ, List.getElem?_cons_zero, Option.getD_some]
            refine Ordd.fin X10 ?_
            refine Ordd.one (i := 12) (by kernel_rfl) rfl ?_
            refine Ordd.any (by kernel_rfl) (.bool true) w10 (by kernel_rfl) ?_
            simp only [Act.put, Act.eval, List.setIfInBounds_toArray, List.set_cons_zero, List.set_cons_succ, Nat.reduceAdd, Array.getD_eq_getD_getElem?, List.getElem?_toArray, List.getElem?_cons_succ, List.getElem?_cons_zero, Option.getD_some]
            refine Ordd.fin X10 ?_
            refine Ordd.done (by kernel_rfl) ?_
            go_wp2_with fail
            go_ret
            exact ⟨rfl, XWM.out.trans X10⟩
          · refine Slp.h_r1 (.tmp 168) rfl goneS gone_dig (by kernel_rfl) (by kernel_rfl) ?_
            intro g8' w8' hgg8' hlt8' E8' L8'
            have X8' : Reg.Ext wm w8' := X4.trans E8'
            simp only [Act.put, Act.eval, List.setIfInBounds_toArray, List.set_cons_zero, List.set_cons_succ, Nat.reduceAdd, Array.getD_eq_getD_getElem?, List.getElem?_toArray, List.getElem?_cons_succ, List.getElem?_cons_zero, Option.getD_some]
            refine Ordd.fin X8' ?_
            refine Ordd.one (i := 6) (by kernel_rfl) rfl ?_
            refine Slp.h_cat (.tmp 165) (.tmp 166) rfl (.slice (some ⟨r4, 0, none⟩) 0 0) (.slice p8 zs.length c8) [] zs bm _ (by kernel_rfl) (by kernel_rfl) (HFR.out _ X8') (R4.ext E8') (by rw [← hbm]; exact X8'.size) (by simp; omega) (by kernel_rfl) ?_
            intro v6 w6 R6 hg6
            have X6 : Reg.Ext wm w6 := Below.grown X8' hg6 X8'.size fun q hq => by rw [hbm]; exact ((R4.ext E8').1.lt q hq).1
            simp only [Act.put, Act.eval, List.setIfInBounds_toArray, List.set_cons_zero, List.set_cons_succ, Nat.reduceAdd, Array.getD_eq_getD_getElem?, List.getElem?_toArray, List.getElem?_cons_succ, List.getElem?_cons_zero, Option.getD_some]
            refine Ordd.fin X6 ?_
            have L6 : Blk w6 g8' 37 goneS.cells := (hg6.block g8' hlt8' (show some g8' ≠ some r4 from Plk.ne_some (by have := (R4.1.lt r4 rfl).2; omega))).trans L8'
            refine Ordd.one (i := 9) (by kernel_rfl) rfl ?_
            refine Slp.h_cat (.tmp 167) (.tmp 169) rfl v6 (.slice (some ⟨g8', 0, none⟩) 1 1) zs [goneS] bm 0 (by kernel_rfl) (by kernel_rfl) (Slp.Row.one gone_dig L6 (Nat.zero_le _)) R6 (by rw [← hbm]; exact X6.size) (by simp; omega) (by kernel_rfl) ?_
            intro v9 w9 R9 hg9
            have X9 : Reg.Ext wm w9 := Below.grown X6 hg9 X6.size fun q hq => by rw [hbm]; exact (R6.1.lt q hq).1
            simp only [Act.put, Act.eval, List.setIfInBounds_toArray, List.set_cons_zero, List.set_cons_succ, Nat.reduceAdd, Array.getD_eq_getD_getElem?, List.getElem?_toArray, List.getElem?_cons_succ, List.getElem?_cons_zero, Option.getD_some]
            refine Ordd.fin X9 ?_
            refine Ordd.one (i := 10) (by kernel_rfl) rfl ?_
            refine Ordd.call (by kernel_rfl) 19 #[.slice p16 ys.length c16, v9] (by kernel_rfl) (CM2.out _ _ _ (HRR.out _ X9) (by rw [HYS.out]; exact R9.rd)) (.bool true) (fun _ _ h => h.1) ?_
            intro w10 hx10
            have X10 := X9.trans hx10.2
            simp only [Act.put, Act.eval, List.setIfInBounds_toArray, List.set_cons_zero, List.set_cons_succ, Nat.reduceAdd, Array.getD_eq_getD_getElem?, List.getElem?_toArray, List.getElem?_cons_succ, List.getElem?_cons_zero, Option.getD_some]
            refine Ordd.fin X10 ?_
            refine Ordd.one (i := 11) (by kernel_rfl) rfl ?_
            refine Ordd.any (by kernel_rfl) (.bool true) w10 (by kernel_rfl) ?_
            simp only [Act.put, Act.eval, List.setIfInBounds_toArray, List.set_cons_zero, List.set_cons_succ, Nat.reduceAdd, Array.getD_eq_getD_getElem?, List.getElem?_toArray, List.getElem?_cons_succ, List.getElem?_cons_zero, Option.getD_some]
            refine Ordd.fin X10 ?_
            refine Ordd.one (i := 12) (by kernel_rfl) rfl ?_
            refine Ordd.any (by kernel_rfl) (.bool true) w10 (by kernel_rfl) ?_
            simp only [Act.put, Act.eval, List.setIfInBounds_toArray, List.set_cons_zero, List.set_cons_succ, Nat.reduceAdd, Array.getD_eq_getD_getElem?, List.getElem?_toArray, List.getElem?_cons_succ, List.getElem?_cons_zero, Option.getD_some]
            refine Ordd.fin X10 ?_
            refine Ordd.done (by kernel_rfl) ?_
            go_wp2_with fail
            go_ret
            exact ⟨rfl, XWM.out.trans X10⟩
        · refine Slp.h_r1 (.tmp 168) rfl goneS gone_dig (by kernel_rfl) (by kernel_rfl) ?_
          intro g8' w8' hgg8' hlt8' E8' L8'
          have X8' : Reg.Ext wm w8' := X0.trans E8'
          simp only [Act.put, Act.eval, List.setIfInBounds_toArray, List.set_cons_zero, List.set_cons_succ, Nat.reduceAdd, Array.getD_eq_getD_getElem?, List.getElem?_toArray, List.getElem?_cons_succ, List.getElem?_cons_zero, Option.getD_some]
          refine Ordd.fin X8' ?_
          refine Ordd.one (i := 4) (by kernel_rfl) rfl ?_
          refine Ordd.any (by kernel_rfl) (.slice (some ⟨(w8').heap.size, 0, none⟩) 0 0) ((w8').alloc (.cells #[] 37)) (by kernel_rfl) ?_
          have R4 := row_empty w8' bm (by rw [← hbm]; exact X8'.size)
          have X4 : Reg.Ext wm ((w8').alloc (.cells #[] 37)) := X8'.trans (Reg.Ext.alloc _ _)
          have E4 := Reg.Ext.alloc w8' (.cells #[] 37)
          obtain ⟨r4, hr4⟩ : ∃ r, (w8').heap.size = r := ⟨_, rfl⟩
          rw [hr4] at R4 ⊢
          generalize (w8').alloc (.cells #[] 37) = w4 at *
          simp only [Act.put, Act.eval, List.setIfInBounds_toArray, List.set_cons_zero, List.set_cons_succ, Nat.reduceAdd, Array.getD_eq_getD_getElem?, List.getElem?_toArray, List.getElem?_cons_succ, List.getElem?_cons_zero, Option.getD_some]
          refine Ordd.fin X4 ?_
          refine Ordd.one (i := 6) (by kernel_rfl) rfl ?_
          refine Slp.h_cat (.tmp 165) (.tmp 166) rfl (.slice (some ⟨r4, 0, none⟩) 0 0) (.slice p8 zs.length c8) [] zs bm _ (by kernel_rfl) (by kernel_rfl) (HFR.out _ X4) R4 (by rw [← hbm]; exact X4.size) (by simp; omega) (by kernel_rfl) ?_
          intro v6 w6 R6 hg6
          have X6 : Reg.Ext wm w6 := Below.grown X4 hg6 X4.size fun q hq => by rw [hbm]; exact (R4.1.lt q hq).1
          simp only [Act.put, Act.eval, List.setIfInBounds_toArray, List.set_cons_zero, List.set_cons_succ, Nat.reduceAdd, Array.getD_eq_getD_getElem?, List.getElem?_toArray, List.getElem?_cons_succ, List.getElem?_cons_zero, Option.getD_some]
          refine Ordd.fin X6 ?_
          have L6 : Blk w6 g8' 37 goneS.cells := (hg6.block g8' (Nat.lt_of_lt_of_le hlt8' E4.size) (show some g8' ≠ some r4 from Plk.ne_some (by omega))).trans (L8'.ext E4)
          refine Ordd.one (i := 9) (by kernel_rfl) rfl ?_
          refine Slp.h_cat (.tmp 167) (.tmp 169) rfl v6 (.slice (some ⟨g8', 0, none⟩) 1 1) zs [goneS] bm 0 (by kernel_rfl) (by kernel_rfl) (Slp.Row.one gone_dig L6 (Nat.zero_le _)) R6 (by rw [← hbm]; exact X6.size) (by simp; omega) (by kernel_rfl) ?_
          intro v9 w9 R9 hg9
          have X9 : Reg.Ext wm w9 := Below.grown X6 hg9 X6.size fun q hq => by rw [hbm]; exact (R6.1.lt q hq).1
          simp only [Act.put, Act.eval, List.setIfInBounds_toArray, List.set_cons_zero, List.set_cons_succ, Nat.reduceAdd, Array.getD_eq_getD_getElem?, List.getElem?_toArray, List.getElem?_cons_succ, List.getElem?_cons_zero, Option.getD_some]
          refine Ordd.fin X9 ?_
          refine Ordd.one (i := 10) (by kernel_rfl) rfl ?_
          refine Ordd.call (by kernel_rfl) 19 #[.slice p16 ys.length c16, v9] (by kernel_rfl) (CM2.out _ _ _ (HRR.out _ X9) (by rw [HYS.out]; exact R9.rd)) (.bool true) (fun _ _ h => h.1) ?_
          intro w10 hx10
          have X10 := X9.trans hx10.2
          simp only [Act.put, Act.eval, List.setIfInBounds_toArray, List.set_cons_zero, List.set_cons_succ, Nat.reduceAdd, Array.getD_eq_getD_getElem?, List.getElem?_toArray, List.getElem?_cons_succ, List.getElem?_cons_zero, Option.getD_some]
          refine Ordd.fin X10 ?_
          refine Ordd.one (i := 11) (by kernel_rfl) rfl ?_
          refine Ordd.any (by kernel_rfl) (.bool true) w10 (by kernel_rfl) ?_
          simp only [Act.put, Act.eval, List.setIfInBounds_toArray, List.set_cons_zero, List.set_cons_succ, Nat.reduceAdd, Array.getD_eq_getD_getElem?, List.getElem?_toArray, List.getElem?_cons_succ, List.getElem?_cons_zero, Option.getD_some]
          refine Ordd.fin X10 ?_
          refine Ordd.one (i := 12) (by kernel_rfl) rfl ?_
          refine Ordd.any (by kernel_rfl) (.bool true) w10 (by kernel_rfl) ?_
          simp only [Act.put, Act.eval, List.setIfInBounds_toArray, List.set_cons_zero, List.set_cons_succ, Nat.reduceAdd, Array.getD_eq_getD_getElem?, List.getElem?_toArray, List.getElem?_cons_succ, List.getElem?_cons_zero, Option.getD_some]
          refine Ordd.fin X10 ?_
          refine Ordd.done (by kernel_rfl) ?_
          go_wp2_with fail
          go_ret
          exact ⟨rfl, XWM.out.trans X10⟩
      | false =>
        have e := HBL.out rfl
        subst e
        have CK := Lib.hid (fun (w : World) es q g (h : Lw W w d mp es q g (ky zs zs.length false)) => show Calls Tryd.prog 17 #[.pointer (some ⟨g, 0, none⟩)] w fun e w' => e = .returned (.bool false) ∧ w = w' from h.sick.mono fun _ _ h => ⟨h.1, h.2.symm⟩)
        go_upto_region 27 with (go_at_call 17; refine (CK.out _ _ _ _ K9.out).mono ?_; rintro e _ ⟨rfl, rfl⟩)
        clear CK
        have hl9 := HL9.out
        have hu9 := HU9.out
        have K10 : Hid (Lw W x9 d mp es8 ⟨d1 (frames zs) (frames zs).length, s9⟩ g8 ⟨(zs.length : Int), (zs.length : Int), ((frames zs).length : Int), false⟩) := K9
        clear K9
        have hzl : zs.length ≤ 60 := by omega
        have hfz := fit_small HFZ.out
        have hbg := body_size gone_dig gone_good
        obtain ⟨s3, E3, c3⟩ := add1 (HC9).out (frames zs) (frames zs).length (x := goneS) (y := ⟨(zs.length : Int), (zs.length : Int), ((frames zs).length : Int), false⟩) rfl gone_good (by omega)
        obtain ⟨s4, k4, E4, c4, q4, -⟩ := syn1 c3 (frames zs ++ frame (body goneS)) (frames zs).length (y := ⟨(zs.length : Int) + 1, (zs.length : Int), ((frames zs).length : Int) + ((frame (body goneS)).length : Int), false⟩) rfl
        have q4 := q4 (by show (zs.length : Int) ≠ (zs.length : Int) + 1; omega)
        subst q4
        have o3 := c3.ops
        have o4 := c4.ops
        have o0 := (HC9).out.ops
        have C3 := Lib.hid (fun (w : World) es (h : Lw W w d mp es ⟨d1 (frames zs) (frames zs).length, s9⟩ g8 ⟨(zs.length : Int), (zs.length : Int), ((frames zs).length : Int), false⟩) => h.add (fine_of _ _ (by omega) (by omega) _ _) (by show (s9).ops < big; unfold big; omega) goneS gone_dig HT.out E3)
        have C4 := Lib.hid (fun (w : World) es (h : Lw W w d mp es ⟨d1 (frames zs ++ frame (body goneS)) (frames zs).length, s3⟩ g8 ⟨(zs.length : Int) + 1, (zs.length : Int), ((frames zs).length : Int) + ((frame (body goneS)).length : Int), false⟩) => h.sync (by show s3.ops < big; unfold big; omega) E4)
        obtain ⟨ys, hys⟩ : ∃ ys, ys = zs ++ [goneS] := ⟨_, rfl⟩
        have hf5 : Fit ys := by rw [hys]; exact fit_snoc HFZ.out gone_dig gone_good
        have hl5 : ys.length ≤ 100 := by rw [hys]; simp; omega
        have he5 : frames zs ++ frame (body goneS) = frames ys := by rw [hys]; exact (Slp.frames_snoc _ _).symm
        have C5 := Lib.hid (fun (w : World) es (y : Y) (h : Lw W w d mp es (P.on ⟨d1 (frames zs ++ frame (body goneS)) (frames zs ++ frame (body goneS)).length, { s4 with off := true, ak := 0, af := 0, al := 0 }⟩ []) g8 y) => again_old (xs := ys) [] (.inl rfl) c4.room o4 (by omega) hf5 he5 hl5 HT.out h)
        have CM2 := Lib.hid (show ∀ (u v : Value) (w : World), RdS u ys w → RdS v ys w → Calls Tryd.prog 19 #[u, v] w fun e w' => e = .returned (.bool true) ∧ Reg.Ext w w' from fun u v w h1 h2 => by rw [← (Slp.sameL_iff ys ys).2 rfl]; exact Slp.same_any u v ys ys w h1 h2)
        have HYS := Lib.hid hys
        clear hys
        clear E3 E4 c3 c4 o3 o4 o0 hf5 hl5 hfz hbg he5
        refine wp_region_lit ?_
        refine Slp.wpList_val rfl (.agg goneS.cells.toArray) (by as_aux_lemma => kernel_rfl) ?_
        simp only [Act.put, Act.eval, List.setIfInBounds_toArray, List.set_cons_zero, List.set_cons_succ, Nat.reduceAdd, Array.getD_eq_getD_getElem?, List.getElem?_toArray, List.getElem?_cons_succ, List.getElem?_cons_zero, Option.getD_some]
        iterate 3 go_step
        rw [Slp.z38]
        have hb8 := Slp.boxS x9 S.none
        have hx8 := Reg.Ext.alloc x9 (Obj.cells S.none.cells.toArray 37)
        have hg8 := (K10).out.dy.out.1
        have hlt8 := hb8.lt
        have HSZ := Lib.hid (K10).out.dy.dg.dk
        generalize (x9).alloc (Obj.cells S.none.cells.toArray 37) = w8 at *
        obtain ⟨bx, hbx⟩ : ∃ b, (x9).heap.size = b := ⟨_, rfl⟩
        rw [hbx] at hb8 hg8 hlt8 ⊢
        refine wpList_store_mid rfl 37 _ _ rfl bx 0 ((goneS).cells).toArray rfl ?_ (hb8.there _ (by have e1 := Slp.cells_length _ gone_dig; have e2 := Slp.cells_length _ Slp.none_dig; rw [List.size_toArray]; omega)) (by rw [List.size_toArray, Slp.cells_length _ gone_dig]; exact Slp.size38) (all_oneCell_toArray (Slp.oneS _)) ?_
        · rfl
        simp only [List.toList_toArray]
        simp only [Act.put, Act.eval, List.setIfInBounds_toArray, List.set_cons_zero, List.set_cons_succ, Nat.reduceAdd, Array.getD_eq_getD_getElem?, List.getElem?_toArray, List.getElem?_cons_succ, List.getElem?_cons_zero, Option.getD_some]
        have hbs := But.setCells bx goneS.cells 0 w8
        have h8 := hb8.setAll goneS.cells rfl
        have hx9 : Reg.Ext x9 (w8.setCells bx 0 goneS.cells) := hx8.trans_but hbs (by omega)
        have K11 := Lib.hid ((K10).out.ext hx9)
        have HF11 := Lib.hid ((HF9).out.turn (TurnG.ext hx9))
        have HB11 : Hid (HBx (w8.setCells bx 0 goneS.cells) d mp _ g8 bx goneS) := Lib.hid ⟨by omega, ⟨Nat.lt_of_lt_of_le hlt8 hbs.size, fun o => by have := HSZ.out.own_lt o; omega⟩, h8⟩
        clear hb8 hx8 hg8 hlt8 HSZ hbs h8 hx9 hbx K10 HF9
        generalize w8.setCells bx 0 goneS.cells = w11 at *
        clear w8
        go_upto_region 28 with (fail)
        refine wp_region_lit ?_
        iterate 3 go_step
        refine Slp.wpList_sl _ rfl bx 0 rfl goneS gone_dig (Lib.hid (range_of HB11.out.2.2)) rfl ?_
        simp only [Act.put, Act.eval, List.setIfInBounds_toArray, List.set_cons_zero, List.set_cons_succ, Nat.reduceAdd, Array.getD_eq_getD_getElem?, List.getElem?_toArray, List.getElem?_cons_succ, List.getElem?_cons_zero, Option.getD_some]
        repeat go_step
        refine (C3.out _ _ K11.out).mono ?_
        rintro e z ⟨rfl, esK12, k, t⟩
        have K12 := Lib.hid k
        have TK12 := Lib.hid t
        clear k t
        rename_i hK
        refine hK _ _ ?_
        clear hK
        have HF12 := Lib.hid (HF11.out.turn TK12.out)
        have HB12 := Lib.hid (HB11.out.turn TK12.out)
        clear K11 HF11 HB11 TK12
        go_upto_region 33 with (first
          | (go_at_call 12; refine (C4.out _ _ K12.out).mono ?_; rintro e x13 ⟨rfl, es13, k, t⟩; have K13 := Lib.hid k; have HF13 := Lib.hid (HF12.out.turn t); have HB13 := Lib.hid (HB12.out.turn t); clear k t)
          | (go_at_call 14; refine (K13.out.off).mono ?_; rintro e x14 ⟨rfl, es14, k, t⟩; have K14 := Lib.hid k; have HF14 := Lib.hid (HF13.out.turn t); have HB14 := Lib.hid (HB13.out.turn t); clear k t)
          | (go_at_call 15; refine (K14.out.on0).mono ?_; rintro e x15 ⟨rfl, es15, k, t⟩; have K15 := Lib.hid k; have HF15 := Lib.hid (HF14.out.turn t); have HB15 := Lib.hid (HB14.out.turn t); clear k t)
          | (go_at_call 8; refine (C5.out _ _ _ K15.out).mono ?_; rintro e x16 ⟨es16, g16, p16, c16, q16, rfl, k, -, -, hr, t⟩; have K16 := Lib.hid k; have HR16 := Lib.hid hr; have HF16 := Lib.hid (HF15.out.turn t); have HB16 := Lib.hid (HB15.out.turn t); clear k hr t))
        clear K12 K13 K14 K15 HF12 HF13 HF14 HF15 HB12 HB13 HB14 HB15 C3 C4 C5
        have hdr := Reg.Ext.drew x16
        have XWM := Lib.hid (K16.out.base.1.trans hdr)
        have HBR := Lib.hid (fun w' (h : Reg.Ext x16.drew w') => range_of (HB16.out.2.2.ext (hdr.trans h)))
        have HFR := Lib.hid (fun w' (h : Reg.Ext x16.drew w') => HF16.out.1.ext (hdr.trans h))
        have HRR := Lib.hid (fun w' (h : Reg.Ext x16.drew w') => HR16.out.ext (hdr.trans h))
        clear hdr K16 HR16 HF16 HB16
        refine wp_region_held (S := fun w => Reg.Ext x16.drew w) (by kernel_rfl) ?_
        change wpAnyH _ _ _ _ _ _ _ _ x16.drew
        generalize x16.drew = wm at *
        have X0 := Reg.Ext.refl wm
        obtain ⟨bm, hbm⟩ : ∃ b, wm.heap.size = b := ⟨_, rfl⟩
        refine wpAnyH_take (i := 0) rfl (by kernel_rfl) (by kernel_rfl) (by kernel_rfl) (fun _ _ _ h => h) (v := .int .i64 0) (.inl ⟨by kernel_rfl, fun w _ => by as_aux_lemma => kernel_rfl⟩) X0 ?_
        simp only [Act.put, Act.eval, List.setIfInBounds_toArray, List.set_cons_zero, List.set_cons_succ, Nat.reduceAdd, Array.getD_eq_getD_getElem?, List.getElem?_toArray, List.getElem?_cons_succ, List.getElem?_cons_zero, Option.getD_some]
        refine wpAnyH_take (i := 1) rfl (by kernel_rfl) (by kernel_rfl) (by kernel_rfl) (fun _ _ _ h => h) (v := .bool true) (.inl ⟨by kernel_rfl, fun w _ => by as_aux_lemma => kernel_rfl⟩) X0 ?_
        simp only [Act.put, Act.eval, List.setIfInBounds_toArray, List.set_cons_zero, List.set_cons_succ, Nat.reduceAdd, Array.getD_eq_getD_getElem?, List.getElem?_toArray, List.getElem?_cons_succ, List.getElem?_cons_zero, Option.getD_some]
        refine wpAnyH_take (i := 2) rfl (by kernel_rfl) (by kernel_rfl) (by kernel_rfl) (fun _ _ _ h => h) (v := .bool true) (.inl ⟨by kernel_rfl, fun w _ => by as_aux_lemma => kernel_rfl⟩) X0 ?_
        simp only [Act.put, Act.eval, List.setIfInBounds_toArray, List.set_cons_zero, List.set_cons_succ, Nat.reduceAdd, Array.getD_eq_getD_getElem?, List.getElem?_toArray, List.getElem?_cons_succ, List.getElem?_cons_zero, Option.getD_some]
        refine wpAnyH_take (i := 3) rfl (by kernel_rfl) (by kernel_rfl) (by kernel_rfl) (fun _ _ _ h => h) (v := .slice p16 ys.length c16) (.inl ⟨by kernel_rfl, fun w _ => by as_aux_lemma => kernel_rfl⟩) X0 ?_
        simp only [Act.put, Act.eval, List.setIfInBounds_toArray, List.set_cons_zero, List.set_cons_succ, Nat.reduceAdd, Array.getD_eq_getD_getElem?, List.getElem?_toArray, List.getElem?_cons_succ, List.getElem?_cons_zero, Option.getD_some]
        refine wpAnyH_take (i := 5) rfl (by kernel_rfl) (by kernel_rfl) (by kernel_rfl) (fun _ _ _ h => h) (v := .slice p8 zs.length c8) (.inl ⟨by kernel_rfl, fun w _ => by as_aux_lemma => kernel_rfl⟩) X0 ?_
        simp only [Act.put, Act.eval, List.setIfInBounds_toArray, List.set_cons_zero, List.set_cons_succ, Nat.reduceAdd, Array.getD_eq_getD_getElem?, List.getElem?_toArray, List.getElem?_cons_succ, List.getElem?_cons_zero, Option.getD_some]
        refine wpAnyH_take (i := 7) rfl (by kernel_rfl) (by kernel_rfl) (by kernel_rfl) (fun _ _ _ h => h) (v := .agg goneS.cells.toArray) (yieldsIf_load_mid (by kernel_rfl) 37 (.tmp 19) rfl bx 0 (by kernel_rfl) goneS.cells _ (fun w h => HBR.out w h) Slp.undS rfl (by rw [Slp.cells_length goneS gone_dig]; exact Slp.size38)) X0 ?_
        simp only [Act.put, Act.eval, List.setIfInBounds_toArray, List.set_cons_zero, List.set_cons_succ, Nat.reduceAdd, Array.getD_eq_getD_getElem?, List.getElem?_toArray, List.getElem?_cons_succ, List.getElem?_cons_zero, Option.getD_some]
        refine Ordd.Bx.out (?_ : Ordd.Bx (wpAnyH _ _ _ _ _ _ _ _ _))
        refine Ordd.two (i := 4) (j := 8) (by kernel_rfl) rfl rfl ?_ ?_
        · refine Ordd.any (by kernel_rfl) (.slice (some ⟨(wm).heap.size, 0, none⟩) 0 0) ((wm).alloc (.cells #[] 37)) (by kernel_rfl) ?_
          have R4 := row_empty wm bm (by rw [← hbm]; exact X0.size)
          have X4 : Reg.Ext wm ((wm).alloc (.cells #[] 37)) := X0.trans (Reg.Ext.alloc _ _)
          have E4 := Reg.Ext.alloc wm (.cells #[] 37)
          obtain ⟨r4, hr4⟩ : ∃ r, (wm).heap.size = r := ⟨_, rfl⟩
          rw [hr4] at R4 ⊢
          generalize (wm).alloc (.cells #[] 37) = w4 at *
          simp only [Act.put, Act.eval, List.setIfInBounds_toArray, List.set_cons_zero, List.set_cons_succ, Nat.reduceAdd, Array.getD_eq_getD_getElem?, List.getElem?_toArray, List.getElem?_cons_succ, List.getElem?_cons_zero, Option.getD_some]
          refine Ordd.fin X4 ?_
          refine Ordd.two (i := 6) (j := 8) (by kernel_rfl) rfl rfl ?_ ?_
          · refine Slp.h_cat (.tmp 165) (.tmp 166) rfl (.slice (some ⟨r4, 0, none⟩) 0 0) (.slice p8 zs.length c8) [] zs bm _ (by kernel_rfl) (by kernel_rfl) (HFR.out _ X4) R4 (by rw [← hbm]; exact X4.size) (by simp; omega) (by kernel_rfl) ?_
            intro v6 w6 R6 hg6
            have X6 : Reg.Ext wm w6 := Below.grown X4 hg6 X4.size fun q hq => by rw [hbm]; exact (R4.1.lt q hq).1
            simp only [Act.put, Act.eval, List.setIfInBounds_toArray, List.set_cons_zero, List.set_cons_succ, Nat.reduceAdd, Array.getD_eq_getD_getElem?, List.getElem?_toArray, List.getElem?_cons_succ, List.getElem?_cons_zero, Option.getD_some]
            refine Ordd.fin X6 ?_
            refine Ordd.one (i := 8) (by kernel_rfl) rfl ?_
            refine Slp.h_r1 (.tmp 168) rfl goneS gone_dig (by kernel_rfl) (by kernel_rfl) ?_
            intro g8' w8' hgg8' hlt8' E8' L8'
            have X8' : Reg.Ext wm w8' := X6.trans E8'
            simp only [Act.put, Act.eval, List.setIfInBounds_toArray, List.set_cons_zero, List.set_cons_succ, Nat.reduceAdd, Array.getD_eq_getD_getElem?, List.getElem?_toArray, List.getElem?_cons_succ, List.getElem?_cons_zero, Option.getD_some]
            refine Ordd.fin X8' ?_
            refine Ordd.one (i := 9) (by kernel_rfl) rfl ?_
            refine Slp.h_cat (.tmp 167) (.tmp 169) rfl v6 (.slice (some ⟨g8', 0, none⟩) 1 1) zs [goneS] bm 0 (by kernel_rfl) (by kernel_rfl) (Slp.Row.one gone_dig L8' (Nat.zero_le _)) (R6.ext E8') (by rw [← hbm]; exact X8'.size) (by simp; omega) (by kernel_rfl) ?_
            intro v9 w9 R9 hg9
            have X9 : Reg.Ext wm w9 := Below.grown X8' hg9 X8'.size fun q hq => by rw [hbm]; exact ((R6.ext E8').1.lt q hq).1
            simp only [Act.put, Act.eval, List.setIfInBounds_toArray, List.set_cons_zero, List.set_cons_succ, Nat.reduceAdd, Array.getD_eq_getD_getElem?, List.getElem?_toArray, List.getElem?_cons_succ, List.getElem?_cons_zero, Option.getD_some]
            refine Ordd.fin X9 ?_
            refine Ordd.one (i := 10) (by kernel_rfl) rfl ?_
            refine Ordd.call (by kernel_rfl) 19 #[.slice p16 ys.length c16, v9] (by kernel_rfl) (CM2.out _ _ _ (HRR.out _ X9) (by rw [HYS.out]; exact R9.rd)) (.bool true) (fun _ _ h => h.1) ?_
            intro w10 hx10
            have X10 := X9.trans hx10.2
            simp only [Act.put, Act.eval, List.setIfInBounds_toArray, List.set_cons_zero, List.set_cons_succ, Nat.reduceAdd, Array.getD_eq_getD_getElem?, List.getElem?_toArray, List.getElem?_cons_succ, List.getElem?_cons_zero, Option.getD_some]
            refine Ordd.fin X10 ?_
            refine Ordd.one (i := 11) (by kernel_rfl) rfl ?_
            refine Ordd.any (by kernel_rfl) (.bool true) w10 (by kernel_rfl) ?_
            simp only [Act.put, Act.eval, List.setIfInBounds_toArray, List.set_cons_zero, List.set_cons_succ, Nat.reduceAdd, Array.getD_eq_getD_getElem?, List.getElem?_toArray, List.getElem?_cons_succ, List.getElem?_cons_zero, Option.getD_some]
            refine Ordd.fin X10 ?_
            refine Ordd.one (i := 12) (by kernel_rfl) rfl ?_
            refine Ordd.any (by kernel_rfl) (.bool true) w10 (by kernel_rfl) ?_
            simp only [Act.put, Act.eval, List.setIfInBounds_toArray, List.set_cons_zero, List.set_cons_succ, Nat.reduceAdd, Array.getD_eq_getD_getElem?, List.getElem?_toArray, List.getElem?_cons_succ, List.getElem?_cons_zero, Option.getD_some]
            refine Ordd.fin X10 ?_
            refine Ordd.done (by kernel_rfl) ?_
            go_wp2_with fail
            go_ret
            exact ⟨rfl, XWM.out.trans X10⟩
          · refine Slp.h_r1 (.tmp 168) rfl goneS gone_dig (by kernel_rfl) (by kernel_rfl) ?_
            intro g8' w8' hgg8' hlt8' E8' L8'
            have X8' : Reg.Ext wm w8' := X4.trans E8'
            simp only [Act.put, Act.eval, List.setIfInBounds_toArray, List.set_cons_zero, List.set_cons_succ, Nat.reduceAdd, Array.getD_eq_getD_getElem?, List.getElem?_toArray, List.getElem?_cons_succ, List.getElem?_cons_zero, Option.getD_some]
            refine Ordd.fin X8' ?_
            refine Ordd.one (i := 6) (by kernel_rfl) rfl ?_
            refine Slp.h_cat (.tmp 165) (.tmp 166) rfl (.slice (some ⟨r4, 0, none⟩) 0 0) (.slice p8 zs.length c8) [] zs bm _ (by kernel_rfl) (by kernel_rfl) (HFR.out _ X8') (R4.ext E8') (by rw [← hbm]; exact X8'.size) (by simp; omega) (by kernel_rfl) ?_
            intro v6 w6 R6 hg6
            have X6 : Reg.Ext wm w6 := Below.grown X8' hg6 X8'.size fun q hq => by rw [hbm]; exact ((R4.ext E8').1.lt q hq).1
            simp only [Act.put, Act.eval, List.setIfInBounds_toArray, List.set_cons_zero, List.set_cons_succ, Nat.reduceAdd, Array.getD_eq_getD_getElem?, List.getElem?_toArray, List.getElem?_cons_succ, List.getElem?_cons_zero, Option.getD_some]
            refine Ordd.fin X6 ?_
            have L6 : Blk w6 g8' 37 goneS.cells := (hg6.block g8' hlt8' (show some g8' ≠ some r4 from Plk.ne_some (by have := (R4.1.lt r4 rfl).2; omega))).trans L8'
            refine Ordd.one (i := 9) (by kernel_rfl) rfl ?_
            refine Slp.h_cat (.tmp 167) (.tmp 169) rfl v6 (.slice (some ⟨g8', 0, none⟩) 1 1) zs [goneS] bm 0 (by kernel_rfl) (by kernel_rfl) (Slp.Row.one gone_dig L6 (Nat.zero_le _)) R6 (by rw [← hbm]; exact X6.size) (by simp; omega) (by kernel_rfl) ?_
            intro v9 w9 R9 hg9
            have X9 : Reg.Ext wm w9 := Below.grown X6 hg9 X6.size fun q hq => by rw [hbm]; exact (R6.1.lt q hq).1
            simp only [Act.put, Act.eval, List.setIfInBounds_toArray, List.set_cons_zero, List.set_cons_succ, Nat.reduceAdd, Array.getD_eq_getD_getElem?, List.getElem?_toArray, List.getElem?_cons_succ, List.getElem?_cons_zero, Option.getD_some]
            refine Ordd.fin X9 ?_
            refine Ordd.one (i := 10) (by kernel_rfl) rfl ?_
            refine Ordd.call (by kernel_rfl) 19 #[.slice p16 ys.length c16, v9] (by kernel_rfl) (CM2.out _ _ _ (HRR.out _ X9) (by rw [HYS.out]; exact R9.rd)) (.bool true) (fun _ _ h => h.1) ?_
            intro w10 hx10
            have X10 := X9.trans hx10.2
            simp only [Act.put, Act.eval, List.setIfInBounds_toArray, List.set_cons_zero, List.set_cons_succ, Nat.reduceAdd, Array.getD_eq_getD_getElem?, List.getElem?_toArray, List.getElem?_cons_succ, List.getElem?_cons_zero, Option.getD_some]
            refine Ordd.fin X10 ?_
            refine Ordd.one (i := 11) (by kernel_rfl) rfl ?_
            refine Ordd.any (by kernel_rfl) (.bool true) w10 (by kernel_rfl) ?_
            simp only [Act.put, Act.eval, List.setIfInBounds_toArray, List.set_cons_zero, List.set_cons_succ, Nat.reduceAdd, Array.getD_eq_getD_getElem?, List.getElem?_toArray, List.getElem?_cons_succ, List.getElem?_cons_zero, Option.getD_some]
            refine Ordd.fin X10 ?_
            refine Ordd.one (i := 12) (by kernel_rfl) rfl ?_
            refine Ordd.any (by kernel_rfl) (.bool true) w10 (by kernel_rfl) ?_
            simp only [Act.put, Act.eval, List.setIfInBounds_toArray, List.set_cons_zero, List.set_cons_succ, Nat.reduceAdd, Array.getD_eq_getD_getElem?, List.getElem?_toArray, List.getElem?_cons_succ, List.getElem?_cons_zero, Option.getD_some]
            refine Ordd.fin X10 ?_
            refine Ordd.done (by kernel_rfl) ?_
            go_wp2_with fail
            go_ret
            exact ⟨rfl, XWM.out.trans X10⟩
        · refine Slp.h_r1 (.tmp 168) rfl goneS gone_dig (by kernel_rfl) (by kernel_rfl) ?_
          intro g8' w8' hgg8' hlt8' E8' L8'
          have X8' : Reg.Ext wm w8' := X0.trans E8'
          simp only [Act.put, Act.eval, List.setIfInBounds_toArray, List.set_cons_zero, List.set_cons_succ, Nat.reduceAdd, Array.getD_eq_getD_getElem?, List.getElem?_toArray, List.getElem?_cons_succ, List.getElem?_cons_zero, Option.getD_some]
          refine Ordd.fin X8' ?_
          refine Ordd.one (i := 4) (by kernel_rfl) rfl ?_
          refine Ordd.any (by kernel_rfl) (.slice (some ⟨(w8').heap.size, 0, none⟩) 0 0) ((w8').alloc (.cells #[] 37)) (by kernel_rfl) ?_
          have R4 := row_empty w8' bm (by rw [← hbm]; exact X8'.size)
          have X4 : Reg.Ext wm ((w8').alloc (.cells #[] 37)) := X8'.trans (Reg.Ext.alloc _ _)
          have E4 := Reg.Ext.alloc w8' (.cells #[] 37)
          obtain ⟨r4, hr4⟩ : ∃ r, (w8').heap.size = r := ⟨_, rfl⟩
          rw [hr4] at R4 ⊢
          generalize (w8').alloc (.cells #[] 37) = w4 at *
          simp only [Act.put, Act.eval, List.setIfInBounds_toArray, List.set_cons_zero, List.set_cons_succ, Nat.reduceAdd, Array.getD_eq_getD_getElem?, List.getElem?_toArray, List.getElem?_cons_succ, List.getElem?_cons_zero, Option.getD_some]
          refine Ordd.fin X4 ?_
          refine Ordd.one (i := 6) (by kernel_rfl) rfl ?_
          refine Slp.h_cat (.tmp 165) (.tmp 166) rfl (.slice (some ⟨r4, 0, none⟩) 0 0) (.slice p8 zs.length c8) [] zs bm _ (by kernel_rfl) (by kernel_rfl) (HFR.out _ X4) R4 (by rw [← hbm]; exact X4.size) (by simp; omega) (by kernel_rfl) ?_
          intro v6 w6 R6 hg6
          have X6 : Reg.Ext wm w6 := Below.grown X4 hg6 X4.size fun q hq => by rw [hbm]; exact (R4.1.lt q hq).1
          simp only [Act.put, Act.eval, List.setIfInBounds_toArray, List.set_cons_zero, List.set_cons_succ, Nat.reduceAdd, Array.getD_eq_getD_getElem?, List.getElem?_toArray, List.getElem?_cons_succ, List.getElem?_cons_zero, Option.getD_some]
          refine Ordd.fin X6 ?_
          have L6 : Blk w6 g8' 37 goneS.cells := (hg6.block g8' (Nat.lt_of_lt_of_le hlt8' E4.size) (show some g8' ≠ some r4 from Plk.ne_some (by omega))).trans (L8'.ext E4)
          refine Ordd.one (i := 9) (by kernel_rfl) rfl ?_
          refine Slp.h_cat (.tmp 167) (.tmp 169) rfl v6 (.slice (some ⟨g8', 0, none⟩) 1 1) zs [goneS] bm 0 (by kernel_rfl) (by kernel_rfl) (Slp.Row.one gone_dig L6 (Nat.zero_le _)) R6 (by rw [← hbm]; exact X6.size) (by simp; omega) (by kernel_rfl) ?_
          intro v9 w9 R9 hg9
          have X9 : Reg.Ext wm w9 := Below.grown X6 hg9 X6.size fun q hq => by rw [hbm]; exact (R6.1.lt q hq).1
          simp only [Act.put, Act.eval, List.setIfInBounds_toArray, List.set_cons_zero, List.set_cons_succ, Nat.reduceAdd, Array.getD_eq_getD_getElem?, List.getElem?_toArray, List.getElem?_cons_succ, List.getElem?_cons_zero, Option.getD_some]
          refine Ordd.fin X9 ?_
          refine Ordd.one (i := 10) (by kernel_rfl) rfl ?_
          refine Ordd.call (by kernel_rfl) 19 #[.slice p16 ys.length c16, v9] (by kernel_rfl) (CM2.out _ _ _ (HRR.out _ X9) (by rw [HYS.out]; exact R9.rd)) (.bool true) (fun _ _ h => h.1) ?_
          intro w10 hx10
          have X10 := X9.trans hx10.2
          simp only [Act.put, Act.eval, List.setIfInBounds_toArray, List.set_cons_zero, List.set_cons_succ, Nat.reduceAdd, Array.getD_eq_getD_getElem?, List.getElem?_toArray, List.getElem?_cons_succ, List.getElem?_cons_zero, Option.getD_some]
          refine Ordd.fin X10 ?_
          refine Ordd.one (i := 11) (by kernel_rfl) rfl ?_
          refine Ordd.any (by kernel_rfl) (.bool true) w10 (by kernel_rfl) ?_
          simp only [Act.put, Act.eval, List.setIfInBounds_toArray, List.set_cons_zero, List.set_cons_succ, Nat.reduceAdd, Array.getD_eq_getD_getElem?, List.getElem?_toArray, List.getElem?_cons_succ, List.getElem?_cons_zero, Option.getD_some]
          refine Ordd.fin X10 ?_
          refine Ordd.one (i := 12) (by kernel_rfl) rfl ?_
          refine Ordd.any (by kernel_rfl) (.bool true) w10 (by kernel_rfl) ?_
          simp only [Act.put, Act.eval, List.setIfInBounds_toArray, List.set_cons_zero, List.set_cons_succ, Nat.reduceAdd, Array.getD_eq_getD_getElem?, List.getElem?_toArray, List.getElem?_cons_succ, List.getElem?_cons_zero, Option.getD_some]
          refine Ordd.fin X10 ?_
          refine Ordd.done (by kernel_rfl) ?_
          go_wp2_with fail
          go_ret
          exact ⟨rfl, XWM.out.trans X10⟩
end Plk
end Go.Proofs.YtafeealbdpmdkaaDoor

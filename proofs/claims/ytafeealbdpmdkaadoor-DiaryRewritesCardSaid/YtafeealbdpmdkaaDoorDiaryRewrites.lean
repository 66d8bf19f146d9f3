/- The walk of DiaryRewrites. -/
import Derived.Test.YtafeealbdpmdkaaDoorDyW
import Derived.Test.YtafeealbdpmdkaaDoorDyG
import Derived.Test.YtafeealbdpmdkaaDoorDyR
set_option linter.unusedSimpArgs false
set_option linter.unusedVariables false
set_option linter.unusedSectionVars false
namespace Go.Proofs.YtafeealbdpmdkaaDoor
open Go Go.RowKit
namespace Plk
open Slp (S good frame body frames allP Row RdS Fit sameL)
theorem kr_of {W w : World} {d mp : Nat} {es : List E} {q : Option Addr} {cap : Nat} {ks : List Int} (hx : Reg.Ext W w) (ho : ∀ i, Own d mp es i → W.heap.size ≤ i) (h1 : ks.length ≤ cap) (h2 : cap ≤ maxLen) (h3 : Rd W q (ks.map (Value.int .i64))) : KR w d mp es (.slice q ks.length cap) ks := by
  refine ⟨q, cap, rfl, h1, h2, fun j hj => ?_⟩
  obtain ⟨ad, e, hlt, hc⟩ := h3 j (by rw [List.length_map]; exact hj)
  obtain ⟨ad0, e0, _, hc0⟩ := h3 0 (by rw [List.length_map]; omega)
  have e1 : ad0 = ad := by rw [e] at e0; injection e0 with e0; exact e0.symm
  subst e1
  have hs : ad0.spot = none := by
    have hc0 : W.cell? ad0 = some _ := hc0
    unfold World.cell? at hc0
    cases hs : ad0.spot with
    | none => rfl
    | some q => rw [hs] at hc0; simp at hc0; split at hc0 <;> cases hc0
  obtain ⟨kb, ko, sp⟩ := ad0
  dsimp only at hs
  subst hs
  have hcw := hx.at_ hc
  rw [add_plain, List.getElem_map] at hcw
  exact ⟨kb, ko, e, Nat.lt_of_lt_of_le hlt hx.size, fun o => by have := ho kb o; dsimp only at hlt; omega, hcw⟩
theorem slice_of {p : Option Addr} {n c : Nat} {xs : List S} {w : World} (h : RdS (.slice p n c) xs w) : n = xs.length := by
  obtain ⟨_, p', c', e, _, _⟩ := h
  injection e
/-- the adding of the old slips: relation of the loop -/
structure Adding (W wr : World) (d mp g B : Nat) (v : Value) (xs : List S) (k : Nat) (es : List E) (s : H) : Prop where
  lw : Lw W wr d mp es ⟨d1 (frames (okS (xs.take k))) 0, s⟩ g ⟨((okS (xs.take k)).length : Int), 0, ((frames (okS (xs.take k))).length : Int), false⟩
  calm : Calm s 1048576 ((frames (okS (xs.take k))).length : Int) (3 + (k : Int))
  held : Held wr d mp es g B v (okS (xs.take k))
def RelA (W : World) (d mp g B : Nat) (xs : List S) (v i : Value) (wr : World) : Prop := ∃ (k : Nat) (es : List E) (s : H), k ≤ xs.length ∧ i = .int .i64 (k : Int) ∧ Hid (Adding W wr d mp g B v xs k es s) ∧ Hid (B ≤ wr.heap.size)
theorem fine_of (n m : Nat) (h1 : n ≤ 100000) (h2 : m ≤ 10000000) (u : Int) (b : Bool) : Y.Fine ⟨(n : Int), u, (m : Int), b⟩ := ⟨by dsimp only; unfold big; omega, by dsimp only; unfold big; omega⟩
theorem Adding.small {W wr : World} {d mp g B : Nat} {v : Value} {xs : List S} {k : Nat} {es : List E} {s : H} (h : Adding W wr d mp g B v xs k es s) (hd : ∀ x ∈ xs, x.dig.length = 32) : (frames (okS (xs.take k))).length ≤ 1030 * k := by
  have h1 := frames_le (okS (xs.take k)) (fun x hx => (okS_fit hd k x hx).1) (fit_good (okS_fit hd k))
  have h2 := okS_len xs k
  have : 1030 * (okS (xs.take k)).length ≤ 1030 * k := Nat.mul_le_mul_left _ h2
  omega
section
variable {W wr : World} {d mp g B : Nat} {v : Value} {xs : List S} {k : Nat} {es : List E} {s : H} (h : Adding W wr d mp g B v xs k es s) (hd : ∀ x ∈ xs, x.dig.length = 32) (hk : k < xs.length) (h20 : xs.length ≤ 20) (hT : Crc.Tab W)
include h hd h20 hT
theorem Adding.good_ (hg : good xs[k] = true) : ∃ q s', Calls Tryd.prog 11 #[.pointer (some ⟨g, 0, none⟩), .agg xs[k].cells.toArray] wr (ResW W d mp g wr es (.int .i64 0) q ⟨((okS (xs.take (k + 1))).length : Int), 0, ((frames (okS (xs.take (k + 1)))).length : Int), false⟩) ∧
    q = ⟨d1 (frames (okS (xs.take (k + 1)))) 0, s'⟩ ∧ Calm s' 1048576 ((frames (okS (xs.take (k + 1)))).length : Int) (3 + ((k + 1 : Nat) : Int)) := by
  have hl := h.small hd
  have ho := okS_len xs k
  have hx := hd xs[k] (List.getElem_mem hk)
  have hb := (body_size hx hg).1
  obtain ⟨s', E, c⟩ := add1 h.calm (frames (okS (xs.take k))) 0 (x := xs[k]) (y := ⟨((okS (xs.take k)).length : Int), 0, ((frames (okS (xs.take k))).length : Int), false⟩) rfl hg (by omega)
  have hops := h.calm.ops
  have hc := h.lw.add (fine_of _ _ (by omega) (by omega) _ _) (by show s.ops < big; unfold big; omega) xs[k] hx hT E
  refine ⟨_, s', ?_, rfl, ?_⟩
  · rw [okS_good hk hg, Slp.frames_snoc, List.length_append, List.length_append, List.length_singleton]
    rw [Int.natCast_add, Int.natCast_add]
    exact hc
  · rw [okS_good hk hg, Slp.frames_snoc, List.length_append]
    exact c.le (by omega) (by omega)
theorem Adding.bad_ (hg : good xs[k] = false) : Calls Tryd.prog 11 #[.pointer (some ⟨g, 0, none⟩), .agg xs[k].cells.toArray] wr (ResW W d mp g wr es (.int .i64 1) ⟨d1 (frames (okS (xs.take (k + 1)))) 0, s⟩ ⟨((okS (xs.take (k + 1))).length : Int), 0, ((frames (okS (xs.take (k + 1)))).length : Int), false⟩) := by
  have hl := h.small hd
  have ho := okS_len xs k
  have hx := hd xs[k] (List.getElem_mem hk)
  have hops := h.calm.ops
  rw [okS_bad hk hg]
  exact h.lw.add (fine_of _ _ (by omega) (by omega) _ _) (by show s.ops < big; unfold big; omega) xs[k] hx hT (add_bad rfl hg)
end
theorem Adding.sync_ {W wr : World} {d mp g B : Nat} {v : Value} {xs : List S} {es : List E} {s : H} (h : Adding W wr d mp g B v xs xs.length es s) (h20 : xs.length ≤ 20) :
    ∃ q s', Calls Tryd.prog 12 #[.pointer (some ⟨g, 0, none⟩)] wr (ResW W d mp g wr es (.int .i64 0) q ⟨((okS xs).length : Int), ((okS xs).length : Int), ((frames (okS xs)).length : Int), false⟩) ∧
      q = ⟨d1 (frames (okS xs)) (frames (okS xs)).length, s'⟩ ∧ Calm s' 1048576 ((frames (okS xs)).length : Int) 24 := by
  obtain ⟨h1, h2, -⟩ := h
  rw [List.take_length] at h1 h2
  obtain ⟨s', k', E, c, e1, e2⟩ := syn1 h2 (frames (okS xs)) 0 (y := ⟨((okS xs).length : Int), 0, ((frames (okS xs)).length : Int), false⟩) rfl
  have hk : k' = (frames (okS xs)).length := by
    by_cases h0 : (okS xs).length = 0
    · rw [e2 (by show (0 : Int) = ((okS xs).length : Int); omega), List.length_eq_zero_iff.1 h0]
      rfl
    · exact e1 (by show (0 : Int) ≠ ((okS xs).length : Int); omega)
  subst hk
  refine ⟨_, s', h1.sync (by have := h2.ops; show s.ops < big; unfold big; omega) E, rfl, c.le rfl (by omega)⟩
theorem on_keep_ops (fs : List F) (s : H) (ks : List Int) : (P.on ⟨fs, { s with off := true, ak := 0, af := 0, al := 0 }⟩ ks).h.ops = s.ops := by
  unfold P.on
  rw [if_pos rfl]
/-- behind the power: the log is opened again -/
theorem again_old {W w : World} {d mp : Nat} {es : List E} {g : Nat} {y : Y} {l : List UInt8} {fs : List F} {s : H} {o : Int} {xs : List S} (ks : List Int) (ho : Old l fs) (hR : s.room = 1048576) (hop : s.ops ≤ o) (hob : o ≤ 1000)
    (hf : Fit xs) (hl : l = frames xs) (hs : xs.length ≤ 100) (hT : Crc.Tab W)
    (h : Lw W w d mp es (P.on ⟨fs, { s with off := true, ak := 0, af := 0, al := 0 }⟩ ks) g y) :
    Calls Tryd.prog 8 #[.pointer (some ⟨d, 0, none⟩)] w fun e w' => ∃ es' g' pp c q,
      e = .returned (.tuple #[.pointer (some ⟨g', 0, none⟩), .slice pp xs.length c, .int .i64 0]) ∧ Lw W w' d mp es' q g y ∧ Lw W w' d mp es' q g' ⟨(xs.length : Int), (xs.length : Int), ((frames xs).length : Int), false⟩ ∧ q.lenN = -1 ∧ RdS (.slice pp xs.length c) xs w' ∧ TurnG d mp g w es w' es' := by
  subst hl
  obtain ⟨s', u, E, c⟩ := old_load ho hR hop ks
  have hx := frames_le xs (fun x hx => (hf x hx).1) (fit_good hf)
  have hops := (on_keep_ops fs s ks)
  refine (h.again (by rw [hops]; unfold big; omega) E (by omega) hT (by rw [Slp.allP_whole xs hf]) (opened_whole hf)).mono ?_
  rintro e w' ⟨es', g', pp, c, rfl, k1, k2, h1, h2, h3⟩
  exact ⟨es', g', pp, c, _, rfl, k1, k2, rfl, h1.rd, .of h3⟩
theorem great_len {x : S} {xs : List S} {s : ByteArray} (h : greatA x xs s = false) : xs.length ≤ 20 := by
  unfold greatA at h
  rw [Bool.or_eq_false_iff] at h
  have := of_decide_eq_false h.1
  omega
set_option maxRecDepth 100000 in
set_option maxHeartbeats 8000000 in
theorem rewrites_law (v0 : Value) (xs : List S) (v1 : Value) (ls : List S) (at_ : Int) (qk : Option Addr) (cap : Nat) (ks : List Int) (W : World) (hr0 : RdS v0 xs W) (hr1 : RdS v1 ls W) (hk1 : ks.length ≤ cap) (hk2 : cap ≤ maxLen) (hk3 : Rd W qk (ks.map (Value.int .i64))) (hT : Crc.Tab W) :
    Calls Tryd.prog 4 #[v0, v1, .int .i64 at_, .slice qk ks.length cap] W fun e w' => e = .returned (.bool true) ∧ Reg.Ext W w' := by
  have HD0 := Lib.hid hr0.1
  have HD1 := Lib.hid hr1.1
  have HR0 := Lib.hid hr0
  have HR1 := Lib.hid hr1
  obtain ⟨-, p0, c0, rfl, -, -⟩ := hr0
  obtain ⟨-, p1, c1, rfl, -, -⟩ := hr1
  have HT := Lib.hid hT
  have HKS := Lib.hid hk3
  have HKL : Hid (ks.length ≤ maxLen) := Lib.hid (Nat.le_trans hk1 hk2)
  clear hT hk3
  go_enter Tryd.func4, Tryd.ntmps4
  go_upto_region 3 with (go_at_call 6; refine (awake_any W HT.out).mono ?_; rintro e wa ⟨rfl, hx⟩; have XA := Lib.hid hx; clear hx)
  refine wp_region_lit ?_
  iterate 3 go_step
  refine wpList_bl _ rfl p0 xs.length c0 rfl rfl ?_
  simp only [Act.put, Act.eval, List.setIfInBounds_toArray, List.set_cons_zero, List.set_cons_succ, Nat.reduceAdd, Array.getD_eq_getD_getElem?, List.getElem?_toArray, List.getElem?_cons_succ, List.getElem?_cons_zero, Option.getD_some]
  repeat go_step
  refine (great_any 0 0 0 0 S.none p0 c0 xs Slp.noStr Slp.none_dig _ (HR0.out.ext XA.out)).mono ?_
  rintro e wb ⟨rfl, hz⟩
  have XB := Lib.hid (XA.out.trans hz)
  clear hz
  rename_i hK
  refine hK _ _ ?_
  clear hK
  obtain ⟨b0, hb0⟩ : ∃ b, greatA S.none xs Slp.noStr = b := ⟨_, rfl⟩
  rw [hb0]
  cases b0 with
  | true =>
    clear hb0
    go_wp2_with fail
    go_ret
    exact ⟨rfl, XB.out⟩
  | false =>
  iterate 5 go_step
  refine wpList_bl _ rfl p1 ls.length c1 rfl rfl ?_
  simp only [Act.put, Act.eval, List.setIfInBounds_toArray, List.set_cons_zero, List.set_cons_succ, Nat.reduceAdd, Array.getD_eq_getD_getElem?, List.getElem?_toArray, List.getElem?_cons_succ, List.getElem?_cons_zero, Option.getD_some]
  repeat go_step
  refine (great_any 0 0 0 0 S.none p1 c1 ls Slp.noStr Slp.none_dig _ (HR1.out.ext XB.out)).mono ?_
  rintro e wc ⟨rfl, hz⟩
  have XC := Lib.hid (XB.out.trans hz)
  clear hz
  rename_i hK
  refine hK _ _ ?_
  clear hK
  obtain ⟨b1, hb1⟩ : ∃ b, greatA S.none ls Slp.noStr = b := ⟨_, rfl⟩
  rw [hb1]
  cases b1 with
  | true =>
    clear hb1 hb0
    go_wp2_with fail
    go_ret
    exact ⟨rfl, XC.out⟩
  | false =>
  have h20 : xs.length ≤ 20 := great_len hb0
  have h20b : ls.length ≤ 20 := great_len hb1
  clear hb0 hb1 XA XB
  unfold maxLen at HKL
  by_cases hks : 20 < ks.length
  · have dk : decide ((20 : Int) < (ks.length : Int)) = true := by rw [decide_eq_true_iff]; omega
    clear hks
    go_wp2_with fail
    go_ret
    exact ⟨rfl, XC.out⟩
  have dk : decide ((20 : Int) < (ks.length : Int)) = false := by rw [decide_eq_false_iff_not]; omega
  clear hks
  obtain ⟨s0, hs0, c0'⟩ : ∃ s0, new 1048576 = ⟨[], s0⟩ ∧ Calm s0 1048576 0 0 := ⟨_, rfl, ⟨rfl, .inl rfl, by decide, rfl, Int.le_refl _⟩⟩
  obtain ⟨s1, E1, c1'⟩ := load0 c0'
  rw [← hs0] at E1
  have CO := Lib.hid (fun (w : World) d mp (h : Dg w d mp [] (new 1048576)) (hx : Reg.Ext W w) (ho : ∀ i, Own d mp [] i → W.heap.size ≤ i) => lw_open h hx ho HT.out (by rw [hs0]; have := c0'.ops; show s0.ops + 4 < big; unfold big; omega) E1 (show opened [] = ⟨0, 0, 0, false⟩ by unfold opened; rw [Slp.allP_nil]; rfl))
  have HC1 := Lib.hid c1'
  clear hs0 E1 c0' c1'
  go_upto_region 9 with (first
    | (go_at_call 7; refine (Dg.new 1048576 _).mono ?_; rintro e x0 ⟨d, mp, rfl, h0, hx0, ho0⟩; have HO := Lib.hid (fun i hi => Nat.le_trans XC.out.size (ho0 i hi)); have X0 := Lib.hid (XC.out.trans hx0); clear hx0 ho0)
    | (go_at_call 8; refine (CO.out _ _ _ h0 X0.out HO.out).mono ?_; rintro e x1 ⟨es1, g, pp, cc, rfl, k⟩; have K1 := Lib.hid k; clear h0 HO k))
  go_upto_region 10 with (fail)
  have hrow := row_empty x1 x1.heap.size (Nat.le_refl _)
  have hxa := Reg.Ext.alloc x1 (.cells #[] 37)
  have K2 := Lib.hid (K1.out.ext hxa)
  have hgl := K1.out.dy.out.1
  have hlt : x1.heap.size < (x1.alloc (.cells #[] 37)).heap.size := by simp
  have H2 : Hid (Held (x1.alloc (.cells #[] 37)) d mp es1 g x1.heap.size (.slice (some ⟨x1.heap.size, 0, none⟩) 0 0) []) := Lib.hid ⟨hrow, fun b hb => by
    have hb : x1.heap.size = b := by injection hb
    subst hb
    exact ⟨by omega, hlt, fun o => by have := K1.out.dy.dg.dk.own_lt o; omega⟩⟩
  have HB : Hid (W.heap.size ≤ x1.heap.size) := Lib.hid K1.out.base.1.size
  have HBL : Hid (x1.heap.size ≤ (x1.alloc (.cells #[] 37)).heap.size) := Lib.hid hxa.size
  clear hrow hxa hgl hlt K1 X0 CO dk
  generalize x1.alloc (.cells #[] 37) = x2 at *
  obtain ⟨B, hB⟩ : ∃ B, x1.heap.size = B := ⟨_, rfl⟩
  rw [hB] at H2 HB HBL ⊢
  clear hB
  have HA0 : Hid (Adding W x2 d mp g B (.slice (some ⟨B, 0, none⟩) 0 0) xs 0 es1 s1) := Lib.hid ⟨K2.out, HC1.out.le rfl (Int.le_refl _), H2.out⟩
  clear K2 H2 HC1
  go_wp2_with fail
  go_loopw [13, 14] (fun v i wr => RelA W d mp g B xs v i wr) (fun _ i _ => xs.length - (intOf i).toNat)
  case atStart => exact ⟨0, es1, s1, Nat.zero_le _, rfl, HA0, HBL⟩
  case round =>
    obtain ⟨k, es, s, hk, rfl, HA, HBW⟩ := hrel
    clear HA0 HBL
    by_cases hkl : k < xs.length
    · obtain ⟨p', c', e1, -, hrr⟩ := HR0.out.2
      injection e1 with e1 _ _
      subst e1
      obtain ⟨ga, oa, rfl, hrk⟩ := hrr k hkl
      have hx := HD0.out xs[k] (List.getElem_mem hkl)
      have HRK := Lib.hid (Slp.rangeAt_ext hrk HA.out.lw.base.1)
      have HRK0 := Lib.hid hrk
      obtain ⟨b, hb⟩ : ∃ b, good xs[k] = b := ⟨_, rfl⟩
      have hk20 : k < 9223372036854775807 := by omega
      clear hrr hrk
      cases b with
      | false =>
        have CA := Lib.hid (HA.out.bad_ HD0.out hkl h20 HT.out hb)
        have hcl : Calm s 1048576 ((frames (okS (xs.take (k + 1)))).length : Int) (3 + ((k + 1 : Nat) : Int)) := HA.out.calm.le (by rw [okS_bad hkl hb]) (by omega)
        have hok := Lib.hid (okS_bad hkl hb)
        have HC := Lib.hid hcl
        clear hcl
        have HH := Lib.hid HA.out.held
        clear HA
        clear hb
        generalize xs[k] = x at *
        go_upto_region 13 with (fail)
        refine wp_region_lit ?_
        iterate 12 go_step
        refine Slp.wpList_sl _ rfl ga (oa + k * 38) rfl x hx HRK rfl ?_
        simp only [Act.put, Act.eval, List.setIfInBounds_toArray, List.set_cons_zero, List.set_cons_succ, Nat.reduceAdd, Array.getD_eq_getD_getElem?, List.getElem?_toArray, List.getElem?_cons_succ, List.getElem?_cons_zero, Option.getD_some]
        repeat go_step
        refine (CA.out).mono ?_
        rintro e w5 ⟨rfl, es5, k5, t5⟩
        have K5 := Lib.hid k5
        have T5 := Lib.hid t5
        clear k5 t5 CA
        rename_i hK
        refine hK _ _ ?_
        clear hK
        go_wp2_with fail
        go_roundw
        case rel => exact ⟨k + 1, es5, s, by omega, by go_num, Lib.hid ⟨K5.out, HC.out, by rw [hok.out]; exact HH.out.turn T5.out⟩, Lib.hid (Nat.le_trans HBW.out T5.out.size)⟩
        case measure => simp [intOf]; omega
      | true =>
        obtain ⟨q, s', CA, hq, hc⟩ := HA.out.good_ HD0.out hkl h20 HT.out hb
        subst hq
        have CA := Lib.hid CA
        have HC := Lib.hid hc
        have hok := Lib.hid (okS_good hkl hb)
        have HH := Lib.hid HA.out.held
        have HLN := Lib.hid (okS_len xs k)
        clear hc HA
        clear hb
        generalize xs[k] = x at *
        go_upto_region 13 with (fail)
        refine wp_region_lit ?_
        iterate 12 go_step
        refine Slp.wpList_sl _ rfl ga (oa + k * 38) rfl x hx HRK rfl ?_
        simp only [Act.put, Act.eval, List.setIfInBounds_toArray, List.set_cons_zero, List.set_cons_succ, Nat.reduceAdd, Array.getD_eq_getD_getElem?, List.getElem?_toArray, List.getElem?_cons_succ, List.getElem?_cons_zero, Option.getD_some]
        repeat go_step
        refine (CA.out).mono ?_
        rintro e w5 ⟨rfl, es5, k5, t5⟩
        have K5 := Lib.hid k5
        have T5 := Lib.hid t5
        clear k5 t5 CA
        rename_i hK
        refine hK _ _ ?_
        clear hK
        have H5 := Lib.hid (HH.out.turn T5.out)
        have HB5 := Lib.hid (Nat.le_trans HBW.out T5.out.size)
        have HRK5 := Lib.hid (Slp.rangeAt_ext HRK0.out K5.out.base.1)
        clear HH T5 HBW HRK0
        go_upto_region 14 with (fail)
        refine wp_region_lit ?_
        iterate 12 go_step
        refine Slp.wpList_sl _ rfl ga (oa + k * 38) rfl x hx HRK5 rfl ?_
        simp only [Act.put, Act.eval, List.setIfInBounds_toArray, List.set_cons_zero, List.set_cons_succ, Nat.reduceAdd, Array.getD_eq_getD_getElem?, List.getElem?_toArray, List.getElem?_cons_succ, List.getElem?_cons_zero, Option.getD_some]
        refine Slp.wpList_r1 _ rfl x hx rfl rfl ?_
        intro gg w6 hgg hlt hz hbl _
        have K6 := Lib.hid (K5.out.ext hz)
        have H6 := Lib.hid (H5.out.turn (TurnG.ext hz))
        have HB6 := Lib.hid (Nat.le_trans HB5.out hz.size)
        clear hz K5 H5 HB5 hlt hgg HRK5
        simp only [Act.put, Act.eval, List.setIfInBounds_toArray, List.set_cons_zero, List.set_cons_succ, Nat.reduceAdd, Array.getD_eq_getD_getElem?, List.getElem?_toArray, List.getElem?_cons_succ, List.getElem?_cons_zero, Option.getD_some]
        refine Slp.wpList_push rfl _ _ rfl u13 (okS (xs.take k)) B gg x hx rfl rfl hbl H6.out.1 HB6.out (by have := HLN.out; omega) ?_
        intro v' w7 hr7 hg7 hat7
        have K7 := Lib.hid (K6.out.grown H6.out HB.out hg7)
        have H7 := Lib.hid (Held.grown K6.out H6.out HB6.out hg7 hr7 hat7)
        have HB7 := Lib.hid (Nat.le_trans HB6.out hg7.size)
        clear hr7 hg7 hat7 K6 H6 HB6 hbl
        go_wp2_with fail
        go_roundw
        case rel => exact ⟨k + 1, es5, s', by omega, by go_num, Lib.hid ⟨K7.out, HC.out, by rw [hok.out]; exact H7.out⟩, HB7⟩
        case measure => simp [intOf]; omega
    · have hke : k = xs.length := by omega
      subst hke
      obtain ⟨q, s', CS, hq, hc⟩ := HA.out.sync_ h20
      subst hq
      have hh := HA.out.held
      rw [List.take_length] at hh
      have HFS := okS_fit HD0.out xs.length
      rw [List.take_length] at HFS
      have hws := okS_len xs xs.length
      rw [List.take_length] at hws
      have hfl := frames_le (okS xs) (fun x hx => (HFS x hx).1) (fit_good HFS)
      obtain ⟨-, pw, cw, hv, -, -⟩ := hh.rd
      subst hv
      have HH := Lib.hid hh
      have CS := Lib.hid CS
      have HC := Lib.hid hc
      have HFS := Lib.hid HFS
      clear hc hh HA HR0 HD0
      generalize okS xs = ws at *
      obtain ⟨qa, hqa, eqa⟩ := umod at_ 5 (by omega)
      have eqa : wrap64 ((IntKind.u64.wrap at_).tmod 6) = (qa : Int) := eqa
      have ea : (1 : Int) + (qa : Int) = ((qa + 1 : Nat) : Int) := by omega
      have HEA := Lib.hid ea
      have HOP : Hid (s'.ops < big) := Lib.hid (by have := HC.out.ops; unfold big; omega)
      have HARM := Lib.hid (armed_arm HC.out (qa + 1) (by omega) (by omega))
      have hkp := arm_keep s' ((qa + 1 : Nat) : Int) 2 0
      have HKP := Lib.hid hkp
      clear ea hkp
      go_upto_region 18 with (first
        | (go_at_call 12; refine (CS.out).mono ?_; rintro e w5 ⟨rfl, es5, k5, t5⟩; have K5 := Lib.hid k5; have H5 := Lib.hid (HH.out.turn t5); clear k5 t5)
        | (go_at_call 9; refine (K5.out.arm (1 + (qa : Int)) 2 0 HOP.out).mono ?_; rintro e w6 ⟨rfl, es6, k6, t6⟩; rw [HEA.out] at k6; have K6 := Lib.hid k6; have H6 := Lib.hid (H5.out.turn t6); clear k6 t6))
      clear K5 H5 CS HH eqa
      have HR16 := Lib.hid (HR1.out.ext K6.out.base.1)
      obtain ⟨gb, hgb⟩ : ∃ b, allGood ls = b := ⟨_, rfl⟩
      cases gb with
      | false =>
        have E : rewP ⟨d1 (frames ws) (frames ws).length, s'.arm ((qa + 1 : Nat) : Int) 2 0⟩ ⟨(ws.length : Int), (ws.length : Int), ((frames ws).length : Int), false⟩ ls = (1, ⟨d1 (frames ws) (frames ws).length, s'.arm ((qa + 1 : Nat) : Int) 2 0⟩, ⟨(ws.length : Int), (ws.length : Int), ((frames ws).length : Int), false⟩) := by
          unfold rewP
          rw [if_pos hgb]
        have CR := Lib.hid (K6.out.rew (by rw [HKP.out.2.2.1]; have := HC.out.ops; unfold big; omega) ls _ HR16.out (by omega) HT.out E)
        clear E hgb
        go_wp2_with (first
          | (go_at_call 18; refine (CR.out).mono ?_; rintro e w7 ⟨rfl, es7, k7, t7⟩; have K7 := Lib.hid k7; clear k7 t7)
          | (go_at_call 20; refine (K7.out.len).mono ?_; rintro e _ ⟨rfl, rfl⟩))
        go_ret
        exact ⟨by simp, K7.out.base.1⟩
      | true =>
        have HFL := fit_of HD1.out hgb
        have hll := frames_le ls HD1.out hgb
        have ho := power_rew (o := 24) HARM.out (HKP.out.1.trans HC.out.room) (HKP.out.2.1.trans HC.out.used) (by rw [HKP.out.2.2.1]; exact HC.out.ops) (frames ws) ⟨(ws.length : Int), (ws.length : Int), ((frames ws).length : Int), false⟩ ls hgb (by omega)
        have CR := fun v q z e => K6.out.rew (v := v) (q := q) (z := z) (by rw [HKP.out.2.2.1]; have := HC.out.ops; unfold big; omega) ls _ HR16.out (by omega) HT.out e
        have HFL := Lib.hid HFL
        generalize rewP _ _ ls = r at ho CR
        obtain ⟨v, q, z⟩ := r
        have CR := Lib.hid (CR v q z rfl)
        clear hgb
        rcases ho with ⟨h1, h2, h3, h4, h5⟩ | ⟨s9, h1, h2, h3⟩
        · dsimp only at h1 h2 h3 h4 h5
          subst h1 h2
          obtain ⟨fs, hd⟩ := q
          dsimp only at h3 h4 h5
          have HOL := Lib.hid h3
          have HRM := Lib.hid h4
          have HOS := Lib.hid h5
          clear h3 h4 h5 HC HKP HARM HOP
          obtain ⟨b, hb⟩ : ∃ b, sameL ws ls = b := ⟨_, rfl⟩
          have CS1 := Lib.hid (show ∀ (u v : Value) (w : World), RdS u ws w → RdS v ls w → Calls Tryd.prog 19 #[u, v] w fun e w' => e = .returned (.bool b) ∧ Reg.Ext w w' from fun u v w h1 h2 => by rw [← hb]; exact Slp.same_any u v ws ls w h1 h2)
          have CS2 := Lib.hid (show ∀ (u v : Value) (w : World), RdS u ws w → RdS v ws w → Calls Tryd.prog 19 #[u, v] w fun e w' => e = .returned (.bool true) ∧ Reg.Ext w w' from fun u v w h1 h2 => by rw [← (Slp.sameL_iff ws ws).2 rfl]; exact Slp.same_any u v ws ws w h1 h2)
          clear hb
          go_upto_region 21 with (first
            | (go_at_call 18; refine (CR.out).mono ?_; rintro e w7 ⟨rfl, es7, k7, t7⟩; have KR := Lib.hid k7; have HW := Lib.hid (H6.out.turn t7); clear k7 t7))
          clear CR K6 H6 HR16
          cases b with
          | true =>
            go_wp2_with (first
              | (go_at_call 14; refine (KR.out.off).mono ?_; rintro e x6 ⟨rfl, es6, k, t⟩; have K6 := Lib.hid k; have TT6 := Lib.hid t; clear k t; have HK := Lib.hid (kr_of K6.out.base.1 K6.out.base.2 hk1 hk2 HKS.out))
              | (go_at_call 15; refine (K6.out.on _ ks HK.out).mono ?_; rintro e x7 ⟨rfl, es7, k, t⟩; have K7 := Lib.hid k; have TT7 := Lib.hid (TT6.out.trans t); clear k t HK)
              | (go_at_call 8; refine (again_old ks HOL.out HRM.out HOS.out (by decide) HFS.out rfl (by omega) HT.out K7.out).mono ?_; rintro e x8 ⟨es8, g8, p8, c8, q8, rfl, -, k, hl, hr, t⟩; have K8 := Lib.hid k; have HL8 := Lib.hid hl; have HR8 := Lib.hid hr; have TT8 := Lib.hid (TT7.out.trans t); have HRL := Lib.hid (HR1.out.ext k.base.1); clear k hl hr t)
              | (go_at_call 17; refine (K8.out.sick).mono ?_; rintro e _ ⟨rfl, rfl⟩)
              | (go_at_call 21; refine (K8.out.dy.dg.sizeN HL8.out).mono ?_; rintro e _ ⟨rfl, rfl⟩)
              | (go_at_call 19; refine (CS1.out _ _ _ HR8.out HRL.out).mono ?_; rintro e x9 ⟨rfl, hx9⟩))
            go_ret
            exact ⟨rfl, K8.out.base.1.trans hx9⟩
          | false =>
            go_wp2_with (first
              | (go_at_call 14; refine (KR.out.off).mono ?_; rintro e x6 ⟨rfl, es6, k, t⟩; have K6 := Lib.hid k; have TT6 := Lib.hid t; clear k t; have HK := Lib.hid (kr_of K6.out.base.1 K6.out.base.2 hk1 hk2 HKS.out))
              | (go_at_call 15; refine (K6.out.on _ ks HK.out).mono ?_; rintro e x7 ⟨rfl, es7, k, t⟩; have K7 := Lib.hid k; have TT7 := Lib.hid (TT6.out.trans t); clear k t HK)
              | (go_at_call 8; refine (again_old ks HOL.out HRM.out HOS.out (by decide) HFS.out rfl (by omega) HT.out K7.out).mono ?_; rintro e x8 ⟨es8, g8, p8, c8, q8, rfl, -, k, hl, hr, t⟩; have K8 := Lib.hid k; have HL8 := Lib.hid hl; have HR8 := Lib.hid hr; have TT8 := Lib.hid (TT7.out.trans t); have HRL := Lib.hid (HR1.out.ext k.base.1); clear k hl hr t)
              | (go_at_call 17; refine (K8.out.sick).mono ?_; rintro e _ ⟨rfl, rfl⟩)
              | (go_at_call 21; refine (K8.out.dy.dg.sizeN HL8.out).mono ?_; rintro e _ ⟨rfl, rfl⟩)
              | (first | (go_at_call 19; ((with_reducible refine (CS1.out _ _ _ HR8.out HRL.out).mono ?_); rintro e x9 ⟨rfl, hx9⟩); have HX9 := Lib.hid hx9; have HWR := Lib.hid ((HW.out.turn TT8.out).turn (TurnG.ext hx9)).rd; have HR9 := Lib.hid (HR8.out.ext hx9); clear hx9) | (go_at_call 19; ((with_reducible refine (CS2.out _ _ _ HR9.out HWR.out).mono ?_); rintro e y9 ⟨rfl, hy9⟩))))
            go_ret
            exact ⟨rfl, (K8.out.base.1.trans HX9.out).trans hy9⟩
        · injection h1 with h1 h4
          injection h4 with h4 h5
          subst h1 h4 h5
          have HRM := Lib.hid h2
          have HOS := Lib.hid h3
          clear h2 h3 HC HKP HARM HOP
          have CS2 := Lib.hid (show ∀ (u v : Value) (w : World), RdS u ls w → RdS v ls w → Calls Tryd.prog 19 #[u, v] w fun e w' => e = .returned (.bool true) ∧ Reg.Ext w w' from fun u v w h1 h2 => by rw [← (Slp.sameL_iff ls ls).2 rfl]; exact Slp.same_any u v ls ls w h1 h2)
          go_upto_region 21 with (first
            | (go_at_call 18; refine (CR.out).mono ?_; rintro e w7 ⟨rfl, es7, k7, t7⟩; have KR := Lib.hid k7; clear k7 t7))
          clear CR K6 H6 HR16
          go_wp2_with (first
            | (go_at_call 14; refine (KR.out.off).mono ?_; rintro e x6 ⟨rfl, es6, k, t⟩; have K6 := Lib.hid k; have TT6 := Lib.hid t; clear k t; have HK := Lib.hid (kr_of K6.out.base.1 K6.out.base.2 hk1 hk2 HKS.out))
            | (go_at_call 15; refine (K6.out.on _ ks HK.out).mono ?_; rintro e x7 ⟨rfl, es7, k, t⟩; have K7 := Lib.hid k; have TT7 := Lib.hid (TT6.out.trans t); clear k t HK)
            | (go_at_call 8; refine (again_old ks (.inl rfl) HRM.out HOS.out (by decide) HFL.out rfl (by omega) HT.out K7.out).mono ?_; rintro e x8 ⟨es8, g8, p8, c8, q8, rfl, -, k, hl, hr, t⟩; have K8 := Lib.hid k; have HL8 := Lib.hid hl; have HR8 := Lib.hid hr; have TT8 := Lib.hid (TT7.out.trans t); have HRL := Lib.hid (HR1.out.ext k.base.1); clear k hl hr t)
            | (go_at_call 17; refine (K8.out.sick).mono ?_; rintro e _ ⟨rfl, rfl⟩)
            | (go_at_call 21; refine (K8.out.dy.dg.sizeN HL8.out).mono ?_; rintro e _ ⟨rfl, rfl⟩)
            | (go_at_call 19; refine (CS2.out _ _ _ HR8.out HRL.out).mono ?_; rintro e x9 ⟨rfl, hx9⟩))
          go_ret
          exact ⟨rfl, K8.out.base.1.trans hx9⟩
end Plk
end Go.Proofs.YtafeealbdpmdkaaDoor

/- PlankExact. -/
import Derived.Test.YtbiikihapfpkfaaPlkEx
import Derived.Test.YtbiikihapfpkfaaRegP2
import Derived.Deep.CutBlock
import Derived.Laws.BitsAllLaws
import Derived.Deep.DeepCutAuto
set_option linter.unusedSimpArgs false
set_option linter.unusedVariables false
set_option linter.unusedSectionVars false
namespace Go.Proofs.Ytbiikihapfpkfaa
open Go Go.RowKit
namespace Plk
open Rk (RD R Sim Both Newer RP)
theorem Mid.kr {W w : World} {d mp : Nat} {es : List E} {p : P} {b : Nat} {v : Value} {r : R} (h : Mid W w d mp es p b v r) (a : A) (hk : a.keeps W) : KR w d mp es (.slice a.ka a.ks.length a.kc) a.ks ∧ Rd w a.ka (a.ks.map (Value.int .i64)) ∧ ∀ ad, a.ks ≠ [] → a.ka = some ad → ad.block ≠ b := by
  refine ⟨⟨a.ka, a.kc, rfl, hk.2.1, hk.2.2, fun j hj => ?_⟩, hk.1.below h.base.1, fun ad hne e => ?_⟩
  · obtain ⟨ad, e, hlt, hc⟩ := hk.1 j (by rw [List.length_map]; exact hj)
    obtain ⟨ad0, e0, _, hc0⟩ := hk.1 0 (by rw [List.length_map]; omega)
    have e1 : ad0 = ad := by rw [e] at e0; injection e0 with e0; exact e0.symm
    subst e1
    have hs : ad0.spot = none := by
      have hc0 : W.cell? ad0 = some _ := hc0
      unfold World.cell? at hc0
      cases hs : ad0.spot with
      | none => rfl
      | some q => rw [hs] at hc0; simp at hc0; split at hc0 <;> cases hc0
    obtain ⟨kb, ko, sp⟩ := ad0
    dsimp only at hs
    subst hs
    have hcw := h.base.1.at_ hc
    rw [add_plain, List.getElem_map] at hcw
    exact ⟨kb, ko, e, Nat.lt_of_lt_of_le hlt h.base.1.size, fun o => by have := h.base.2 kb o; dsimp only at hlt; omega, hcw⟩
  · obtain ⟨ad0, e0, hlt, _⟩ := hk.1 0 (by rw [List.length_map]; exact List.length_pos_iff.2 hne)
    rw [e] at e0
    injection e0 with e0
    subst e0
    have := h.bge
    omega
/-- the block g is as it was -/
def Kp (g : Nat) (a b : World) : Prop := g < a.heap.size → g < b.heap.size ∧ b.heap[g]? = a.heap[g]?
theorem Kp.of_ext {g : Nat} {a b : World} (h : Reg.Ext a b) : Kp g a b := fun hg => ⟨Nat.lt_of_lt_of_le hg h.size, h.block g hg⟩
theorem Kp.trans {g : Nat} {a b c : World} (h : Kp g a b) (k : Kp g b c) : Kp g a c := fun hg => ⟨(k (h hg).1).1, (k (h hg).1).2.trans (h hg).2⟩
theorem u8_of (x : Int) : ∃ y : UInt8, IntKind.u8.wrap x = ((y.toNat : Nat) : Int) := by
  refine ⟨UInt8.ofNat (x % 256).toNat, ?_⟩
  have h1 := Int.emod_lt_of_pos x (show (0 : Int) < 256 by decide)
  have h2 := Int.emod_nonneg x (show (256 : Int) ≠ 0 by decide)
  rw [IntKind.wrap_u8']
  have e : (UInt8.ofNat (x % 256).toNat).toNat = (x % 256).toNat % 256 := rfl
  rw [e]
  omega
set_option maxRecDepth 100000 in
set_option maxHeartbeats 8000000 in
theorem exact_law (room : Int) (q : Option Addr) (c : Nat) (us : List A) (W : World) (hm : us.length ≤ maxLen) (hA : Acts W q us) (hB : Bounded us) :
    Calls Try.prog 6 #[.int .i64 room, .slice q us.length c] W fun e w' => e = .returned (.bool true) ∧ Reg.Ext W w' := by
  have haw := awake_any
  have hAk := Lib.hid hA
  have hBk := Lib.hid hB
  clear hA hB
  unfold maxLen at hm
  go_enter Try.func6, Try.ntmps6
  go_wp2_with (first
    | (go_at_call 7; refine (haw _).mono ?_; rintro e xa ⟨rfl, hxa⟩)
    | (go_at_call 8; refine (Dg.new _ _).mono ?_; rintro e x0 ⟨d, mp, rfl, h0, hx0, ho0⟩)
    | (go_at_call 27; refine (Rk.new_any _ _).mono ?_; rintro e x1 ⟨b, v, rfl, h1, rfl, hbge, hx1⟩))
  have hD0 : Duo W x1 d mp [] (new room) b (.slice none 0 0) (Rk.new room) := by
    have h2 := h0.ext hx1
    have hs0 := hxa.size
    have hs1 := hx0.size
    refine ⟨⟨h2, h1, ⟨(hxa.trans hx0).trans hx1, fun i hi => Nat.le_trans hs0 (ho0 i hi)⟩, by omega, ⟨h1.blk.lt, fun o => by have := h0.dk.own_lt o; omega⟩, fun g hg => (by cases hg)⟩, ⟨rfl, rfl, rfl, rfl, rfl, fun e => absurd rfl e, fun e => by have e : (0 : Int) = 2 := e; omega, ⟨Int.le_refl _, show (0 : Int) < 4611686018427387904 by decide⟩⟩⟩
  have HD0 := Lib.hid hD0
  clear hxa h0 haw hx0 ho0 h1 hbge hx1 hD0
  go_loopw [7, 8, 9, 10, 11, 12, 13, 14] (fun i _ _ _ _ _ _ _ wr => ∃ (j : Nat) (es : List E) (p : P) (v : Value) (r : R), i = .int .i64 (j : Int) ∧ j ≤ us.length ∧ j ≤ 150 ∧ Hid (Duo W wr d mp es p b v r) ∧ Hid (p.h.ops ≤ (j : Int))) (fun i _ _ _ _ _ _ _ _ => us.length - (intOf i).toNat)
  case atStart => exact ⟨0, [], _, _, _, rfl, Nat.zero_le _, Nat.zero_le _, HD0, Lib.hid (Int.le_refl _)⟩
  case round =>
    obtain ⟨j, es, p, v, r, rfl, hj, hj6, HD, HO⟩ := hrel
    by_cases hjs : j < us.length
    · by_cases hj7 : j < 150
      · obtain ⟨g, o, rfl, hlt, hcl, hke⟩ := hAk.out j hjs
        have hbd := hBk.out _ (List.getElem_mem hjs)
        generalize us[j] = u at hcl hke hbd
        have HKE := Lib.hid hke
        have HBD := Lib.hid hbd
        clear hbd
        go_upto_region 8 with (fail)
        refine wp_region_lit ?_
        iterate 9 go_step
        refine wpList_act rfl _ rfl g (o + j * 8) rfl u (fun i v hv => (HD.out.base.1).at_ (hcl i v hv)) ?_
        simp only [Act.put, Act.eval, List.setIfInBounds_toArray, List.set_cons_zero, List.set_cons_succ, Nat.reduceAdd, Array.getD_eq_getD_getElem?, List.getElem?_toArray, List.getElem?_cons_succ, List.getElem?_cons_zero, Option.getD_some]
        iterate 3 go_step
        have hbf := Blk.new wr 41 #[.int .i64 0, .string ⟨#[]⟩, .string ⟨#[]⟩, .string ⟨#[]⟩, .int .i64 0, .int .i64 0, .int .i64 0, .slice none 0 0]
        refine wpList_sta rfl _ _ rfl wr.heap.size u rfl rfl [.int .i64 0, .string ⟨#[]⟩, .string ⟨#[]⟩, .string ⟨#[]⟩, .int .i64 0, .int .i64 0, .int .i64 0, .slice none 0 0] rfl (Lib.hid hbf) ?_
        simp only [Act.put, Act.eval, List.setIfInBounds_toArray, List.set_cons_zero, List.set_cons_succ, Nat.reduceAdd, Array.getD_eq_getD_getElem?, List.getElem?_toArray, List.getElem?_cons_succ, List.getElem?_cons_zero, Option.getD_some]
        clear hbf
        obtain ⟨hb8, hx8⟩ := newa wr u #[.int .i64 0, .string ⟨#[]⟩, .string ⟨#[]⟩, .string ⟨#[]⟩, .int .i64 0, .int .i64 0, .int .i64 0, .slice none 0 0] rfl
        have ho8 := HD.out.dg.fresh (Nat.le_refl _) hb8.lt
        have hnb : wr.heap.size ≠ b := fun e => by have := HD.out.rd.blk.lt; omega
        generalize ((wr.alloc (Obj.cells #[.int .i64 0, .string ⟨#[]⟩, .string ⟨#[]⟩, .string ⟨#[]⟩, .int .i64 0, .int .i64 0, .int .i64 0, .slice none 0 0] 41)).setCells wr.heap.size 0 u.cells) = w8 at *
        generalize wr.heap.size = g8 at *
        have HA : Hid (Act8 w8 d mp es b g8 u) := Lib.hid ⟨hb8, ho8, hnb⟩
        have HD8 := Lib.hid (HD.out.ext hx8)
        clear hb8 hx8 hcl HD ho8 hnb
        go_upto_region 9 with (fail)
        refine wp_region_lit ?_
        refine wpList_act rfl _ rfl g8 0 rfl u (blk_range HA.out.blk) ?_
        simp only [Act.put, Act.eval, List.setIfInBounds_toArray, List.set_cons_zero, List.set_cons_succ, Nat.reduceAdd, Array.getD_eq_getD_getElem?, List.getElem?_toArray, List.getElem?_cons_succ, List.getElem?_cons_zero, Option.getD_some]
        have hgr := great_any u w8 hke.2.2
        clear hke
        obtain ⟨gb, hgb⟩ : ∃ gb, u.great = gb := ⟨_, rfl⟩
        rw [hgb] at hgr
        cases gb with
        | true =>
          go_wp2_with (go_at_call 19; refine hgr.mono ?_; rintro e w9 ⟨rfl, h9⟩)
          go_ret
          exact ⟨rfl, HD8.out.base.1.trans h9⟩
        | false =>
          have Z1 := Lib.hid (great_of hgb)
          clear hgb
          go_upto_block 2 with (go_at_call 19; refine hgr.mono ?_; rintro e w9 ⟨rfl, h9⟩; have hA9 := HA.out.turn (Turn.ext h9); obtain ⟨a0, a1, a2, a3, a4, a5, a6, a7⟩ := hA9.c)
          have hS9 := HD8.out.ext h9
          have hob : p.h.ops ≤ 150 := by have := HO.out; omega
          clear HD8 HA hgr
          go_cut [9, 10] (fun e f wx => ∃ (er : Int) (es1 : List E) (p1 : P) (v2 : Value) (r2 : R), e = .int .i64 er ∧ f = .int .i64 er ∧ Hid (Duo W wx d mp es1 p1 b v2 r2) ∧ Hid (p1.h.ops ≤ ((j + 1 : Nat) : Int)))
          case first =>
            rename_i zQ1 zK2 za4 zQ zh zK1 za3 zK za2 zJ zK3 za1 za0
            clear za4 za3 za2 zh
            by_cases k1 : u.k = 1
            · as_aux_lemma =>
              -- {A1
              have q1 : (u.k == 1) = true := beq_iff_eq.2 k1
              clear k1
              have hc1 := hS9.dg.create u.nm (by unfold big; omega)
              try unfold str at hc1
              have hbg := hS9.dg.good
              have hsm := hS9.sim
              go_wp2_with (first
                | (go_at_call 9; refine hc1.mono ?_; rintro e wa ⟨rfl, es1, hD1, hT1⟩; have hM1 := hS9.toMid.disk hD1 hT1; have hA1 := hA9.turn hT1; obtain ⟨e0, e1, e2, e3, e4, e5, e6, e7⟩ := hA1.c)
                | (go_at_call 28; refine (Rk.create_ref (hM1.both hsm hbg (by omega)) u.nm).mono ?_; rintro e wb ⟨rfl, v2, r2, hR2, hS2, hB2, hN2⟩; have hZ := hM1.ref hR2 hB2 hN2 hS2))
              go_meet
              exact ⟨_, _, _, _, _, rfl, rfl, Lib.hid hZ, Lib.hid (by have h1 : (p.create u.nm).2.h.ops ≤ p.h.ops + 1 := (done_ops p ⟨1, u.nm, u.to, u.s, u.x, u.n, u.b, none, 0, []⟩); have h2 := HO.out; omega)⟩
              -- A1}
            by_cases k2 : u.k = 2
            · as_aux_lemma =>
              -- {A2
              have q1 : (u.k == 1) = false := beq_eq_false_iff_ne.2 k1
              have q2 : (u.k == 2) = true := beq_iff_eq.2 k2
              clear k1 k2
              have hc1 := hS9.dg.append u.nm u.s (by unfold big; omega) (by have := Z1.out.1; omega)
              try unfold str at hc1
              have hbg := hS9.dg.good
              have hsm := hS9.sim
              go_wp2_with (first
                | (go_at_call 11; refine hc1.mono ?_; rintro e wa ⟨rfl, es1, hD1, hT1⟩; have hM1 := hS9.toMid.disk hD1 hT1; have hA1 := hA9.turn hT1; obtain ⟨e0, e1, e2, e3, e4, e5, e6, e7⟩ := hA1.c)
                | (go_at_call 29; refine (Rk.append_ref (hM1.both hsm hbg (by omega)) u.nm u.s (by have := Z1.out.1; omega)).mono ?_; rintro e wb ⟨rfl, v2, r2, hR2, hS2, hB2, hN2⟩; have hZ := hM1.ref hR2 hB2 hN2 hS2))
              go_meet
              exact ⟨_, _, _, _, _, rfl, rfl, Lib.hid hZ, Lib.hid (by have h1 : (p.append u.nm u.s).2.h.ops ≤ p.h.ops + 1 := (done_ops p ⟨2, u.nm, u.to, u.s, u.x, u.n, u.b, none, 0, []⟩); have h2 := HO.out; omega)⟩
              -- A2}
            by_cases k3 : u.k = 3
            · as_aux_lemma =>
              -- {A3
              have q1 : (u.k == 1) = false := beq_eq_false_iff_ne.2 k1
              have q2 : (u.k == 2) = false := beq_eq_false_iff_ne.2 k2
              have q3 : (u.k == 3) = true := beq_iff_eq.2 k3
              clear k1 k2 k3
              have qr : ((p.read u.nm u.x u.n).1 != (p.read u.nm u.x u.n).1) = false := by simp
              have hc1 := hS9.dg.read u.nm u.x u.n (by unfold big; omega)
              try unfold str at hc1
              have hbg := hS9.dg.good
              have hsm := hS9.sim
              go_wp2_with (first
                | (go_at_call 18; refine hc1.mono ?_; rintro e wa ⟨rfl, es1, hD1, hT1⟩; have hM1 := hS9.toMid.disk hD1 hT1; have hA1 := hA9.turn hT1; obtain ⟨e0, e1, e2, e3, e4, e5, e6, e7⟩ := hA1.c)
                | (go_at_call 30; refine (Rk.read_ref (hM1.both hsm hbg (by omega)) u.nm u.x u.n).mono ?_; rintro e wb ⟨rfl, v2, r2, hR2, hS2, hB2, hN2⟩; have hZ := hM1.ref hR2 hB2 hN2 hS2))
              go_meet
              exact ⟨_, _, _, _, _, rfl, rfl, Lib.hid hZ, Lib.hid (by have h1 : (p.read u.nm u.x u.n).2.2.h.ops ≤ p.h.ops + 1 := (done_ops p ⟨3, u.nm, u.to, u.s, u.x, u.n, u.b, none, 0, []⟩); have h2 := HO.out; omega)⟩
              -- A3}
            by_cases k4 : u.k = 4
            · as_aux_lemma =>
              -- {A4
              have q1 : (u.k == 1) = false := beq_eq_false_iff_ne.2 k1
              have q2 : (u.k == 2) = false := beq_eq_false_iff_ne.2 k2
              have q3 : (u.k == 3) = false := beq_eq_false_iff_ne.2 k3
              have q4 : (u.k == 4) = true := beq_iff_eq.2 k4
              clear k1 k2 k3 k4
              have hc1 := hS9.dg.sync u.nm (by unfold big; omega)
              try unfold str at hc1
              have hbg := hS9.dg.good
              have hsm := hS9.sim
              go_wp2_with (first
                | (go_at_call 12; refine hc1.mono ?_; rintro e wa ⟨rfl, es1, hD1, hT1⟩; have hM1 := hS9.toMid.disk hD1 hT1; have hA1 := hA9.turn hT1; obtain ⟨e0, e1, e2, e3, e4, e5, e6, e7⟩ := hA1.c)
                | (go_at_call 31; refine (Rk.sync_ref (hM1.both hsm hbg (by omega)) u.nm).mono ?_; rintro e wb ⟨rfl, v2, r2, hR2, hS2, hB2, hN2⟩; have hZ := hM1.ref hR2 hB2 hN2 hS2))
              go_meet
              exact ⟨_, _, _, _, _, rfl, rfl, Lib.hid hZ, Lib.hid (by have h1 : (p.sync u.nm).2.h.ops ≤ p.h.ops + 1 := (done_ops p ⟨4, u.nm, u.to, u.s, u.x, u.n, u.b, none, 0, []⟩); have h2 := HO.out; omega)⟩
              -- A4}
            by_cases k5 : u.k = 5
            · as_aux_lemma =>
              -- {A5
              have q1 : (u.k == 1) = false := beq_eq_false_iff_ne.2 k1
              have q2 : (u.k == 2) = false := beq_eq_false_iff_ne.2 k2
              have q3 : (u.k == 3) = false := beq_eq_false_iff_ne.2 k3
              have q4 : (u.k == 4) = false := beq_eq_false_iff_ne.2 k4
              have q5 : (u.k == 5) = true := beq_iff_eq.2 k5
              clear k1 k2 k3 k4 k5
              have hc1 := hS9.dg.rename u.nm u.to (by unfold big; omega)
              try unfold str at hc1
              have hbg := hS9.dg.good
              have hsm := hS9.sim
              go_wp2_with (first
                | (go_at_call 32; refine hc1.mono ?_; rintro e wa ⟨rfl, es1, hD1, hT1⟩; have hM1 := hS9.toMid.disk hD1 hT1; have hA1 := hA9.turn hT1; obtain ⟨e0, e1, e2, e3, e4, e5, e6, e7⟩ := hA1.c)
                | (go_at_call 33; refine (Rk.rename_ref (hM1.both hsm hbg (by omega)) u.nm u.to).mono ?_; rintro e wb ⟨rfl, v2, r2, hR2, hS2, hB2, hN2⟩; have hZ := hM1.ref hR2 hB2 hN2 hS2))
              go_meet
              exact ⟨_, _, _, _, _, rfl, rfl, Lib.hid hZ, Lib.hid (by have h1 : (p.rename u.nm u.to).2.h.ops ≤ p.h.ops + 1 := (done_ops p ⟨5, u.nm, u.to, u.s, u.x, u.n, u.b, none, 0, []⟩); have h2 := HO.out; omega)⟩
              -- A5}
            by_cases k6 : u.k = 6
            · as_aux_lemma =>
              -- {A6
              have q1 : (u.k == 1) = false := beq_eq_false_iff_ne.2 k1
              have q2 : (u.k == 2) = false := beq_eq_false_iff_ne.2 k2
              have q3 : (u.k == 3) = false := beq_eq_false_iff_ne.2 k3
              have q4 : (u.k == 4) = false := beq_eq_false_iff_ne.2 k4
              have q5 : (u.k == 5) = false := beq_eq_false_iff_ne.2 k5
              have q6 : (u.k == 6) = true := beq_iff_eq.2 k6
              clear k1 k2 k3 k4 k5 k6
              have hc1 := hS9.dg.delete u.nm (by unfold big; omega)
              try unfold str at hc1
              have hbg := hS9.dg.good
              have hsm := hS9.sim
              go_wp2_with (first
                | (go_at_call 34; refine hc1.mono ?_; rintro e wa ⟨rfl, es1, hD1, hT1⟩; have hM1 := hS9.toMid.disk hD1 hT1; have hA1 := hA9.turn hT1; obtain ⟨e0, e1, e2, e3, e4, e5, e6, e7⟩ := hA1.c)
                | (go_at_call 35; refine (Rk.delete_ref (hM1.both hsm hbg (by omega)) u.nm).mono ?_; rintro e wb ⟨rfl, v2, r2, hR2, hS2, hB2, hN2⟩; have hZ := hM1.ref hR2 hB2 hN2 hS2))
              go_meet
              exact ⟨_, _, _, _, _, rfl, rfl, Lib.hid hZ, Lib.hid (by have h1 : (p.delete u.nm).2.h.ops ≤ p.h.ops + 1 := (done_ops p ⟨6, u.nm, u.to, u.s, u.x, u.n, u.b, none, 0, []⟩); have h2 := HO.out; omega)⟩
              -- A6}
            by_cases k7 : u.k = 7
            · as_aux_lemma =>
              -- {A7
              have q1 : (u.k == 1) = false := beq_eq_false_iff_ne.2 k1
              have q2 : (u.k == 2) = false := beq_eq_false_iff_ne.2 k2
              have q3 : (u.k == 3) = false := beq_eq_false_iff_ne.2 k3
              have q4 : (u.k == 4) = false := beq_eq_false_iff_ne.2 k4
              have q5 : (u.k == 5) = false := beq_eq_false_iff_ne.2 k5
              have q6 : (u.k == 6) = false := beq_eq_false_iff_ne.2 k6
              have q7 : (u.k == 7) = true := beq_iff_eq.2 k7
              clear k1 k2 k3 k4 k5 k6 k7
              have hc1 := hS9.dg.arm u.x u.n u.b (by unfold big; omega)
              try unfold str at hc1
              have hbg := hS9.dg.good
              have hsm := hS9.sim
              go_wp2_with (first
                | (go_at_call 10; refine hc1.mono ?_; rintro e wa ⟨rfl, es1, hD1, hT1⟩; have hM1 := hS9.toMid.disk hD1 hT1; have hA1 := hA9.turn hT1; obtain ⟨e0, e1, e2, e3, e4, e5, e6, e7⟩ := hA1.c)
                | (go_at_call 36; refine (Rk.arm_ref (hM1.both hsm hbg (by omega)) u.x u.n u.b).mono ?_; rintro e wb ⟨rfl, v2, r2, hR2, hS2, hB2, hN2⟩; have hZ := hM1.ref hR2 hB2 hN2 hS2))
              go_meet
              exact ⟨_, _, _, _, _, rfl, rfl, Lib.hid hZ, Lib.hid (by have h1 : (⟨p.fs, p.h.arm u.x u.n u.b⟩ : P).h.ops ≤ p.h.ops + 1 := (by show (p.h.arm u.x u.n u.b).ops ≤ p.h.ops + 1; rw [(arm_keep p.h u.x u.n u.b).2.2.1]; omega); have h2 := HO.out; omega)⟩
              -- A7}
            by_cases k8 : u.k = 8
            · as_aux_lemma =>
              -- {A8
              have q1 : (u.k == 1) = false := beq_eq_false_iff_ne.2 k1
              have q2 : (u.k == 2) = false := beq_eq_false_iff_ne.2 k2
              have q3 : (u.k == 3) = false := beq_eq_false_iff_ne.2 k3
              have q4 : (u.k == 4) = false := beq_eq_false_iff_ne.2 k4
              have q5 : (u.k == 5) = false := beq_eq_false_iff_ne.2 k5
              have q6 : (u.k == 6) = false := beq_eq_false_iff_ne.2 k6
              have q7 : (u.k == 7) = false := beq_eq_false_iff_ne.2 k7
              have q8 : (u.k == 8) = true := beq_iff_eq.2 k8
              clear k1 k2 k3 k4 k5 k6 k7 k8
              have hc1 := hS9.dg.off
              try unfold str at hc1
              have hbg := hS9.dg.good
              have hsm := hS9.sim
              go_wp2_with (first
                | (go_at_call 13; refine hc1.mono ?_; rintro e wa ⟨rfl, es1, hD1, hT1⟩; have hM1 := hS9.toMid.disk hD1 hT1; have hA1 := hA9.turn hT1; obtain ⟨e0, e1, e2, e3, e4, e5, e6, e7⟩ := hA1.c)
                | (go_at_call 37; refine (Rk.off_ref (hM1.both hsm hbg (by omega))).mono ?_; rintro e wb ⟨rfl, v2, r2, hR2, hS2, hB2, hN2⟩; have hZ := hM1.ref hR2 hB2 hN2 hS2))
              go_meet
              exact ⟨_, _, _, _, _, rfl, rfl, Lib.hid hZ, Lib.hid (by have h2 := HO.out; show p.h.ops ≤ ((j + 1 : Nat) : Int); omega)⟩
              -- A8}
            by_cases k9 : u.k = 9
            · as_aux_lemma =>
              -- {A9
              have q1 : (u.k == 1) = false := beq_eq_false_iff_ne.2 k1
              have q2 : (u.k == 2) = false := beq_eq_false_iff_ne.2 k2
              have q3 : (u.k == 3) = false := beq_eq_false_iff_ne.2 k3
              have q4 : (u.k == 4) = false := beq_eq_false_iff_ne.2 k4
              have q5 : (u.k == 5) = false := beq_eq_false_iff_ne.2 k5
              have q6 : (u.k == 6) = false := beq_eq_false_iff_ne.2 k6
              have q7 : (u.k == 7) = false := beq_eq_false_iff_ne.2 k7
              have q8 : (u.k == 8) = false := beq_eq_false_iff_ne.2 k8
              have q9 : (u.k == 9) = true := beq_iff_eq.2 k9
              clear k1 k2 k3 k4 k5 k6 k7 k8 k9
              have hc1 := hS9.dg.on _ u.ks (hS9.toMid.kr u HKE.out).1
              try unfold str at hc1
              have hbg := hS9.dg.good
              have hsm := hS9.sim
              go_wp2_with (first
                | (go_at_call 14; refine hc1.mono ?_; rintro e wa ⟨rfl, es1, hD1, hT1⟩; have hM1 := hS9.toMid.disk hD1 hT1; have hA1 := hA9.turn hT1; obtain ⟨e0, e1, e2, e3, e4, e5, e6, e7⟩ := hA1.c)
                | (go_at_call 38; refine (on_ref (hM1.both hsm hbg (by omega)) u.ka u.kc u.ks (hM1.kr u HKE.out).2.1 (hM1.kr u HKE.out).2.2 HBD.out Z1.out.2.2.2).mono ?_; rintro e wb ⟨rfl, v2, r2, hR2, hS2, hB2, hN2⟩; have hZ := hM1.ref hR2 hB2 hN2 hS2))
              go_meet
              exact ⟨_, _, _, _, _, rfl, rfl, Lib.hid hZ, Lib.hid (by have h1 : (p.on u.ks).h.ops ≤ p.h.ops + 1 := (by rw [on_ops]; omega); have h2 := HO.out; omega)⟩
              -- A9}
            by_cases k10 : u.k = 10
            · skip
              -- {A10
              have q1 : (u.k == 1) = false := beq_eq_false_iff_ne.2 k1
              have q2 : (u.k == 2) = false := beq_eq_false_iff_ne.2 k2
              have q3 : (u.k == 3) = false := beq_eq_false_iff_ne.2 k3
              have q4 : (u.k == 4) = false := beq_eq_false_iff_ne.2 k4
              have q5 : (u.k == 5) = false := beq_eq_false_iff_ne.2 k5
              have q6 : (u.k == 6) = false := beq_eq_false_iff_ne.2 k6
              have q7 : (u.k == 7) = false := beq_eq_false_iff_ne.2 k7
              have q8 : (u.k == 8) = false := beq_eq_false_iff_ne.2 k8
              have q9 : (u.k == 9) = false := beq_eq_false_iff_ne.2 k9
              have q10 : (u.k == 10) = true := beq_iff_eq.2 k10
              clear k1 k2 k3 k4 k5 k6 k7 k8 k9 k10
              have HS9 := Lib.hid hS9
              have HA9 := Lib.hid hA9
              obtain ⟨y, hy⟩ : ∃ y : UInt8, IntKind.u8.wrap u.b = ((y.toNat : Nat) : Int) := u8_of u.b
              have hbg := Lib.hid hS9.dg.good
              have hsm := Lib.hid hS9.sim
              go_wp2_with fail
              have HCL : Hid (∀ w1, Kp g8 w9 w1 → w1.cell? ⟨g8, 1, none⟩ = some (.string ⟨u.nm.toArray⟩) ∧ w1.cell? ⟨g8, 4, none⟩ = some (.int .i64 u.x) ∧ w1.cell? ⟨g8, 6, none⟩ = some (.int .i64 u.b)) := Lib.hid fun w1 h => by
                have hb : Blk w1 g8 41 u.cells := (h HA9.out.out.1).2.trans HA9.out.blk
                exact ⟨hb.cell 1, hb.cell 4, hb.cell 6⟩
              apply Rgp.wp_tab (Kp g8) Reg.Ext 8 17 (fun w1 => Mid W w1 d mp es p b v r ∧ Act8 w1 d mp es b g8 u) (by kernel_rfl) (by kernel_rfl) (by kernel_rfl) Reg.Ext.refl (fun _ _ h => Kp.of_ext h) (fun _ _ _ => Kp.trans) (Kp.of_ext (Reg.Ext.drew w9)) (fun _ _ h k => ⟨k.1.ext h, k.2.turn (Turn.ext h)⟩) ⟨HS9.out.toMid.ext (Reg.Ext.drew w9), HA9.out.turn (Turn.ext (Reg.Ext.drew w9))⟩
              case h =>
                intro O
                repeat (first
                  | (apply Rgp.TW.move_ (R := Kp g8) (Rs := Reg.Ext) (fun _ _ h => Kp.of_ext h) Reg.Ext.refl _ rfl rfl
                     · simp only [Act.put, Act.eval, List.setIfInBounds_toArray, List.set_cons_zero, List.set_cons_succ, Nat.reduceAdd, Array.getD_eq_getD_getElem?, List.getElem?_toArray, List.getElem?_cons_succ, List.getElem?_cons_zero, Option.getD_some]
                       rfl)
                  | (apply Rgp.TW.assign_ (R := Kp g8) (Rs := Reg.Ext) (fun _ _ h => Kp.of_ext h) Reg.Ext.refl _ rfl rfl
                     · simp only [Act.put, Act.eval, List.setIfInBounds_toArray, List.set_cons_zero, List.set_cons_succ, Nat.reduceAdd, Array.getD_eq_getD_getElem?, List.getElem?_toArray, List.getElem?_cons_succ, List.getElem?_cons_zero, Option.getD_some]
                       rfl)
                  | (apply Rgp.TW.pure_ (R := Kp g8) (Rs := Reg.Ext) (fun _ _ h => Kp.of_ext h) rfl (Or.inr (by kernel_rfl))
                     · intro w1 hw1 hf K hK
                       simp only [Act.put, List.setIfInBounds_toArray, List.set_cons_zero, List.set_cons_succ] at hK
                       have HK := Lib.hid hK
                       clear hf hK
                       obtain ⟨b1, b4, b6⟩ := HCL.out w1 hw1
                       unfold Reg.One; dsimp only
                       go_wp2_with fail
                       exact HK.out _ (Reg.Ext.refl _)
                     · simp only [Act.put, Act.eval, List.setIfInBounds_toArray, List.set_cons_zero, List.set_cons_succ, Nat.reduceAdd, Array.getD_eq_getD_getElem?, List.getElem?_toArray, List.getElem?_cons_succ, List.getElem?_cons_zero, Option.getD_some]
                       rfl))
                apply Rgp.TW.turnc_ (R := Kp g8) (Rs := Reg.Ext) (c := .bool (p.flip u.nm u.x y).1) (by rfl) (fun w1 => ∃ es1, Mid W w1 d mp es1 (p.flip u.nm u.x y).2 b v r ∧ Act8 w1 d mp es1 b g8 u) rfl (fun _ _ h ⟨es1, k2, k3⟩ => ⟨es1, k2.ext h, k3.turn (Turn.ext h)⟩) (Or.inr (by kernel_rfl))
                · intro w1 hw1 hs1 hf K hK
                  simp only [Act.put, List.setIfInBounds_toArray, List.set_cons_zero, List.set_cons_succ] at hK
                  have HK := Lib.hid hK
                  clear hK hf
                  have hc := hs1.1.dg.flip u.nm u.x y (by have := Z1.out.2.1; unfold maxLen; omega)
                  unfold Reg.One; dsimp only
                  go_wp2_with fail
                  refine hc.mono ?_
                  rintro e w' ⟨rfl, es1, h1, hT⟩
                  go_wp2_with fail
                  exact HK.out _ (fun hg => ⟨(hT.out hs1.2.out).1.1, (hT.out hs1.2.out).2⟩) ⟨es1, hs1.1.disk h1 hT, hs1.2.turn hT⟩
                · simp only [Act.put, Act.eval, List.setIfInBounds_toArray, List.set_cons_zero, List.set_cons_succ, Nat.reduceAdd, Array.getD_eq_getD_getElem?, List.getElem?_toArray, List.getElem?_cons_succ, List.getElem?_cons_zero, Option.getD_some]
                  rfl
                repeat (first
                  | (apply Rgp.TW.move_ (R := Kp g8) (Rs := Reg.Ext) (fun _ _ h => Kp.of_ext h) Reg.Ext.refl _ rfl rfl
                     · simp only [Act.put, Act.eval, List.setIfInBounds_toArray, List.set_cons_zero, List.set_cons_succ, Nat.reduceAdd, Array.getD_eq_getD_getElem?, List.getElem?_toArray, List.getElem?_cons_succ, List.getElem?_cons_zero, Option.getD_some]
                       rfl)
                  | (apply Rgp.TW.assign_ (R := Kp g8) (Rs := Reg.Ext) (fun _ _ h => Kp.of_ext h) Reg.Ext.refl _ rfl rfl
                     · simp only [Act.put, Act.eval, List.setIfInBounds_toArray, List.set_cons_zero, List.set_cons_succ, Nat.reduceAdd, Array.getD_eq_getD_getElem?, List.getElem?_toArray, List.getElem?_cons_succ, List.getElem?_cons_zero, Option.getD_some]
                       rfl)
                  | (apply Rgp.TW.pure_ (R := Kp g8) (Rs := Reg.Ext) (fun _ _ h => Kp.of_ext h) rfl (Or.inr (by kernel_rfl))
                     · intro w1 hw1 hf K hK
                       simp only [Act.put, List.setIfInBounds_toArray, List.set_cons_zero, List.set_cons_succ] at hK
                       have HK := Lib.hid hK
                       clear hf hK
                       obtain ⟨b1, b4, b6⟩ := HCL.out w1 hw1
                       unfold Reg.One; dsimp only
                       go_wp2_with fail
                       exact HK.out _ (Reg.Ext.refl _)
                     · simp only [Act.put, Act.eval, List.setIfInBounds_toArray, List.set_cons_zero, List.set_cons_succ, Nat.reduceAdd, Array.getD_eq_getD_getElem?, List.getElem?_toArray, List.getElem?_cons_succ, List.getElem?_cons_zero, Option.getD_some]
                       rfl))
                apply Rgp.TW.lastc_ (R := Kp g8) (Rs := Reg.Ext) (c := .bool (p.flip u.nm u.x y).1) (by rfl) (fun w1 => ∃ es1 v3 r3, Duo W w1 d mp es1 (p.flip u.nm u.x y).2 b v3 r3) rfl (fun _ _ h ⟨es1, v3, r3, k2⟩ => ⟨es1, v3, r3, k2.ext h⟩)
                · intro w1 hw1 hf K hK
                  simp only [Act.put, List.setIfInBounds_toArray, List.set_cons_zero, List.set_cons_succ] at hK
                  have HK := Lib.hid hK
                  clear hK
                  obtain ⟨es1, hM, hA⟩ := hf.get0 (by kernel_rfl) (Or.inr ⟨Or.inl rfl, fun _ => rfl⟩)
                  have HM := Lib.hid hM
                  clear hf hA
                  have hc := Rk.flip_ref (hM.both hsm.out hbg.out (by omega)) u.nm u.x y
                  clear hM
                  unfold Reg.One; dsimp only
                  go_wp2_with fail
                  refine hc.mono ?_
                  rintro e w' ⟨rfl, v3, r3, hR, hS, hB, hN⟩
                  go_wp2_with fail
                  exact HK.out _ ⟨es1, v3, r3, HM.out.ref hR hB hN hS⟩
                · simp only [Act.put, Act.eval, List.setIfInBounds_toArray, List.set_cons_zero, List.set_cons_succ, Nat.reduceAdd, Array.getD_eq_getD_getElem?, List.getElem?_toArray, List.getElem?_cons_succ, List.getElem?_cons_zero, Option.getD_some]
                  rfl
                apply Rgp.TW.afterp_ (R := Kp g8) (Rs := Reg.Ext) (c := .bool false) (fun _ _ h => Kp.of_ext h) rfl
                · intro w1 hf K hK
                  simp only [Act.put, List.setIfInBounds_toArray, List.set_cons_zero, List.set_cons_succ] at hK
                  have HK := Lib.hid hK
                  clear hK hf
                  have qf : ((p.flip u.nm u.x y).1 != (p.flip u.nm u.x y).1) = false := bne_self_eq_false _
                  unfold Reg.One; dsimp only
                  go_wp2_with fail
                  exact HK.out _ (Reg.Ext.refl _)
                · simp only [Act.put, Act.eval, List.setIfInBounds_toArray, List.set_cons_zero, List.set_cons_succ, Nat.reduceAdd, Array.getD_eq_getD_getElem?, List.getElem?_toArray, List.getElem?_cons_succ, List.getElem?_cons_zero, Option.getD_some]
                  rfl
                refine Rgp.TW.nil_ ?_
                intro wx hA
                obtain ⟨es1, v3, r3, hZ⟩ := hA.get0 (Or.inl rfl)
                have HZ := Lib.hid hZ
                clear hA hZ HCL
                go_wp2_with fail
                go_meet
                exact ⟨0, es1, _, v3, r3, rfl, rfl, HZ, Lib.hid (by rw [flip_ops]; have h2 := HO.out; omega)⟩
              case hlen => rfl
              -- A10}
            by_cases k11 : u.k = 11
            · as_aux_lemma =>
              -- {A11
              have q1 : (u.k == 1) = false := beq_eq_false_iff_ne.2 k1
              have q2 : (u.k == 2) = false := beq_eq_false_iff_ne.2 k2
              have q3 : (u.k == 3) = false := beq_eq_false_iff_ne.2 k3
              have q4 : (u.k == 4) = false := beq_eq_false_iff_ne.2 k4
              have q5 : (u.k == 5) = false := beq_eq_false_iff_ne.2 k5
              have q6 : (u.k == 6) = false := beq_eq_false_iff_ne.2 k6
              have q7 : (u.k == 7) = false := beq_eq_false_iff_ne.2 k7
              have q8 : (u.k == 8) = false := beq_eq_false_iff_ne.2 k8
              have q9 : (u.k == 9) = false := beq_eq_false_iff_ne.2 k9
              have q10 : (u.k == 10) = false := beq_eq_false_iff_ne.2 k10
              have q11 : (u.k == 11) = true := beq_iff_eq.2 k11
              clear k1 k2 k3 k4 k5 k6 k7 k8 k9 k10 k11
              have hc1 := hS9.dg.lay u.nm u.s (by have := Z1.out.2.1; unfold maxLen; omega) (by have := Z1.out.1; omega)
              try unfold str at hc1
              have hbg := hS9.dg.good
              have hsm := hS9.sim
              go_wp2_with (first
                | (go_at_call 25; refine hc1.mono ?_; rintro e wa ⟨rfl, es1, hD1, hT1⟩; have hM1 := hS9.toMid.disk hD1 hT1; have hA1 := hA9.turn hT1; obtain ⟨e0, e1, e2, e3, e4, e5, e6, e7⟩ := hA1.c)
                | (go_at_call 40; refine (Rk.lay_ref (hM1.both hsm hbg (by omega)) u.nm u.s (by have := Z1.out.1; omega)).mono ?_; rintro e wb ⟨rfl, v2, r2, hR2, hS2, hB2, hN2⟩; have hZ := hM1.ref hR2 hB2 hN2 hS2))
              go_meet
              exact ⟨_, _, _, _, _, rfl, rfl, Lib.hid hZ, Lib.hid (by have h1 : (p.lay u.nm u.s).2.h.ops ≤ p.h.ops + 1 := (by rw [lay_ops]; omega); have h2 := HO.out; omega)⟩
              -- A11}
            have q1 : (u.k == 1) = false := beq_eq_false_iff_ne.2 k1
            have q2 : (u.k == 2) = false := beq_eq_false_iff_ne.2 k2
            have q3 : (u.k == 3) = false := beq_eq_false_iff_ne.2 k3
            have q4 : (u.k == 4) = false := beq_eq_false_iff_ne.2 k4
            have q5 : (u.k == 5) = false := beq_eq_false_iff_ne.2 k5
            have q6 : (u.k == 6) = false := beq_eq_false_iff_ne.2 k6
            have q7 : (u.k == 7) = false := beq_eq_false_iff_ne.2 k7
            have q8 : (u.k == 8) = false := beq_eq_false_iff_ne.2 k8
            have q9 : (u.k == 9) = false := beq_eq_false_iff_ne.2 k9
            have q10 : (u.k == 10) = false := beq_eq_false_iff_ne.2 k10
            have q11 : (u.k == 11) = false := beq_eq_false_iff_ne.2 k11
            clear k1 k2 k3 k4 k5 k6 k7 k8 k9 k10 k11
            go_wp2_with fail
            go_meet
            exact ⟨0, es, p, v, r, rfl, rfl, Lib.hid hS9, Lib.hid (by have h2 := HO.out; omega)⟩
          case rest =>
            as_aux_lemma =>
              -- {R
              obtain ⟨er, es1, p1, v2, r2, rfl, rfl, HZ, HO1⟩ := hcut
              obtain ⟨uu, oo, dd, hE⟩ := HZ.out.ends
              have HE := Lib.hid hE
              have cc2 := hE.o2 _ (Reg.Ext.refl _)
              have cc6 := hE.d2 _ (Reg.Ext.refl _)
              clear hE
              have qe : (er != er) = false := bne_self_eq_false _
              have qu : (uu != uu) = false := bne_self_eq_false uu
              have qo : (oo != oo) = false := bne_self_eq_false oo
              have qd : (dd != dd) = false := bne_self_eq_false dd
              go_wp2_with fail
              go_quiet (first
                | (go_at_call 21; exact Calls.quiet_of_same (HE.out.u1 _ (Reg.Ext.drewN _ _)))
                | (go_at_call 41; exact Calls.quiet_of_same (HE.out.u2 _ (Reg.Ext.drewN _ _)))
                | (go_at_call 22; exact Calls.quiet_of_same (HE.out.o1 _ (Reg.Ext.drewN _ _)))
                | (go_at_call 17; exact Calls.quiet_of_same (HE.out.d1 _ (Reg.Ext.drewN _ _))))
              go_wp2_with fail
              go_roundw
              case rel =>
                exact ⟨j + 1, es1, p1, v2, r2, by go_num, by omega, by omega, Lib.hid (HZ.out.ext (Reg.Ext.drewN _ _)), HO1⟩
              case measure => simp [intOf]; omega
              -- R}
      · have hje : j = 150 := by omega
        subst hje
        as_aux_lemma =>
          -- {F
          have hDD := HD.out
          have hsl := HD.out.sim.l
          have hgd := Lib.hid HD.out.dg.good
          obtain ⟨LA, lcap, hv⟩ := HD.out.rd.row.len
          rw [hsl] at hv
          subst hv
          have c0 := HD.out.rd.c.1
          have HSL := Lib.hid hsl
          clear hDD hsl
          have hcnt : p.fs.length ≤ 200 := hgd.out.cnt
          go_wp2_with (go_at_call 20; refine (Dg.names HD.out.dg).mono ?_; rintro e x1 ⟨nA, nc, rfl, hnc, hnr, hx1⟩; have NR1 := Lib.hid hnr; have HD1 := Lib.hid (HD.out.ext hx1); have c0 := HD1.out.rd.c.1; clear hnr hx1)
          go_loopw [16, 17] (fun k _ wr => ∃ (m : Nat), k = .int .i64 (m : Int) ∧ m ≤ p.fs.length ∧ Hid (Reg.Ext x1 wr)) (fun k _ _ => p.fs.length - (intOf k).toNat)
          case atStart => exact ⟨0, rfl, Nat.zero_le _, Lib.hid (Reg.Ext.refl _)⟩
          case round =>
            obtain ⟨m, rfl, hm2, HY⟩ := hrel
            by_cases hml : m < p.fs.length
            · obtain ⟨rb, rfl, hro, hnm⟩ := NR1.out m hml
              have hgt := hgd.out.get_ m hml
              have hnl : p.fs[m].name.length ≤ 80 := isName_len (hgd.out.names _ (List.getElem_mem hml))
              have HBy : Hid (∀ w', Reg.Ext x1 w' → Calls Try.prog 15 #[.pointer (some ⟨d, 0, none⟩), .string ⟨p.fs[m].name.toArray⟩] w' fun e w2 => e = .returned (.string ⟨p.fs[m].l.toArray⟩) ∧ w2 = w') := Lib.hid fun w' hx => by
                have h := (HD1.out.dg.ext hx).bytes p.fs[m].name (by unfold maxLen; omega)
                rw [hgt] at h
                exact h
              have HSz : Hid (∀ w', Reg.Ext x1 w' → Calls Try.prog 24 #[.pointer (some ⟨d, 0, none⟩), .string ⟨p.fs[m].name.toArray⟩] w' fun e w2 => e = .returned (.int .i64 (p.fs[m].l.length : Int)) ∧ w2 = w') := Lib.hid fun w' hx => by
                have h := (HD1.out.dg.ext hx).size p.fs[m].name (by unfold maxLen; omega)
                rw [hgt] at h
                exact h
              have HSf : Hid (∀ w', Reg.Ext x1 w' → Calls Try.prog 16 #[.pointer (some ⟨d, 0, none⟩), .string ⟨p.fs[m].name.toArray⟩] w' fun e w2 => e = .returned (.int .i64 (p.fs[m].safe : Int)) ∧ w2 = w') := Lib.hid fun w' hx => by
                have h := (HD1.out.dg.ext hx).safe p.fs[m].name (by unfold maxLen; omega)
                rw [hgt] at h
                exact h
              have hrow : Rk.LV wr (.slice LA p.fs.length lcap) p.fs := by
                have := (HD1.out.rd.ext HY.out).row
                rw [HSL.out] at this
                exact this
              rcases hrow.form with ⟨_, h2⟩ | ⟨g, cap', h2, _, _, _⟩
              · rw [h2] at hml; exact absurd hml (Nat.not_lt_zero _)
              injection h2 with h2 h2b h3
              clear h2b
              subst h2 h3
              have hrg := hrow.range m hml
              have c0 := (HD1.out.rd.ext HY.out).c.1
              have hnmw := HY.out.at_ hnm
              unfold str at hnmw
              clear hgt hrow hnm hro hnl
              generalize p.fs[m] = f at *
              go_upto_region 59 with (fail)
              refine wp_region_lit ?_
              iterate 18 go_step
              refine Rk.wpList_file rfl _ rfl g (m * 3) rfl f hrg ?_
              simp only [Act.put, Act.eval, List.setIfInBounds_toArray, List.set_cons_zero, List.set_cons_succ, Nat.reduceAdd, Array.getD_eq_getD_getElem?, List.getElem?_toArray, List.getElem?_cons_succ, List.getElem?_cons_zero, Option.getD_some]
              iterate 3 go_step
              have hbf := Blk.new wr 59 #[.string ⟨#[]⟩, .string ⟨#[]⟩, .int .i64 0]
              refine Rk.wpList_stfile rfl _ _ rfl wr.heap.size 0 f rfl rfl (hbf.there 3 (Nat.le_refl _)) ?_
              simp only [Act.put, Act.eval, List.setIfInBounds_toArray, List.set_cons_zero, List.set_cons_succ, Nat.reduceAdd, Array.getD_eq_getD_getElem?, List.getElem?_toArray, List.getElem?_cons_succ, List.getElem?_cons_zero, Option.getD_some]
              clear hbf
              obtain ⟨hb8, hx8⟩ := Rk.newfile wr f #[.string ⟨#[]⟩, .string ⟨#[]⟩, .int .i64 0] rfl
              generalize (wr.alloc (Obj.cells #[.string ⟨#[]⟩, .string ⟨#[]⟩, .int .i64 0] 59)).setCells wr.heap.size 0 (Rk.fcs f) = w8 at *
              have y0 := hb8.cell 0
              have y1 := hb8.cell 1
              have y2 := hb8.cell 2
              dsimp only [Rk.fcs, List.getElem?_cons_zero, List.getElem?_cons_succ] at y0 y1 y2
              have hnm8 := hx8.at_ hnmw
              have hz := ba_size f.l
              have HY8 := Lib.hid (HY.out.trans hx8)
              clear hb8 hx8 hrg c0 hnmw
              have qn : (f.name != f.name) = false := bne_self_eq_false _
              have ql : (f.l != f.l) = false := bne_self_eq_false _
              have qz : (((f.l.length : Nat) : Int) != ((f.l.length : Nat) : Int)) = false := bne_self_eq_false _
              have qs : (((f.safe : Nat) : Int) != ((f.safe : Nat) : Int)) = false := bne_self_eq_false _
              go_wp2_with fail
              go_quiet (first
                | (go_at_call 15; exact Calls.quiet_of_same (HBy.out _ (HY8.out.trans (Reg.Ext.drewN _ _))))
                | (go_at_call 24; exact Calls.quiet_of_same (HSz.out _ (HY8.out.trans (Reg.Ext.drewN _ _))))
                | (go_at_call 16; exact Calls.quiet_of_same (HSf.out _ (HY8.out.trans (Reg.Ext.drewN _ _)))))
              go_wp2_with fail
              go_roundw
              case rel => exact ⟨m + 1, by go_num, by omega, Lib.hid (HY8.out.trans (Reg.Ext.drewN _ _))⟩
              case measure => simp [intOf]; omega
            · have hme : m = p.fs.length := by omega
              subst hme
              go_wp2_with fail
              go_ret
              exact ⟨rfl, HD1.out.base.1.trans HY.out⟩
          -- F}
    · have hje : j = us.length := by omega
      subst hje
      as_aux_lemma =>
        -- {G
        have hDD := HD.out
        have hsl := HD.out.sim.l
        have hgd := Lib.hid HD.out.dg.good
        obtain ⟨LA, lcap, hv⟩ := HD.out.rd.row.len
        rw [hsl] at hv
        subst hv
        have c0 := HD.out.rd.c.1
        have HSL := Lib.hid hsl
        clear hDD hsl
        have hcnt : p.fs.length ≤ 200 := hgd.out.cnt
        go_wp2_with (go_at_call 20; refine (Dg.names HD.out.dg).mono ?_; rintro e x1 ⟨nA, nc, rfl, hnc, hnr, hx1⟩; have NR1 := Lib.hid hnr; have HD1 := Lib.hid (HD.out.ext hx1); have c0 := HD1.out.rd.c.1; clear hnr hx1)
        go_loopw [16, 17] (fun k _ wr => ∃ (m : Nat), k = .int .i64 (m : Int) ∧ m ≤ p.fs.length ∧ Hid (Reg.Ext x1 wr)) (fun k _ _ => p.fs.length - (intOf k).toNat)
        case atStart => exact ⟨0, rfl, Nat.zero_le _, Lib.hid (Reg.Ext.refl _)⟩
        case round =>
          obtain ⟨m, rfl, hm2, HY⟩ := hrel
          by_cases hml : m < p.fs.length
          · obtain ⟨rb, rfl, hro, hnm⟩ := NR1.out m hml
            have hgt := hgd.out.get_ m hml
            have hnl : p.fs[m].name.length ≤ 80 := isName_len (hgd.out.names _ (List.getElem_mem hml))
            have HBy : Hid (∀ w', Reg.Ext x1 w' → Calls Try.prog 15 #[.pointer (some ⟨d, 0, none⟩), .string ⟨p.fs[m].name.toArray⟩] w' fun e w2 => e = .returned (.string ⟨p.fs[m].l.toArray⟩) ∧ w2 = w') := Lib.hid fun w' hx => by
              have h := (HD1.out.dg.ext hx).bytes p.fs[m].name (by unfold maxLen; omega)
              rw [hgt] at h
              exact h
            have HSz : Hid (∀ w', Reg.Ext x1 w' → Calls Try.prog 24 #[.pointer (some ⟨d, 0, none⟩), .string ⟨p.fs[m].name.toArray⟩] w' fun e w2 => e = .returned (.int .i64 (p.fs[m].l.length : Int)) ∧ w2 = w') := Lib.hid fun w' hx => by
              have h := (HD1.out.dg.ext hx).size p.fs[m].name (by unfold maxLen; omega)
              rw [hgt] at h
              exact h
            have HSf : Hid (∀ w', Reg.Ext x1 w' → Calls Try.prog 16 #[.pointer (some ⟨d, 0, none⟩), .string ⟨p.fs[m].name.toArray⟩] w' fun e w2 => e = .returned (.int .i64 (p.fs[m].safe : Int)) ∧ w2 = w') := Lib.hid fun w' hx => by
              have h := (HD1.out.dg.ext hx).safe p.fs[m].name (by unfold maxLen; omega)
              rw [hgt] at h
              exact h
            have hrow : Rk.LV wr (.slice LA p.fs.length lcap) p.fs := by
              have := (HD1.out.rd.ext HY.out).row
              rw [HSL.out] at this
              exact this
            rcases hrow.form with ⟨_, h2⟩ | ⟨g, cap', h2, _, _, _⟩
            · rw [h2] at hml; exact absurd hml (Nat.not_lt_zero _)
            injection h2 with h2 h2b h3
            clear h2b
            subst h2 h3
            have hrg := hrow.range m hml
            have c0 := (HD1.out.rd.ext HY.out).c.1
            have hnmw := HY.out.at_ hnm
            unfold str at hnmw
            clear hgt hrow hnm hro hnl
            generalize p.fs[m] = f at *
            go_upto_region 59 with (fail)
            refine wp_region_lit ?_
            iterate 18 go_step
            refine Rk.wpList_file rfl _ rfl g (m * 3) rfl f hrg ?_
            simp only [Act.put, Act.eval, List.setIfInBounds_toArray, List.set_cons_zero, List.set_cons_succ, Nat.reduceAdd, Array.getD_eq_getD_getElem?, List.getElem?_toArray, List.getElem?_cons_succ, List.getElem?_cons_zero, Option.getD_some]
            iterate 3 go_step
            have hbf := Blk.new wr 59 #[.string ⟨#[]⟩, .string ⟨#[]⟩, .int .i64 0]
            refine Rk.wpList_stfile rfl _ _ rfl wr.heap.size 0 f rfl rfl (hbf.there 3 (Nat.le_refl _)) ?_
            simp only [Act.put, Act.eval, List.setIfInBounds_toArray, List.set_cons_zero, List.set_cons_succ, Nat.reduceAdd, Array.getD_eq_getD_getElem?, List.getElem?_toArray, List.getElem?_cons_succ, List.getElem?_cons_zero, Option.getD_some]
            clear hbf
            obtain ⟨hb8, hx8⟩ := Rk.newfile wr f #[.string ⟨#[]⟩, .string ⟨#[]⟩, .int .i64 0] rfl
            generalize (wr.alloc (Obj.cells #[.string ⟨#[]⟩, .string ⟨#[]⟩, .int .i64 0] 59)).setCells wr.heap.size 0 (Rk.fcs f) = w8 at *
            have y0 := hb8.cell 0
            have y1 := hb8.cell 1
            have y2 := hb8.cell 2
            dsimp only [Rk.fcs, List.getElem?_cons_zero, List.getElem?_cons_succ] at y0 y1 y2
            have hnm8 := hx8.at_ hnmw
            have hz := ba_size f.l
            have HY8 := Lib.hid (HY.out.trans hx8)
            clear hb8 hx8 hrg c0 hnmw
            have qn : (f.name != f.name) = false := bne_self_eq_false _
            have ql : (f.l != f.l) = false := bne_self_eq_false _
            have qz : (((f.l.length : Nat) : Int) != ((f.l.length : Nat) : Int)) = false := bne_self_eq_false _
            have qs : (((f.safe : Nat) : Int) != ((f.safe : Nat) : Int)) = false := bne_self_eq_false _
            go_wp2_with fail
            go_quiet (first
              | (go_at_call 15; exact Calls.quiet_of_same (HBy.out _ (HY8.out.trans (Reg.Ext.drewN _ _))))
              | (go_at_call 24; exact Calls.quiet_of_same (HSz.out _ (HY8.out.trans (Reg.Ext.drewN _ _))))
              | (go_at_call 16; exact Calls.quiet_of_same (HSf.out _ (HY8.out.trans (Reg.Ext.drewN _ _)))))
            go_wp2_with fail
            go_roundw
            case rel => exact ⟨m + 1, by go_num, by omega, Lib.hid (HY8.out.trans (Reg.Ext.drewN _ _))⟩
            case measure => simp [intOf]; omega
          · have hme : m = p.fs.length := by omega
            subst hme
            go_wp2_with fail
            go_ret
            exact ⟨rfl, HD1.out.base.1.trans HY.out⟩
        -- G}
end Plk
end Go.Proofs.Ytbiikihapfpkfaa

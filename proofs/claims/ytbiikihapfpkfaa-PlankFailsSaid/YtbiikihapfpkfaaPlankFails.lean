/- PlankFails. -/
import Derived.Test.YtbiikihapfpkfaaPlankRoom
import Derived.Test.YtbiikihapfpkfaaPlkDone
set_option linter.unusedSimpArgs false
set_option linter.unusedVariables false
set_option linter.unusedSectionVars false
namespace Go.Proofs.Ytbiikihapfpkfaa
open Go Go.RowKit
namespace Plk
/-- what stands ahead of a round -/
structure Calm (p : P) : Prop where
  off : p.h.off = false
  ak : p.h.ak = 0
theorem begin_calm {s : H} {ns : List (List UInt8)} (ho : s.off = false) (ha : s.ak = 0) : ((s.begin ns).1 = 0 ∨ (s.begin ns).1 = 1) ∧ (s.begin ns).2.off = false ∧ (s.begin ns).2.ak = 0 := by
  unfold H.begin
  by_cases h : (ns.any fun n => !isName n) = true
  · rw [if_pos h]; exact ⟨.inr rfl, ho, ha⟩
  · rw [if_neg h, ho, if_neg Bool.false_ne_true, if_pos (.inl ha)]; exact ⟨.inl rfl, rfl, ha⟩
/-- the next one fails -/
structure Armed (p : P) : Prop where
  off : p.h.off = false
  ak : p.h.ak = 1 ∨ p.h.ak = 2
  af : p.h.af = p.h.ops + 1
  al : p.h.al = p.h.ops + 1
theorem begin_armed {p : P} (h : Armed p) (ns : List (List UInt8)) : ((p.h.begin ns).1 = 1 ∧ (p.h.begin ns).2 = p.h) ∨ (((p.h.begin ns).1 = 11 ∨ (p.h.begin ns).1 = 12) ∧ (p.h.begin ns).2.ops = p.h.ops + 1 ∧ (p.h.begin ns).2.used = p.h.used) := by
  obtain ⟨h1, h2, h3, h4⟩ := h
  unfold H.begin
  by_cases h : (ns.any fun n => !isName n) = true
  · rw [if_pos h]; exact .inl ⟨rfl, rfl⟩
  · rw [if_neg h, h1, if_neg Bool.false_ne_true, if_neg (by omega)]
    rcases h2 with h2 | h2
    · rw [if_neg (by omega)]; exact .inr ⟨.inl rfl, rfl, rfl⟩
    · rw [if_pos h2]; exact .inr ⟨.inr rfl, rfl, rfl⟩
theorem find_armed {p : P} (h : Armed p) (n : List UInt8) : (p.find n).2.2 = none ∧ (((p.find n).1 = 1 ∧ (p.find n).2.1 = p.h) ∨ (((p.find n).1 = 11 ∨ (p.find n).1 = 12) ∧ (p.find n).2.1.ops = p.h.ops + 1 ∧ (p.find n).2.1.used = p.h.used)) := by
  have hb := begin_armed h [n]
  have hne : (p.h.begin [n]).1 ≠ 0 := by rcases hb with ⟨h1, _⟩ | ⟨h1 | h1, _⟩ <;> rw [h1] <;> decide
  unfold P.find
  rw [if_pos hne]
  exact ⟨rfl, hb⟩
theorem done_armed {p : P} (h : Armed p) (a : A) : ((p.done a).1 = 1 ∧ (p.done a).2 = p) ∨ (((p.done a).1 = 11 ∨ (p.done a).1 = 12) ∧ (p.done a).2.fs = p.fs ∧ (p.done a).2.h.ops = p.h.ops + 1 ∧ (p.done a).2.h.used = p.h.used) := by
  have hf := find_armed h a.nm
  have hb := begin_armed h
  unfold P.done
  repeat' split
  · unfold P.append
    rw [hf.1]
    rcases hf.2 with ⟨h1, h2⟩ | ⟨h1, h2, h3⟩
    · exact .inl ⟨h1, by show (⟨p.fs, _⟩ : P) = p; rw [h2]⟩
    · exact .inr ⟨h1, rfl, h2, h3⟩
  · unfold P.read
    split
    · exact .inl ⟨rfl, rfl⟩
    · rw [hf.1]
      rcases hf.2 with ⟨h1, h2⟩ | ⟨h1, h2, h3⟩
      · exact .inl ⟨h1, by show (⟨p.fs, _⟩ : P) = p; rw [h2]⟩
      · exact .inr ⟨h1, rfl, h2, h3⟩
  · unfold P.sync
    rw [hf.1]
    rcases hf.2 with ⟨h1, h2⟩ | ⟨h1, h2, h3⟩
    · exact .inl ⟨h1, by show (⟨p.fs, _⟩ : P) = p; rw [h2]⟩
    · exact .inr ⟨h1, rfl, h2, h3⟩
  · unfold P.rename
    have hb := hb [a.nm, a.to]
    have hne : (p.h.begin [a.nm, a.to]).1 ≠ 0 := by rcases hb with ⟨h1, _⟩ | ⟨h1 | h1, _⟩ <;> rw [h1] <;> decide
    rw [if_pos hne]
    rcases hb with ⟨h1, h2⟩ | ⟨h1, h2, h3⟩
    · exact .inl ⟨h1, by show (⟨p.fs, _⟩ : P) = p; rw [h2]⟩
    · exact .inr ⟨h1, rfl, h2, h3⟩
  · unfold P.delete
    rw [hf.1]
    rcases hf.2 with ⟨h1, h2⟩ | ⟨h1, h2, h3⟩
    · exact .inl ⟨h1, by show (⟨p.fs, _⟩ : P) = p; rw [h2]⟩
    · exact .inr ⟨h1, rfl, h2, h3⟩
  · unfold P.create
    have hb := hb [a.nm]
    have hne : (p.h.begin [a.nm]).1 ≠ 0 := by rcases hb with ⟨h1, _⟩ | ⟨h1 | h1, _⟩ <;> rw [h1] <;> decide
    rw [if_pos hne]
    rcases hb with ⟨h1, h2⟩ | ⟨h1, h2, h3⟩
    · exact .inl ⟨h1, by show (⟨p.fs, _⟩ : P) = p; rw [h2]⟩
    · exact .inr ⟨h1, rfl, h2, h3⟩
def okE (e : Int) : Prop := e ≠ 11 ∧ e ≠ 12
theorem ok0 : okE 0 := by unfold okE; decide
theorem ok1 : okE 1 := by unfold okE; decide
theorem ok6 : okE 6 := by unfold okE; decide
theorem ok7 : okE 7 := by unfold okE; decide
theorem ok9 : okE 9 := by unfold okE; decide
theorem ok14 : okE 14 := by unfold okE; decide
theorem okE_begin {s : H} {ns : List (List UInt8)} (ho : s.off = false) (ha : s.ak = 0) : okE (s.begin ns).1 := by
  rcases (begin_calm (ns := ns) ho ha).1 with h | h <;> rw [h] <;> unfold okE <;> decide
theorem okE_find {p : P} (h : Calm p) (n : List UInt8) : okE (p.find n).1 ∧ (p.find n).2.1.off = false ∧ (p.find n).2.1.ak = 0 := by
  refine ⟨?_, ?_⟩
  · unfold P.find
    split
    · exact okE_begin h.off h.ak
    · split
      · exact ok7
      · exact ok0
  · rw [pfind_keep]
    exact (begin_calm h.off h.ak).2
theorem done_calm {p : P} (h : Calm p) (a : A) : okE (p.done a).1 ∧ Calm (p.done a).2 := by
  have hf := okE_find h a.nm
  have hb := fun ns => okE_begin (s := p.h) (ns := ns) h.off h.ak
  have hc := fun ns => (begin_calm (s := p.h) (ns := ns) h.off h.ak).2
  unfold P.done
  repeat' split
  · unfold P.append
    split
    · exact ⟨hf.1, hf.2.1, hf.2.2⟩
    · split
      · exact ⟨by first | exact ok0 | exact ok1 | exact ok6 | exact ok7 | exact ok9 | exact ok14, hf.2.1, hf.2.2⟩
      · exact ⟨by first | exact ok0 | exact ok1 | exact ok6 | exact ok7 | exact ok9 | exact ok14, hf.2.1, hf.2.2⟩
  · unfold P.read
    split
    · exact ⟨by first | exact ok0 | exact ok1 | exact ok6 | exact ok7 | exact ok9 | exact ok14, h⟩
    · split
      · exact ⟨hf.1, hf.2.1, hf.2.2⟩
      · split
        · exact ⟨by first | exact ok0 | exact ok1 | exact ok6 | exact ok7 | exact ok9 | exact ok14, hf.2.1, hf.2.2⟩
        · exact ⟨by first | exact ok0 | exact ok1 | exact ok6 | exact ok7 | exact ok9 | exact ok14, hf.2.1, hf.2.2⟩
  · unfold P.sync
    split
    · exact ⟨hf.1, hf.2.1, hf.2.2⟩
    · exact ⟨by first | exact ok0 | exact ok1 | exact ok6 | exact ok7 | exact ok9 | exact ok14, hf.2.1, hf.2.2⟩
  · unfold P.rename
    split
    · exact ⟨hb _, (hc _).1, (hc _).2⟩
    · split
      · exact ⟨by first | exact ok0 | exact ok1 | exact ok6 | exact ok7 | exact ok9 | exact ok14, (hc _).1, (hc _).2⟩
      · split
        · exact ⟨by first | exact ok0 | exact ok1 | exact ok6 | exact ok7 | exact ok9 | exact ok14, (hc _).1, (hc _).2⟩
        · split
          · exact ⟨by first | exact ok0 | exact ok1 | exact ok6 | exact ok7 | exact ok9 | exact ok14, (hc _).1, (hc _).2⟩
          · exact ⟨by first | exact ok0 | exact ok1 | exact ok6 | exact ok7 | exact ok9 | exact ok14, (hc _).1, (hc _).2⟩
  · unfold P.delete
    split
    · exact ⟨hf.1, hf.2.1, hf.2.2⟩
    · exact ⟨by first | exact ok0 | exact ok1 | exact ok6 | exact ok7 | exact ok9 | exact ok14, hf.2.1, hf.2.2⟩
  · unfold P.create
    split
    · exact ⟨hb _, (hc _).1, (hc _).2⟩
    · split
      · exact ⟨by first | exact ok0 | exact ok1 | exact ok6 | exact ok7 | exact ok9 | exact ok14, (hc _).1, (hc _).2⟩
      · split
        · exact ⟨by first | exact ok0 | exact ok1 | exact ok6 | exact ok7 | exact ok9 | exact ok14, (hc _).1, (hc _).2⟩
        · exact ⟨by first | exact ok0 | exact ok1 | exact ok6 | exact ok7 | exact ok9 | exact ok14, (hc _).1, (hc _).2⟩
theorem arm_armed {p : P} (h : Calm p) (k : Int) (hk : k = 1 ∨ k = 2) : Armed ⟨p.fs, p.h.arm 1 k 0⟩ := by
  unfold H.arm
  rw [if_neg (by omega)]
  exact ⟨h.off, hk, rfl, by show p.h.ops + 1 + min (max 0 0) 1099511627776 = p.h.ops + 1; omega⟩
theorem arm_zero (s : H) : s.arm 0 0 0 = { s with ak := 0, af := 0, al := 0 } := by
  unfold H.arm
  rw [if_pos (by omega)]
/-- a call on the disk: what the caller holds goes with it -/
theorem keep8 {W w w' : World} {d mp : Nat} {es es' : List E} {g : Nat} {t : TypeId} {cs : List Value} (hb : Reg.Ext W w ∧ ∀ i, Own d mp es i → W.heap.size ≤ i) (ho : Out w d mp es g) (h8 : Blk w g t cs) (hT : Turn d mp w es w' es') :
    (Reg.Ext W w' ∧ ∀ i, Own d mp es' i → W.heap.size ≤ i) ∧ Out w' d mp es' g ∧ Blk w' g t cs := ⟨hT.base hb.1 hb.2, (hT.out ho).1, hT.blk ho h8⟩
structure St (W w : World) (d mp : Nat) (es : List E) (p : P) (g : Nat) (u : A) : Prop where
  dg : Dg w d mp es p
  base : Reg.Ext W w ∧ ∀ i, Own d mp es i → W.heap.size ≤ i
  out : Out w d mp es g
  act : Blk w g 41 u.cells
theorem St.turn {W w w' : World} {d mp : Nat} {es es' : List E} {p p' : P} {g : Nat} {u : A} (h : St W w d mp es p g u) (h1 : Dg w' d mp es' p') (hT : Turn d mp w es w' es') : St W w' d mp es' p' g u := by
  obtain ⟨k1, k2, k3⟩ := keep8 h.base h.out h.act hT
  exact ⟨h1, k1, k2, k3⟩
theorem St.ext {W w w' : World} {d mp : Nat} {es : List E} {p : P} {g : Nat} {u : A} (h : St W w d mp es p g u) (hx : Reg.Ext w w') : St W w' d mp es p g u := h.turn (h.dg.ext hx) (Turn.ext hx)
set_option maxRecDepth 100000 in
set_option maxHeartbeats 1000000 in
theorem fails_law (q : Option Addr) (c : Nat) (us : List A) (kind : Int) (W : World) (hm : us.length ≤ maxLen) (hA : Acts W q us) :
    Calls Try.prog 4 #[.slice q us.length c, .int .i64 kind] W fun e w' => e = .returned (.bool true) ∧ Reg.Ext W w' := by
  have haw := awake_any
  have hAk := Lib.hid hA
  clear hA
  unfold maxLen at hm
  obtain ⟨r, hr, er⟩ := umod kind 1 (by omega)
  have er : wrap64 ((IntKind.u64.wrap kind).tmod 2) = (r : Int) := er
  go_enter Try.func4, Try.ntmps4
  go_wp2_with (first
    | (go_at_call 7; refine (haw _).mono ?_; rintro e xa ⟨rfl, hxa⟩)
    | (go_at_call 8; refine (Dg.new _ _).mono ?_; rintro e x0 ⟨d, mp, rfl, h0, hx0, ho0⟩))
  have H0 := Lib.hid h0
  have B0 : Hid (Reg.Ext W x0 ∧ ∀ i, Own d mp [] i → W.heap.size ≤ i) := Lib.hid ⟨hxa.trans hx0, fun i hi => Nat.le_trans hxa.size (ho0 i hi)⟩
  clear hxa h0 haw hx0 ho0
  go_loopw [6, 7, 8, 9, 10, 11, 12, 13] (fun i _ _ _ _ _ _ _ wr => ∃ (j : Nat) (es : List E) (p : P), i = .int .i64 (j : Int) ∧ j ≤ us.length ∧ j ≤ 150 ∧ Hid (Dg wr d mp es p) ∧ Hid (Reg.Ext W wr ∧ ∀ i, Own d mp es i → W.heap.size ≤ i) ∧ Hid (p.h.ops ≤ (j : Int)) ∧ Hid (Calm p)) (fun i _ _ _ _ _ _ _ _ => us.length - (intOf i).toNat)
  case atStart => exact ⟨0, [], _, rfl, Nat.zero_le _, Nat.zero_le _, H0, B0, Lib.hid (Int.le_refl _), Lib.hid ⟨rfl, rfl⟩⟩
  case round =>
    obtain ⟨j, es, p, rfl, hj, hj6, HH, HB, HO, HC⟩ := hrel
    by_cases hjs : j < us.length
    · by_cases hj7 : j < 150
      · obtain ⟨g, o, rfl, hlt, hcl, hke⟩ := hAk.out j hjs
        generalize us[j] = u at hcl hke
        go_upto_region 7 with (fail)
        refine wp_region_lit ?_
        iterate 9 go_step
        refine wpList_act rfl _ rfl g (o + j * 8) rfl u (fun i v hv => (HB.out.1).at_ (hcl i v hv)) ?_
        simp only [Act.put, Act.eval, List.setIfInBounds_toArray, List.set_cons_zero, List.set_cons_succ, Nat.reduceAdd, Array.getD_eq_getD_getElem?, List.getElem?_toArray, List.getElem?_cons_succ, List.getElem?_cons_zero, Option.getD_some]
        iterate 3 go_step
        have hbf := Blk.new wr 41 #[.int .i64 0, .string ⟨#[]⟩, .string ⟨#[]⟩, .string ⟨#[]⟩, .int .i64 0, .int .i64 0, .int .i64 0, .slice none 0 0]
        refine wpList_sta rfl _ _ rfl wr.heap.size u rfl rfl [.int .i64 0, .string ⟨#[]⟩, .string ⟨#[]⟩, .string ⟨#[]⟩, .int .i64 0, .int .i64 0, .int .i64 0, .slice none 0 0] rfl (Lib.hid hbf) ?_
        simp only [Act.put, Act.eval, List.setIfInBounds_toArray, List.set_cons_zero, List.set_cons_succ, Nat.reduceAdd, Array.getD_eq_getD_getElem?, List.getElem?_toArray, List.getElem?_cons_succ, List.getElem?_cons_zero, Option.getD_some]
        clear hbf
        obtain ⟨hb8, hx8⟩ := newa wr u #[.int .i64 0, .string ⟨#[]⟩, .string ⟨#[]⟩, .string ⟨#[]⟩, .int .i64 0, .int .i64 0, .int .i64 0, .slice none 0 0] rfl
        have ho8 := HH.out.fresh (Nat.le_refl _) hb8.lt
        have hgs : W.heap.size ≤ wr.heap.size := HB.out.1.size
        generalize ((wr.alloc (Obj.cells #[.int .i64 0, .string ⟨#[]⟩, .string ⟨#[]⟩, .string ⟨#[]⟩, .int .i64 0, .int .i64 0, .int .i64 0, .slice none 0 0] 41)).setCells wr.heap.size 0 u.cells) = w8 at *
        generalize wr.heap.size = g8 at *
        have H8 := Lib.hid hb8
        have O8 := Lib.hid ho8
        have HD := Lib.hid (HH.out.ext hx8)
        have HB8 := Lib.hid (show Reg.Ext W w8 ∧ ∀ i, Own d mp es i → W.heap.size ≤ i from ⟨HB.out.1.trans hx8, HB.out.2⟩)
        clear hb8 hx8 hcl HH ho8 HB hgs
        have HS : Hid (St W w8 d mp es p g8 u) := Lib.hid ⟨HD.out, HB8.out, O8.out, H8.out⟩
        clear H8 O8 HD HB8
        go_upto_region 8 with (fail)
        refine wp_region_lit ?_
        refine wpList_act rfl _ rfl g8 0 rfl u (blk_range HS.out.act) ?_
        simp only [Act.put, Act.eval, List.setIfInBounds_toArray, List.set_cons_zero, List.set_cons_succ, Nat.reduceAdd, Array.getD_eq_getD_getElem?, List.getElem?_toArray, List.getElem?_cons_succ, List.getElem?_cons_zero, Option.getD_some]
        have hgr := great_any u w8 hke.2.2
        obtain ⟨gb, hgb⟩ : ∃ gb, u.great = gb := ⟨_, rfl⟩
        rw [hgb] at hgr
        cases gb with
        | true =>
          go_wp2_with (go_at_call 19; refine hgr.mono ?_; rintro e w9 ⟨rfl, h9⟩)
          go_ret
          exact ⟨rfl, HS.out.base.1.trans h9⟩
        | false =>
          obtain ⟨z1, z2, z3, z4⟩ := great_of hgb
          have Z1 := Lib.hid z1
          clear z1 z2 z3 z4 hgb hke
          by_cases hev : j % 2 = 0
          · have q0 : ((j : Int) % 2 == 0) = true := by rw [beq_iff_eq]; omega
            go_upto_region 15 with (first
              | (go_at_call 19; refine hgr.mono ?_; rintro e w9 ⟨rfl, h9⟩; have hS9 := HS.out.ext h9)
              | (go_at_call 20; refine (Dg.names hS9.dg).mono ?_; rintro e x1 ⟨nA, nc, rfl, hnc, -, hx1⟩; have hS1 := hS9.ext hx1)
              | (go_at_call 21; refine (Dg.used hS1.dg).mono ?_; rintro e _ ⟨rfl, rfl⟩)
              | (go_at_call 22; refine (Dg.ops hS1.dg).mono ?_; rintro e _ ⟨rfl, rfl⟩)
              | (go_at_call 10; refine (Dg.arm hS1.dg _ _ _ (by have := HO.out; unfold big; omega)).mono ?_; rintro e x2 ⟨rfl, es2, hD2, hT2⟩; have hS2 := hS1.turn hD2 hT2))
            refine wp_region_lit ?_
            iterate 3 go_step
            refine wpList_act rfl _ rfl g8 0 rfl u (blk_range hS2.act) ?_
            simp only [Act.put, Act.eval, List.setIfInBounds_toArray, List.set_cons_zero, List.set_cons_succ, Nat.reduceAdd, Array.getD_eq_getD_getElem?, List.getElem?_toArray, List.getElem?_cons_succ, List.getElem?_cons_zero, Option.getD_some]
            have hk := arm_keep p.h 1 (1 + (r : Int)) 0
            have hop := hS1.dg.good.ops
            have hAm := arm_armed HC.out (1 + (r : Int)) (by omega)
            have hdn := hS2.dg.done u (by have := HO.out; dsimp only; rw [hk.2.2.1]; unfold big; omega) (by have := Z1.out; omega)
            have hda := done_armed hAm u
            have HO1 := HO.out
            generalize P.done ⟨p.fs, p.h.arm 1 (1 + (r : Int)) 0⟩ u = pd at hdn hda
            obtain ⟨er, p3⟩ := pd
            dsimp only at hdn hda
            have HK := Lib.hid hk
            have HDA := Lib.hid hda
            clear hk hda hAm hgr Z1
            rcases HDA.out with ⟨rfl, rfl⟩ | ⟨e1, f1, o1, u1⟩
            · have HC2 : Hid (Calm ⟨p.fs, (p.h.arm 1 (1 + (r : Int)) 0).arm 0 0 0⟩) := Lib.hid (by rw [arm_zero]; exact ⟨HK.out.2.2.2.trans HC.out.off, rfl⟩)
              have HO2 : Hid (((p.h.arm 1 (1 + (r : Int)) 0).arm 0 0 0).ops ≤ ((j + 1 : Nat) : Int)) := Lib.hid (by rw [(arm_keep _ 0 0 0).2.2.1, HK.out.2.2.1]; omega)
              have hbg : Hid ((p.h.arm 1 (1 + (r : Int)) 0).ops < big) := Lib.hid (by rw [HK.out.2.2.1]; unfold big; omega)
              clear HDA hop HO1
              go_wp2_with (first
                | (go_at_call 23; refine hdn.mono ?_; rintro e wA ⟨rfl, es3, hA3, hT3⟩; have hS3 := hS2.turn hA3 hT3)
                | (go_at_call 10; refine (Dg.arm hS3.dg _ _ _ hbg.out).mono ?_; rintro e x4 ⟨rfl, es4, hD4, hT4⟩; have hS4 := hS3.turn hD4 hT4))
              go_roundw
              case rel => exact ⟨j + 1, es4, _, by go_num, by omega, by omega, Lib.hid hS4.dg, Lib.hid hS4.base, HO2, HC2⟩
              case measure => simp [intOf]; omega
            · obtain ⟨fs3, s3⟩ := p3
              dsimp only at f1 o1 u1
              rw [HK.out.2.1] at u1
              rw [HK.out.2.2.1] at o1
              obtain ⟨room3, used3, ops3, off3, ak3, af3, al3⟩ := s3
              dsimp only at o1 u1
              subst f1 o1 u1
              have hbg : Hid (p.h.ops + 1 < big) := Lib.hid (by unfold big; omega)
              have HO2 : Hid (p.h.ops + 1 ≤ ((j + 1 : Nat) : Int)) := Lib.hid (by omega)
              clear HDA
              generalize huu : p.h.used = uu at *
              clear huu
              rcases e1 with rfl | rfl
              · go_wp2_with (first
                  | (go_at_call 23; refine hdn.mono ?_; rintro e wA ⟨rfl, es3, hA3, hT3⟩; have hS3 := hS2.turn hA3 hT3)
                  | (go_at_call 20; refine (Dg.names hS3.dg).mono ?_; rintro e x4 ⟨nB, nd, rfl, hnd, -, hx4⟩; have hS4 := hS3.ext hx4)
                  | (go_at_call 21; refine (Dg.used hS4.dg).mono ?_; rintro e _ ⟨rfl, rfl⟩)
                  | (go_at_call 22; refine (Dg.ops hS4.dg).mono ?_; rintro e _ ⟨rfl, rfl⟩)
                  | (go_at_call 10; refine (Dg.arm hS4.dg _ _ _ hbg.out).mono ?_; rintro e x5 ⟨rfl, es5, hD5, hT5⟩; have hS5 := hS4.turn hD5 hT5)
                  | (go_at_call 13; refine (Dg.off hS5.dg).mono ?_; rintro e x6 ⟨rfl, es6, hD6, hT6⟩; have hS6 := hS5.turn hD6 hT6)
                  | (go_at_call 14; refine (Dg.on0 hS6.dg).mono ?_; rintro e x7 ⟨rfl, es7, hD7, hT7⟩; have hS7 := hS6.turn hD7 hT7))
                go_roundw
                case rel => exact ⟨j + 1, es7, _, by go_num, by omega, by omega, Lib.hid hS7.dg, Lib.hid hS7.base, Lib.hid (by show (H.arm _ 0 0 0).ops ≤ _; rw [(arm_keep _ 0 0 0).2.2.1]; exact HO2.out), Lib.hid ⟨rfl, rfl⟩⟩
                case measure => simp [intOf]; omega
              · go_wp2_with (first
                  | (go_at_call 23; refine hdn.mono ?_; rintro e wA ⟨rfl, es3, hA3, hT3⟩; have hS3 := hS2.turn hA3 hT3)
                  | (go_at_call 20; refine (Dg.names hS3.dg).mono ?_; rintro e x4 ⟨nB, nd, rfl, hnd, -, hx4⟩; have hS4 := hS3.ext hx4)
                  | (go_at_call 21; refine (Dg.used hS4.dg).mono ?_; rintro e _ ⟨rfl, rfl⟩)
                  | (go_at_call 22; refine (Dg.ops hS4.dg).mono ?_; rintro e _ ⟨rfl, rfl⟩)
                  | (go_at_call 10; refine (Dg.arm hS4.dg _ _ _ hbg.out).mono ?_; rintro e x5 ⟨rfl, es5, hD5, hT5⟩; have hS5 := hS4.turn hD5 hT5)
                  | (go_at_call 13; refine (Dg.off hS5.dg).mono ?_; rintro e x6 ⟨rfl, es6, hD6, hT6⟩; have hS6 := hS5.turn hD6 hT6)
                  | (go_at_call 14; refine (Dg.on0 hS6.dg).mono ?_; rintro e x7 ⟨rfl, es7, hD7, hT7⟩; have hS7 := hS6.turn hD7 hT7))
                go_roundw
                case rel => exact ⟨j + 1, es7, _, by go_num, by omega, by omega, Lib.hid hS7.dg, Lib.hid hS7.base, Lib.hid (by show (H.arm _ 0 0 0).ops ≤ _; rw [(arm_keep _ 0 0 0).2.2.1]; exact HO2.out), Lib.hid ⟨rfl, rfl⟩⟩
                case measure => simp [intOf]; omega
          · have q0 : ((j : Int) % 2 == 0) = false := by rw [beq_eq_false_iff_ne]; omega
            go_upto_region 24 with (go_at_call 19; refine hgr.mono ?_; rintro e w9 ⟨rfl, h9⟩; have hS9 := HS.out.ext h9)
            refine wp_region_lit ?_
            iterate 3 go_step
            refine wpList_act rfl _ rfl g8 0 rfl u (blk_range hS9.act) ?_
            simp only [Act.put, Act.eval, List.setIfInBounds_toArray, List.set_cons_zero, List.set_cons_succ, Nat.reduceAdd, Array.getD_eq_getD_getElem?, List.getElem?_toArray, List.getElem?_cons_succ, List.getElem?_cons_zero, Option.getD_some]
            have HO1 : Hid ((p.done u).2.h.ops ≤ ((j + 1 : Nat) : Int)) := Lib.hid (by have := done_ops p u; have := HO.out; omega)
            obtain ⟨⟨k1, k2⟩, hcalm⟩ := done_calm HC.out u
            have HC1 := Lib.hid hcalm
            have hdn := hS9.dg.done u (by have := HO.out; unfold big; omega) (by have := Z1.out; omega)
            generalize p.done u = pd at HO1 HC1 hdn k1 k2
            obtain ⟨er, p1⟩ := pd
            dsimp only at HO1 HC1 hdn k1 k2
            have q1 : (er == 11) = false := beq_eq_false_iff_ne.2 k1
            have q2 : (er == 12) = false := beq_eq_false_iff_ne.2 k2
            clear hgr HO Z1 k1 k2 hcalm HC
            go_wp2_with (go_at_call 23; refine hdn.mono ?_; rintro e wA ⟨rfl, es2, hA1, hT1⟩)
            go_roundw
            case rel => exact ⟨j + 1, es2, p1, by go_num, by omega, by omega, Lib.hid hA1, Lib.hid (hT1.base hS9.base.1 hS9.base.2), HO1, HC1⟩
            case measure => simp [intOf]; omega
      · have hje : j = 150 := by omega
        subst hje
        go_wp2_with fail
        go_ret
        exact ⟨rfl, HB.out.1⟩
    · have hje : j = us.length := by omega
      subst hje
      go_wp2_with fail
      go_ret
      exact ⟨rfl, HB.out.1⟩
end Plk
end Go.Proofs.Ytbiikihapfpkfaa

/- The law's awake. -/
import Derived.Test.YtjkhfnfimicffaaPyI
set_option linter.unusedSimpArgs false
set_option linter.unusedVariables false
set_option linter.unusedSectionVars false
namespace Go.Proofs.Ytjkhfnfimicffaa
open Go Go.RowKit Go.Proofs Go.Sort Go.Lib Go.Shelf
namespace Py
/-- a block that the flights don't own -/
structure Box (w : World) (h : Hd) (es : List E) (b : Nat) (T : TypeId) (cs : List Value) : Prop where
  blk : Blk w b T cs
  out : ¬ Own h es b
theorem Box.turn {w w' : World} {h : Hd} {es es' : List E} {b : Nat} {T : TypeId} {cs : List Value} (x : Box w h es b T cs) (t : Turn h w es w' es') : Box w' h es' b T cs :=
  ⟨(t.kept b x.blk.lt x.out).trans x.blk, fun o => (t.own b o).elim x.out fun h1 => by have := x.blk.lt; omega⟩
theorem Box.ext {w w' : World} {h : Hd} {es : List E} {b : Nat} {T : TypeId} {cs : List Value} (x : Box w h es b T cs) (t : Reg.Ext w w') : Box w' h es b T cs := x.turn (Turn.ext t)
theorem Turn.base {W w w' : World} {h : Hd} {es es' : List E} (t : Turn h w es w' es') (hx : Reg.Ext W w) (ho : ∀ i, Own h es i → W.heap.size ≤ i) : Reg.Ext W w' ∧ ∀ i, Own h es' i → W.heap.size ≤ i := by
  refine ⟨⟨t.os.trans hx.os, t.tape.trans hx.tape, t.output.trans hx.output, Nat.le_trans hx.size t.size, fun i hi => ?_⟩, fun i hi => ?_⟩
  · exact (t.kept i (Nat.lt_of_lt_of_le hi hx.size) fun o => by have := ho i o; omega).trans (hx.block i hi)
  · rcases t.own i hi with h1 | h1
    · exact ho i h1
    · have := hx.size; omega
/-- what a law holds -/
structure Lw (W w : World) (h : Hd) (es : List E) (p : P) (n : Nat) : Prop where
  pn : Pn w h es p n
  base : Reg.Ext W w ∧ ∀ i, Own h es i → W.heap.size ≤ i
theorem Lw.ext {W w w' : World} {h : Hd} {es : List E} {p : P} {n : Nat} (l : Lw W w h es p n) (hx : Reg.Ext w w') : Lw W w' h es p n := ⟨l.pn.ext hx, (Turn.ext hx).base l.base.1 l.base.2⟩
def ResL (W : World) (h : Hd) (w : World) (es : List E) (v : Value) (p : P) (n : Nat) (e : Ending) (w' : World) : Prop := e = .returned v ∧ ∃ es', Lw W w' h es' p n ∧ Turn h w es w' es'
section
variable {W w : World} {h : Hd} {es : List E} {p q : P} {n : Nat}
theorem Lw.join (l : Lw W w h es p n) (k : Ky) (hk : k.Fine) (x : Int) (hx : wfI x) (hn : n + 3 < 1000000) {i er : Int} {b : Bool} (e : p.join k x = ((i, b, er), q)) : Calls Try.prog 8 #[.pointer (some ⟨h.d, 0, none⟩), .agg k.cells.toArray, .int .i64 x] w (ResL W h w es (.tuple #[.int .i64 i, .bool b, .int .i64 er]) q (n + 3)) := by
  have := join_any l.pn k hk x hx hn
  rw [e] at this
  refine this.mono ?_
  rintro e w' ⟨h1, es', h2, h3⟩
  exact ⟨h1, es', ⟨h2, h3.base l.base.1 l.base.2⟩, h3⟩
theorem Lw.leave (l : Lw W w h es p n) (x : Int) (hx : wfI x) (hn : n < 1000000) {i : Int} {b : Bool} (e : p.leave x = ((i, b), q)) : Calls Try.prog 10 #[.pointer (some ⟨h.d, 0, none⟩), .int .i64 x] w (ResL W h w es (.tuple #[.int .i64 i, .bool b]) q n) := by
  have := leave_any l.pn x hx hn
  rw [e] at this
  refine this.mono ?_
  rintro e w' ⟨h1, es', h2, h3⟩
  exact ⟨h1, es', ⟨h2, h3.base l.base.1 l.base.2⟩, h3⟩
def ResE (W : World) (h : Hd) (w : World) (es : List E) (l : List Int) (p : P) (n : Nat) (e : Ending) (w' : World) : Prop := ∃ v', e = .returned v' ∧ RowI w.heap.size w' v' l ∧ ∃ es', Lw W w' h es' p n ∧ Turn h w es w' es'
theorem Lw.end_ (l : Lw W w h es p n) (i : Int) (hi : wfI i) (hn : n < 1000000) {ws : List Int} (e : p.end_ i = (ws, q)) : Calls Try.prog 11 #[.pointer (some ⟨h.d, 0, none⟩), .int .i64 i] w (ResE W h w es ws q n) := by
  have := end_any l.pn i hi hn
  rw [e] at this
  refine this.mono ?_
  rintro e w' ⟨v', h1, hr, es', h2, h3⟩
  exact ⟨v', h1, hr, es', ⟨h2, h3.base l.base.1 l.base.2⟩, h3⟩
theorem Lw.len (l : Lw W w h es p n) : Calls Try.prog 13 #[.pointer (some ⟨h.d, 0, none⟩)] w fun e w' => e = .returned (.int .i64 (p.fs.length : Int)) ∧ w' = w := by
  have := len_any l.pn.pt
  rw [l.pn.length] at this
  exact this
theorem Lw.where_ (l : Lw W w h es p n) (x : Int) (hx : wfI x) : Calls Try.prog 14 #[.pointer (some ⟨h.d, 0, none⟩), .int .i64 x] w fun e w' => e = .returned (.tuple #[.int .i64 ((wfOf p.fs x).getD 0), .bool (wfOf p.fs x).isSome]) ∧ w' = w := where_any l.pn.pt x hx
end
def ResNL (W : World) (most : Int) (e : Ending) (w' : World) : Prop := ∃ h, e = .returned (.tuple #[.pointer (some ⟨h.d, 0, none⟩), .int .i64 0]) ∧ Lw W w' h [] ⟨[], most, 0⟩ 0
theorem new_law {W w : World} (hx : Reg.Ext W w) (most : Int) (h0 : 1 ≤ most) (h1 : most ≤ 16) : Calls Try.prog 7 #[.int .i64 most] w (ResNL W most) := by
  refine (new_any most h0 h1 w).mono ?_
  rintro e w' ⟨h, h2, h3, h4, h5⟩
  exact ⟨h, h2, h3, hx.trans h4, fun i hi => Nat.le_trans hx.size (h5 i hi)⟩
def kA : Ky := ⟨1, [97], [], List.replicate 32 0, false⟩
theorem kA_fine : kA.Fine := ⟨rfl, by decide, by decide, by decide, by decide⟩
theorem zK_fine : zK.Fine := ⟨rfl, by decide, by decide, by decide, by decide⟩
def q0 : P := ⟨[], 1, 0⟩
def q1 : P := ⟨[⟨1, kA, [1]⟩], 1, 1⟩
def q2 : P := ⟨[⟨1, kA, [1, 2]⟩], 1, 1⟩
def q3 : P := ⟨[⟨1, kA, [2]⟩], 1, 1⟩
def q4 : P := ⟨[], 1, 1⟩
theorem j1 : q0.join kA 1 = ((1, true, 0), q1) := by rfl
theorem j2 : q1.join kA 2 = ((1, false, 0), q2) := by rfl
theorem j3 : q2.join zK 3 = ((0, false, 6), q2) := by rfl
theorem j4 : q2.join kA 2 = ((0, false, 9), q2) := by rfl
theorem l1 : q2.leave 1 = ((1, false), q3) := by rfl
theorem l2 : q3.leave 2 = ((1, true), q4) := by rfl
set_option maxRecDepth 100000 in
set_option maxHeartbeats 4000000 in
theorem awake_any (W : World) : Calls Try.prog 6 #[] W fun e w' => e = .returned (.bool true) ∧ Reg.Ext W w' := by
  have HN0 := Lib.hid (new_law (Reg.Ext.refl W) 1 (by decide) (by decide))
  have J1 := Lib.hid (fun w h es (l : Lw W w h es q0 0) => l.join kA kA_fine 1 (wfI_of (by decide) (by decide)) (by decide) j1)
  have J2 := Lib.hid (fun w h es (l : Lw W w h es q1 3) => l.join kA kA_fine 2 (wfI_of (by decide) (by decide)) (by decide) j2)
  have J3 := Lib.hid (fun w h es (l : Lw W w h es q2 6) => l.join zK zK_fine 3 (wfI_of (by decide) (by decide)) (by decide) j3)
  have J4 := Lib.hid (fun w h es (l : Lw W w h es q2 9) => l.join kA kA_fine 2 (wfI_of (by decide) (by decide)) (by decide) j4)
  have L1 := Lib.hid (fun w h es (l : Lw W w h es q2 12) => l.leave 1 (wfI_of (by decide) (by decide)) (by decide) l1)
  have L2 := Lib.hid (fun w h es (l : Lw W w h es q3 12) => l.leave 2 (wfI_of (by decide) (by decide)) (by decide) l2)
  have NB := Lib.hid (fun w => new_bad 0 (by decide) w)
  go_enter Try.func6, Try.ntmps6
  go_upto_region 4 with (go_at_call 7; refine (HN0.out).mono ?_; rintro e w1 ⟨h, rfl, hl1⟩; have HL1 := Lib.hid hl1; clear hl1 HN0)
  refine wp_region_lit ?_
  refine wpList_val rfl (.agg kA.cells.toArray) (by as_aux_lemma => kernel_rfl) ?_
  simp only [Act.put, Act.eval, List.setIfInBounds_toArray, List.set_cons_zero, List.set_cons_succ, Nat.reduceAdd, Array.getD_eq_getD_getElem?, List.getElem?_toArray, List.getElem?_cons_succ, List.getElem?_cons_zero, Option.getD_some]
  iterate 3 go_step
  rw [z36]
  obtain ⟨bx, hbx⟩ : ∃ b, w1.heap.size = b := ⟨_, rfl⟩
  have hb0 := boxK w1 zK
  have hx0 := Reg.Ext.alloc w1 (Obj.cells zK.cells.toArray 33)
  rw [hbx] at hb0 ⊢
  generalize w1.alloc (Obj.cells zK.cells.toArray 33) = w2 at *
  refine wpList_store_mid rfl 33 _ _ rfl bx 0 (kA.cells).toArray rfl ?_ (hb0.there _ (by rw [List.size_toArray]; exact Nat.le_refl _)) (by exact sizeK) (all_oneCell_toArray (Ky.one _)) ?_
  · rfl
  simp only [List.toList_toArray]
  simp only [Act.put, Act.eval, List.setIfInBounds_toArray, List.set_cons_zero, List.set_cons_succ, Nat.reduceAdd, Array.getD_eq_getD_getElem?, List.getElem?_toArray, List.getElem?_cons_succ, List.getElem?_cons_zero, Option.getD_some]
  have hxb := hx0.trans_but (But.setCells bx kA.cells 0 w2) (by omega)
  have HL2 := Lib.hid (HL1.out.ext hxb)
  have HB2 : Hid (Box (w2.setCells bx 0 kA.cells) h [] bx 33 kA.cells) := Lib.hid ⟨hb0.setAll kA.cells rfl, fun o => by have := HL1.out.pn.pt.own_lt o; omega⟩
  clear hb0 hx0 hxb hbx HL1
  generalize w2.setCells bx 0 kA.cells = w3 at *
  go_upto_region 5 with (fail)
  refine wp_region_lit ?_
  iterate 3 go_step
  refine wpList_ldm rfl 33 (.tmp 3) rfl bx 0 rfl kA.cells _ (Lib.hid (blk_rng HB2.out.blk)) undK (by rw [kA.len kA_fine.dig]; exact sizeK) ?_
  simp only [Act.put, Act.eval, List.setIfInBounds_toArray, List.set_cons_zero, List.set_cons_succ, Nat.reduceAdd, Array.getD_eq_getD_getElem?, List.getElem?_toArray, List.getElem?_cons_succ, List.getElem?_cons_zero, Option.getD_some]
  go_upto_region 6 with (go_at_call 8; refine (J1.out _ _ _ HL2.out).mono ?_; rintro e w4 ⟨rfl, es4, hl4, ht4⟩; have HL4 := Lib.hid hl4; have HB4 := Lib.hid (HB2.out.turn ht4); clear hl4 ht4 HL2 HB2 J1)
  go_upto_region 6 with (fail)
  refine wp_region_lit ?_
  iterate 3 go_step
  refine wpList_ldm rfl 33 (.tmp 3) rfl bx 0 rfl kA.cells _ (Lib.hid (blk_rng HB4.out.blk)) undK (by rw [kA.len kA_fine.dig]; exact sizeK) ?_
  simp only [Act.put, Act.eval, List.setIfInBounds_toArray, List.set_cons_zero, List.set_cons_succ, Nat.reduceAdd, Array.getD_eq_getD_getElem?, List.getElem?_toArray, List.getElem?_cons_succ, List.getElem?_cons_zero, Option.getD_some]
  go_upto_region 7 with (go_at_call 8; refine (J2.out _ _ _ HL4.out).mono ?_; rintro e w5 ⟨rfl, es5, hl5, ht5⟩; have HL5 := Lib.hid hl5; have HB5 := Lib.hid (HB4.out.turn ht5); clear hl5 ht5 HL4 HB4 J2)
  refine wp_region_lit ?_
  iterate 3 go_step
  refine wpList_val rfl (.agg zK.cells.toArray) (by as_aux_lemma => kernel_rfl) ?_
  simp only [Act.put, Act.eval, List.setIfInBounds_toArray, List.set_cons_zero, List.set_cons_succ, Nat.reduceAdd, Array.getD_eq_getD_getElem?, List.getElem?_toArray, List.getElem?_cons_succ, List.getElem?_cons_zero, Option.getD_some]
  go_upto_region 8 with (go_at_call 8; refine (J3.out _ _ _ HL5.out).mono ?_; rintro e w6 ⟨rfl, es6, hl6, ht6⟩; have HL6 := Lib.hid hl6; have HB6 := Lib.hid (HB5.out.turn ht6); clear hl6 ht6 HL5 HB5 J3)
  go_upto_region 8 with (fail)
  refine wp_region_lit ?_
  iterate 3 go_step
  refine wpList_ldm rfl 33 (.tmp 3) rfl bx 0 rfl kA.cells _ (Lib.hid (blk_rng HB6.out.blk)) undK (by rw [kA.len kA_fine.dig]; exact sizeK) ?_
  simp only [Act.put, Act.eval, List.setIfInBounds_toArray, List.set_cons_zero, List.set_cons_succ, Nat.reduceAdd, Array.getD_eq_getD_getElem?, List.getElem?_toArray, List.getElem?_cons_succ, List.getElem?_cons_zero, Option.getD_some]
  go_wp2_with (first
    | (go_at_call 8; refine (J4.out _ _ _ HL6.out).mono ?_; rintro e w7 ⟨rfl, es7, hl7, ht7⟩; have HL7 := Lib.hid hl7; clear hl7 ht7 HL6 HB6 J4)
    | (go_at_call 10; refine (L1.out _ _ _ HL7.out).mono ?_; rintro e w8 ⟨rfl, es8, hl8, ht8⟩; have HL8 := Lib.hid hl8; clear hl8 ht8 HL7 L1)
    | (go_at_call 10; refine (L2.out _ _ _ HL8.out).mono ?_; rintro e w9 ⟨rfl, es9, hl9, ht9⟩; have HL9 := Lib.hid hl9; have HLN := Lib.hid hl9.len; clear hl9 ht9 HL8 L2)
    | (go_at_call 7; refine (NB.out _).mono ?_; rintro e w10 ⟨rfl, rfl⟩; clear NB)
    | (go_at_call 13; refine (HLN.out).mono ?_; rintro e w11 ⟨rfl, rfl⟩))
  go_ret
  exact ⟨rfl, HL9.out.base.1⟩
end Py
end Go.Proofs.Ytjkhfnfimicffaa

/- The document's flights: End, Leave. -/
import Derived.Test.YtjkhfnfimicffaaPyU
import Derived.Test.YtjkhfnfimicffaaPyV
set_option linter.unusedSimpArgs false
set_option linter.unusedVariables false
set_option linter.unusedSectionVars false
namespace Go.Proofs.Ytjkhfnfimicffaa
open Go Go.RowKit
namespace Py
def ResRE (b : Nat) (w : World) (v : Value) (ds : List D) (l : List Int) (p : P) (e : Ending) (w' : World) : Prop := ∃ u v' ds', e = .returned u ∧ RowI 0 w' u l ∧ RD w' b v' ds' p ∧ RTurn b w v ds w' v' ds'
theorem RTurn.of {b : Nat} {w w' : World} {v v' : Value} {ds ds' : List D} (hb : But b w w') (hv : ∀ g, v'.ownBlock = some g → w.heap.size ≤ g) (hd : ∀ d ∈ ds', d ∈ ds ∨ ∀ g, d.v.ownBlock = some g → w.heap.size ≤ g) : RTurn b w v ds w' v' ds' := by
  refine ⟨hb, fun i hi => ?_⟩
  rcases hi with rfl | hi | ⟨d, hd1, hi⟩
  · exact .inl (.inl rfl)
  · exact .inr (hv i hi)
  · rcases hd d hd1 with h1 | h1
    · exact .inl (.inr (.inr ⟨d, h1, hi⟩))
    · exact .inr (h1 i hi)
/-- a row of numbers of the call's own -/
def IOw (W0 w : World) (v : Value) (l : List Int) : Prop := RowI W0.heap.size w v l ∧ Reg.Ext W0 w
theorem IOw.later {W0 w w' : World} {v : Value} {l : List Int} (h : IOw W0 w v l) (hx : Reg.Ext w w') : IOw W0 w' v l := ⟨RowI.ext h.1 hx, h.2.trans hx⟩
theorem IOw.new {W0 w : World} (hx : Reg.Ext W0 w) : IOw W0 (w.alloc (.cells #[] 3)) (.slice (some ⟨w.heap.size, 0, none⟩) 0 0) [] :=
  ⟨⟨rfl, .inr ⟨_, 0, #[], rfl, hx.size, heap_alloc_new w _, Nat.le_refl _, Nat.zero_le _, rfl, rfl⟩⟩, hx.trans (Reg.Ext.alloc _ _)⟩
theorem IOw.zero {W0 w : World} {v : Value} {l : List Int} (h : IOw W0 w v l) : RowI 0 w v l := ⟨h.1.1, h.1.2.imp id fun ⟨g, cap, cur, e, _, hh⟩ => ⟨g, cap, cur, e, Nat.zero_le _, hh⟩⟩
theorem IOw.ge {W0 w : World} {v : Value} {l : List Int} (h : IOw W0 w v l) {g : Nat} (hg : v.ownBlock = some g) : W0.heap.size ≤ g := (World.ownsRow.lt h.1 g hg).1
theorem IOw.slice {W0 w : World} {v : Value} {l : List Int} (h : IOw W0 w v l) : ∃ A c, v = .slice A l.length c := by
  obtain ⟨A, c, e, _⟩ := own_rd h.1
  exact ⟨A, c, e⟩
section
variable {ops : Array Oper} {rest : List Oper} {o : Oper} {a : Act} {Q : Exit → Act → World → Prop}
theorem IOw.push (hgd : o.guard = none) (s x : Operand) (ho : o.op = .call { callee := .builtin .append, args := #[s, x], argTypes := #[22, 22] })
    (W0 : World) (v : Value) (xs : List Int) (y : Int) (hs : a.eval s = v) (W : World) (g : Nat) (hb : IOw W0 W v xs) (hx : a.eval x = .slice (some ⟨g, 0, none⟩) 1 1) (hnew : W.cell? ⟨g, 0, none⟩ = some (.int .i64 y)) (hl : xs.length ≤ 1000000)
    (h : ∀ v' w', IOw W0 w' v' (xs ++ [y]) → wpList Try.prog ops Q rest (a.put o.dst v') w') : wpList Try.prog ops Q (o :: rest) a W :=
  wpList_pushI hgd s x ho v xs y hs W0.heap.size W g hb.1 hb.2.size hx hnew hl fun v' w' ho' hg _ => h v' w' ⟨ho', Below.grown hb.2 hg hb.2.size fun k hk => hb.ge hk⟩
/-- a whole row is put behind -/
theorem IOw.pushV (hgd : o.guard = none) (s x : Operand) (ho : o.op = .call { callee := .builtin .append, args := #[s, x], argTypes := #[22, 22] })
    (W0 : World) (v u : Value) (xs ys : List Int) (hs : a.eval s = v) (W : World) (hb : IOw W0 W v xs) (hx : a.eval x = u) (hu : RowI 0 W u ys) (hl : xs.length + ys.length ≤ 1000000)
    (h : ∀ v' w', IOw W0 w' v' (xs ++ ys) → wpList Try.prog ops Q rest (a.put o.dst v') w') : wpList Try.prog ops Q (o :: rest) a W := by
  obtain ⟨i, hi, hz, hsz, hby⟩ := intInfo_of
  by_cases hn : ys = []
  · subst hn
    rcases hu.2 with ⟨rfl, _⟩ | ⟨g, cap, cur, rfl, hu2⟩
    · refine wpList_val hgd v ?_ (h v W (by rw [List.append_nil]; exact hb))
      unfold execOp
      simp only [ho, resolve, invoke, builtin, Sem.run_bind, Sem.run_pure, Result.andThen_ok, List.map_toArray, List.map_cons, List.map_nil, hs, hx, run_append_owned_none (P := Try.prog) (w := W) W0.heap.size 22 o.type 3 i 1 Try.underlying22 hi v xs.length (xs.map (Value.int .i64)) hb.1]
    · refine Go.wpList_append_own_at W hgd s x 22 ho W0.heap.size 3 i (.int .i64 0) 1 8 Try.underlying22 hi hz hsz hby rfl (by decide) v xs.length (xs.map (Value.int .i64)) hs hb.1 ⟨g, 0, none⟩ 0 cap [] hx rfl (fun j u hj => by cases hj) (fun u hu => by cases hu) (by unfold maxLen; simp only [List.length_nil] at hl; omega) (by simp only [List.length_nil] at hl; omega) hb.2.size ?_
      intro v' w' ho' hg _ hat
      refine h v' w' ⟨?_, Below.grown hb.2 hg hb.2.size fun k hk => hb.ge hk⟩
      rw [List.append_nil] at ho' ⊢
      exact ho'
  · obtain ⟨g, cap, rfl, _⟩ := RowI.form hu hn
    refine Go.wpList_append_own_at W hgd s x 22 ho W0.heap.size 3 i (.int .i64 0) 1 8 Try.underlying22 hi hz hsz hby rfl (by decide) v xs.length (xs.map (Value.int .i64)) hs hb.1 ⟨g, 0, none⟩ ys.length cap (ys.map (Value.int .i64)) hx (by simp) (fun j u hj => hu.cells (g := g) rfl j u hj) (fun u hu => by obtain ⟨z, _, rfl⟩ := List.mem_map.1 hu; rfl) (by unfold maxLen; omega) (by omega) hb.2.size ?_
    intro v' w' ho' hg _ hat
    refine h v' w' ⟨?_, Below.grown hb.2 hg hb.2.size fun k hk => hb.ge hk⟩
    unfold RowI
    rw [List.length_append, List.map_append]
    exact ho'
end
section
variable {w : World} {b : Nat} {v : Value} {ds : List D} {p : P}
set_option maxRecDepth 100000 in
theorem endR (R : RD w b v ds p) (hg : Good p) (i : Int) (hl : ds.length ≤ 200) : Calls Try.prog 20 #[.pointer (some ⟨b, 0, none⟩), .int .i64 i] w (ResRE b w v ds (p.end_ i).1 (p.end_ i).2) := by
  have hp := placeR R i (by omega)
  cases h : pAt i p.fs with
  | none =>
    rw [h] at hp
    have e : p.end_ i = ([], p) := by unfold Py.P.end_; rw [at_idx, h]; rfl
    rw [e]
    have HP : Hid (Calls Try.prog 33 #[.pointer (some ⟨b, 0, none⟩), .int .i64 i] w fun e w' => e = .returned (.int .i64 (-1)) ∧ w' = w) := Lib.hid hp
    have HR := Lib.hid R
    clear R hp h e hg
    go_enter Try.func20, Try.ntmps20
    go_wp2_with (go_at_call 33; refine HP.out.mono ?_; rintro e w' ⟨rfl, rfl⟩)
    go_ret
    exact ⟨_, _, _, rfl, ⟨rfl, .inl ⟨rfl, rfl⟩⟩, HR.out, RTurn.refl _ _ _ _⟩
  | some k =>
    rw [h] at hp
    have HP : Hid (Calls Try.prog 33 #[.pointer (some ⟨b, 0, none⟩), .int .i64 i] w fun e w' => e = .returned (.int .i64 (k : Int)) ∧ w' = w) := Lib.hid hp
    have hk : k < p.fs.length := idx_lt h
    have hkd : k < ds.length := by rw [R.length]; exact hk
    have hat : at_ i p.fs = some p.fs[k] := by rw [at_idx, h, Option.bind_some, List.getElem?_eq_getElem hk]
    have e : p.end_ i = (ds[k].f.who, { p with fs := p.fs.take k ++ p.fs.drop (k + 1) }) := by
      unfold Py.P.end_
      rw [hat]
      dsimp only
      rw [← (at_some hat).2, del_erase hg.up hk, R.at_ k hkd]
    rw [e]
    have HDR := Lib.hid (dropR R k hkd hl)
    have HR := Lib.hid R
    have HRW := Lib.hid (R.who _ (List.getElem_mem hkd))
    have HFR := Lib.hid (R.far _ (List.getElem_mem hkd))
    rcases R.row.form with ⟨_, h2⟩ | ⟨g, cap, h2, _, _, _⟩
    · rw [h2] at hkd; exact absurd hkd (Nat.not_lt_zero _)
    subst h2
    have c0 := R.c.1
    have n0 := R.row.at_ R.fit k hkd 37 (by omega)
    rw [D.at37 _ (R.fit _ (List.getElem_mem hkd))] at n0
    clear R hp h e hat hg hk
    generalize ds[k].v = uv at *
    generalize ds[k].f.who = U at *
    go_enter Try.func20, Try.ntmps20
    go_wp2_with (first
      | (go_at_call 33; refine HP.out.mono ?_; rintro e w' ⟨rfl, rfl⟩)
      | (go_at_call 32; refine HDR.out.mono ?_; rintro e w' ⟨rfl, v2, hr2, hb2, hv2⟩))
    go_ret
    exact ⟨_, v2, _, rfl, RowI.same HRW.out fun y hy => hb2.block y (Go.Proofs.Ytjkhfnfimicffaa.own_lt HRW.out hy) fun e => HFR.out (by injection e with e; rw [← e]; exact hy), hr2, RTurn.of hb2 hv2 fun d hd => .inl ((List.mem_append.1 hd).elim List.mem_of_mem_take List.mem_of_mem_drop)⟩
theorem set37 (d : D) (h : d.f.key.dig.length = 32) (w : List Int) (v' : Value) : d.cells.set 37 v' = (⟨{ d.f with who := w }, v'⟩ : D).cells := by
  unfold D.cells
  rw [List.set_cons_succ, set36 _ h]
theorem zD_cells : (#[.int .i64 0, .int .i64 0, .string ⟨#[]⟩, .string ⟨#[]⟩, .int .u8 0, .int .u8 0, .int .u8 0, .int .u8 0, .int .u8 0, .int .u8 0, .int .u8 0, .int .u8 0, .int .u8 0, .int .u8 0, .int .u8 0, .int .u8 0, .int .u8 0, .int .u8 0, .int .u8 0, .int .u8 0, .int .u8 0, .int .u8 0, .int .u8 0, .int .u8 0, .int .u8 0, .int .u8 0, .int .u8 0, .int .u8 0, .int .u8 0, .int .u8 0, .int .u8 0, .int .u8 0, .int .u8 0, .int .u8 0, .int .u8 0, .int .u8 0, .bool false, .slice none 0 0] : Array Value) = zD.cells.toArray := rfl
set_option maxRecDepth 100000 in
set_option maxHeartbeats 4000000 in
theorem leaveR (R : RD w b v ds p) (hg : Good p) (x : Int) (hl : ds.length ≤ 200) (hw : ∀ d ∈ ds, d.f.who.length ≤ 1000000) : Calls Try.prog 19 #[.pointer (some ⟨b, 0, none⟩), .int .i64 x] w (ResR b w v ds (.tuple #[.int .i64 (p.leave x).1.1, .bool (p.leave x).1.2]) (p.leave x).2) := by
  have hp := whereR R x (by omega) hw
  cases h : pWh x p.fs with
  | none =>
    rw [h] at hp
    have e : p.leave x = ((0, false), p) := by unfold Py.P.leave; rw [wh_idx, h]; rfl
    rw [e]
    have HP : Hid (Calls Try.prog 22 #[.pointer (some ⟨b, 0, none⟩), .int .i64 x] w fun e w' => e = .returned (.int .i64 (-1)) ∧ w' = w) := Lib.hid hp
    have HR := Lib.hid R
    clear R hp h e hg hw
    go_enter Try.func19, Try.ntmps19
    go_wp2_with (go_at_call 22; refine HP.out.mono ?_; rintro e w' ⟨rfl, rfl⟩)
    go_ret2
    exact ⟨rfl, _, _, HR.out, RTurn.refl _ _ _ _⟩
  | some k =>
    rw [h] at hp
    have HP : Hid (Calls Try.prog 22 #[.pointer (some ⟨b, 0, none⟩), .int .i64 x] w fun e w' => e = .returned (.int .i64 (k : Int)) ∧ w' = w) := Lib.hid hp
    have hk : k < p.fs.length := idx_lt h
    have hkd : k < ds.length := by rw [R.length]; exact hk
    have hwh : wh x p.fs = some p.fs[k] := by rw [wh_idx, h, Option.bind_some, List.getElem?_eq_getElem hk]
    have hup : ∀ l, upd p.fs[k].id l p.fs = p.fs.set k { p.fs[k] with who := l } := fun l => upd_set hg.up hk l
    have hdl : del p.fs[k].id p.fs = p.fs.take k ++ p.fs.drop (k + 1) := del_erase hg.up hk
    have hme := List.getElem_mem hkd
    have hlv : p.leave x = if (ds[k].f.who.filter fun y => y ≠ x) = [] then ((ds[k].f.id, true), { p with fs := p.fs.take k ++ p.fs.drop (k + 1) }) else ((ds[k].f.id, false), { p with fs := p.fs.set k { ds[k].f with who := ds[k].f.who.filter fun y => y ≠ x } }) := by
      unfold Py.P.leave
      rw [hwh]
      dsimp only
      rw [hdl, hup, R.at_ k hkd]
    have HLV := Lib.hid hlv
    rcases R.row.form with ⟨_, h2⟩ | ⟨g, cap, h2, _, _, _⟩
    · rw [h2] at hkd; exact absurd hkd (Nat.not_lt_zero _)
    subst h2
    have c0 := R.c.1
    have HRG := Lib.hid (R.row.range R.fit k hkd)
    have HD := Lib.hid (R.fit _ hme)
    have HRW := Lib.hid (R.who _ hme)
    have HFR := Lib.hid (R.far _ hme)
    have HWL := Lib.hid (hw _ hme)
    have hwl := HWL.out
    have HR := Lib.hid R
    clear R hp h hwh hup hdl hme hlv hg hw hk
    generalize ds[k] = d at *
    go_enter Try.func19, Try.ntmps19
    go_upto_region 4 with (go_at_call 22; refine HP.out.mono ?_; rintro e w' ⟨rfl, rfl⟩)
    refine wp_region_lit ?_
    iterate 18 go_step
    refine wpList_ldm rfl 54 (.tmp 20) rfl g (k * 38) rfl d.cells _ HRG undF (by rw [d.len HD.out]; exact sizeF) ?_
    simp only [Act.put, Act.eval, List.setIfInBounds_toArray, List.set_cons_zero, List.set_cons_succ, Nat.reduceAdd, Array.getD_eq_getD_getElem?, List.getElem?_toArray, List.getElem?_cons_succ, List.getElem?_cons_zero, Option.getD_some]
    iterate 3 go_step
    rw [zD_cells]
    obtain ⟨g7, hg7⟩ : ∃ g, (w').heap.size = g := ⟨_, rfl⟩
    have hb0 := boxD w' zD
    have hx0 := Reg.Ext.alloc w' (Obj.cells zD.cells.toArray 54)
    rw [hg7] at hb0 ⊢
    generalize (w').alloc (Obj.cells zD.cells.toArray 54) = w1 at *
    refine wpList_store_mid rfl 54 _ _ rfl g7 0 d.cells.toArray rfl rfl (hb0.there _ (by rw [List.size_toArray, d.len HD.out, zD.len rfl]; exact Nat.le_refl _)) (by rw [List.size_toArray, d.len HD.out]; exact sizeF) (all_oneCell_toArray (d.one HRW.out.one)) ?_
    simp only [List.toList_toArray]
    simp only [Act.put, Act.eval, List.setIfInBounds_toArray, List.set_cons_zero, List.set_cons_succ, Nat.reduceAdd, Array.getD_eq_getD_getElem?, List.getElem?_toArray, List.getElem?_cons_succ, List.getElem?_cons_zero, Option.getD_some]
    have hb1 := hb0.setAll d.cells (by rw [d.len HD.out, zD.len rfl])
    have hx1 := hx0.trans_but (But.setCells g7 d.cells 0 w1) (by omega)
    have HX1 := Lib.hid hx1
    have HB1 := Lib.hid hb1
    clear hb0 hx0 hx1 hb1
    generalize w1.setCells g7 0 d.cells = w2 at *
    have HG7 := Lib.hid hg7
    clear hg7 c0 HRG
    obtain ⟨B2, c2, hv2, -, -⟩ := own_rd HRW.out
    have HV2 := Lib.hid hv2
    have HRs : Hid (RowI 0 w' (.slice B2 d.f.who.length c2) d.f.who) := Lib.hid (by rw [← hv2]; exact HRW.out)
    have HO0 := Lib.hid (IOw.new (Reg.Ext.refl w2))
    clear hv2
    go_upto_region 6 with (fail)
    go_wp2_with fail
    go_loopw [8, 9] (fun o j wr => ∃ (m : Nat) (l : List Int), j = .int .i64 (m : Int) ∧ m ≤ d.f.who.length ∧ Hid (l = (d.f.who.take m).filter fun y => y ≠ x) ∧ Hid (IOw w2 wr o l)) (fun _ j _ => d.f.who.length - (intOf j).toNat)
    case atStart => exact ⟨0, [], rfl, Nat.zero_le _, Lib.hid rfl, HO0⟩
    case round =>
      obtain ⟨m, l, rfl, hm, HL, HO⟩ := hrel
      have y7 : wr.cell? ⟨g7, 37, none⟩ = some (.slice B2 d.f.who.length c2) := by rw [← HV2.out]; exact ((HB1.out.ext HO.out.2).cell 37).trans (D.at37 d HD.out)
      by_cases hms : m < d.f.who.length
      · obtain ⟨g2, c3, h2, _⟩ := RowI.form HRs.out (fun e => by rw [e] at hms; exact absurd hms (Nat.not_lt_zero _))
        injection h2 with h2 hh h3
        clear hh
        subst h2 h3
        have n1 := (HX1.out.trans HO.out.2).at_ (RowI.at_ HRs.out m hms)
        have HTK : Hid (d.f.who.take (m + 1) = d.f.who.take m ++ [d.f.who[m]]) := Lib.hid (List.take_succ_eq_append_getElem hms)
        have HLL : Hid (l.length ≤ 1000000) := Lib.hid (by rw [HL.out]; exact Nat.le_trans (List.length_filter_le _ _) (Nat.le_trans (by rw [List.length_take]; exact Nat.min_le_right _ _) HWL.out))
        generalize d.f.who[m] = z at *
        by_cases hz : z = x
        · have q : (z != x) = false := by rw [hz]; exact bne_self_eq_false _
          have HL2 : Hid (l = (d.f.who.take (m + 1)).filter fun y => y ≠ x) := Lib.hid (by rw [HTK.out, List.filter_append, ← HL.out, hz]; simp)
          clear hz HTK HL
          go_wp2_with fail
          go_roundw
          case rel => exact ⟨m + 1, l, by go_num, by omega, HL2, HO⟩
          case measure => simp [intOf]; omega
        · have q : (z != x) = true := bne_iff_ne.2 hz
          have HL2 : Hid (l ++ [z] = (d.f.who.take (m + 1)).filter fun y => y ≠ x) := Lib.hid (by rw [HTK.out, List.filter_append, ← HL.out, List.filter_cons_of_pos (by simpa using hz)]; rfl)
          clear hz HTK HL
          go_wp2_with (refine IOw.push rfl (.tmp 37) (.tmp 43) rfl w2 _ l z rfl _ wr.heap.size (HO.out.later (Reg.Ext.alloc _ _)) rfl ((Blk.new _ _ _).cell 0) HLL.out ?_; intro v4 w4 h4; have H4 := Lib.hid h4; clear h4)
          go_roundw
          case rel => exact ⟨m + 1, _, by go_num, by omega, HL2, H4⟩
          case measure => simp [intOf]; omega
      · have hme : m = d.f.who.length := by omega
        have HL2 : Hid (l = d.f.who.filter fun y => y ≠ x) := Lib.hid (by rw [HL.out, hme, List.take_length])
        subst hme
        obtain ⟨A8, c8, rfl⟩ := HO.out.slice
        have f7 := (HB1.out.ext HO.out.2).frozen 37
        have hX2 : Reg.Ext w' wr := HX1.out.trans HO.out.2
        have hg7 : w'.heap.size ≤ g7 := by rw [HG7.out]; exact Nat.le_refl _
        have hg72 : g7 < w2.heap.size := HB1.out.lt
        have HX3 : Hid (Reg.Ext w' (wr.setCell ⟨g7, 37, none⟩ (.slice A8 l.length c8))) := Lib.hid (hX2.trans_but (But.set_ g7 wr 37 _) hg7)
        have HB3 : Hid (Blk (wr.setCell ⟨g7, 37, none⟩ (.slice A8 l.length c8)) g7 54 (⟨{ d.f with who := l }, .slice A8 l.length c8⟩ : D).cells) := Lib.hid (by
          have := (HB1.out.ext HO.out.2).set_ 37 (.slice A8 l.length c8)
          rw [set37 d HD.out l] at this
          exact this)
        have HR3 : Hid (RowI 0 (wr.setCell ⟨g7, 37, none⟩ (.slice A8 l.length c8)) (.slice A8 l.length c8) l) := Lib.hid (RowI.same HO.out.zero fun y hy => (But.set_ g7 wr 37 _).block y (Go.Proofs.Ytjkhfnfimicffaa.own_lt HO.out.1 hy) fun e => by injection e with e; have := HO.out.ge hy; omega)
        have HGE : Hid (∀ y, (Value.slice A8 l.length c8).ownBlock = some y → w'.heap.size ≤ y) := Lib.hid fun y hy => by have := HO.out.ge hy; have := HX1.out.size; omega
        have HG7b : Hid (w'.heap.size ≤ g7) := Lib.hid hg7
        clear hX2 hg7 hg72 HO HL
        go_upto_region 12 with (fail)
        clear y7 f7
        generalize wr.setCell ⟨g7, 37, none⟩ (.slice A8 l.length c8) = w3 at *
        obtain ⟨d1, hd1⟩ : ∃ d1 : D, d1 = ⟨{ d.f with who := l }, .slice A8 l.length c8⟩ := ⟨_, rfl⟩
        have HD1 : Hid (d1.f.key.dig.length = 32) := Lib.hid (by rw [hd1]; exact HD.out)
        have HE1 : Hid (d1.f = { d.f with who := l } ∧ d1.v = .slice A8 l.length c8) := Lib.hid (by rw [hd1]; exact ⟨rfl, rfl⟩)
        rw [← hd1] at HB3
        have HT := Lib.hid (turnR (HR.out.ext HX3.out) k hkd hl d1 HD1.out (by rw [hd1]; exact HR3.out) (fun e => by rw [hd1] at e; have := HGE.out b e; have := HR.out.blk.lt; omega))
        clear hd1
        refine wp_region_lit ?_
        iterate 6 go_step
        refine wpList_ldm rfl 54 (.tmp 7) rfl g7 0 rfl d1.cells _ (Lib.hid (blk_rng HB3.out)) undF (by rw [d1.len HD1.out]; exact sizeF) ?_
        simp only [Act.put, Act.eval, List.setIfInBounds_toArray, List.set_cons_zero, List.set_cons_succ, Nat.reduceAdd, Array.getD_eq_getD_getElem?, List.getElem?_toArray, List.getElem?_cons_succ, List.getElem?_cons_zero, Option.getD_some]
        repeat go_step
        refine HT.out.mono ?_
        rintro e w4 ⟨rfl, v4, hr4, hb4, hv4⟩
        rename_i hK
        refine hK _ _ ?_
        clear hK HT
        have hgb : g7 ≠ b := fun e => by have := HG7b.out; have := HR.out.blk.lt; omega
        have x0 : w4.cell? ⟨g7, 0, none⟩ = some (.int .i64 d.f.id) := by
          have h1 := (HB3.out.cell 0).trans d1.at0
          rw [HE1.out.1] at h1
          exact hb4.at_ h1 hgb
        have HR4 := Lib.hid hr4
        have HB4 : Hid (But b w' w4) := Lib.hid ((But.of_ext HX3.out).trans hb4)
        have HV4 : Hid (∀ y, v4.ownBlock = some y → w'.heap.size ≤ y) := Lib.hid fun y hy => by have := hv4 y hy; have := HX3.out.size; omega
        have HMS : Hid (∀ e ∈ ds.set k d1, e ∈ ds ∨ ∀ y, e.v.ownBlock = some y → w'.heap.size ≤ y) := Lib.hid fun e he => by
          rcases List.mem_or_eq_of_mem_set he with h1 | h1
          · exact .inl h1
          · rw [h1, HE1.out.2]; exact .inr HGE.out
        clear hr4 hb4 hv4
        by_cases hl0 : l = []
        · subst hl0
          have HLV2 : Hid (p.leave x = ((d.f.id, true), { p with fs := p.fs.take k ++ p.fs.drop (k + 1) })) := Lib.hid (by rw [HLV.out, ← HL2.out, if_pos rfl])
          have HDr := Lib.hid (dropR HR4.out k (by rw [List.length_set]; exact hkd) (by rw [List.length_set]; exact hl))
          go_wp2_with (go_at_call 32; refine HDr.out.mono ?_; rintro e w5 ⟨rfl, v5, hr5, hb5, hv5⟩; have x1 := hb5.at_ x0 hgb; have HR5 := Lib.hid hr5; have HB5 := Lib.hid hb5; have HV5 := Lib.hid hv5; clear hr5 hb5 hv5 x0)
          go_ret2
          rw [HLV2.out]
          refine ⟨rfl, v5, (ds.set k d1).take k ++ (ds.set k d1).drop (k + 1), ?_, RTurn.of (HB4.out.trans HB5.out) (fun y hy => by have := HV5.out y hy; have := HB4.out.size; omega) fun e he => ?_⟩
          · have h1 := HR5.out
            have e1 : (p.fs.set k d1.f).take k ++ (p.fs.set k d1.f).drop (k + 1) = p.fs.take k ++ p.fs.drop (k + 1) := by rw [List.take_set_of_le (Nat.le_refl k), List.drop_set_of_lt (Nat.lt_succ_self k)]
            rw [e1] at h1
            exact h1
          · exact HMS.out e ((List.mem_append.1 he).elim List.mem_of_mem_take List.mem_of_mem_drop)
        · have q0 : ((l.length : Int) == 0) = false := beq_eq_false_iff_ne.2 fun e => hl0 (List.eq_nil_of_length_eq_zero (by omega))
          have HLV2 : Hid (p.leave x = ((d.f.id, false), { p with fs := p.fs.set k d1.f })) := Lib.hid (by rw [HLV.out, ← HL2.out, if_neg hl0, HE1.out.1])
          clear hl0
          go_wp2_with fail
          go_ret2
          rw [HLV2.out]
          exact ⟨rfl, v4, _, HR4.out, RTurn.of HB4.out HV4.out HMS.out⟩
end
end Py
end Go.Proofs.Ytjkhfnfimicffaa

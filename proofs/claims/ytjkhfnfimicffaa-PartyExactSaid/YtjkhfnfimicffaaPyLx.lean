/- The flights agree with the document's: the law's walk. -/
import Derived.Test.YtjkhfnfimicffaaPyZ
import Derived.Deep.CutBlock
import Derived.Deep.DeepCutAuto
import Derived.BigQuiet
set_option linter.unusedSimpArgs false
set_option linter.unusedVariables false
set_option linter.unusedSectionVars false
namespace Go.Proofs.Ytjkhfnfimicffaa
open Go Go.RowKit Go.Proofs Go.Sort Go.Lib Go.Shelf
namespace Py
theorem exec_neqS {w : World} {ρ : Operand → Value} {o : Oper} (x : Ky) (hx : x.dig.length = 32) (p q : Operand) (ho : o.op = .binOp .neq 33 p q 33) (hp : ρ p = .agg x.cells.toArray) (hq : ρ q = .agg x.cells.toArray) :
    (execOp ρ o).run Try.prog w = .ok (.value (.bool false)) w := by
  have h := exec_neqK (w := w) x x hx hx p q ho hp hq
  rw [show (!decide (x = x)) = false by simp] at h
  exact h
set_option maxRecDepth 100000 in
theorem key_none {w : World} {h : Hd} {es : List E} {p : P} {n : Nat} (P : Pn w h es p n) (i : Int) (hi : wfI i) (ha : at_ i p.fs = none) : Calls Try.prog 23 #[.pointer (some ⟨h.d, 0, none⟩), .int .i64 i] w fun e1 w' => e1 = .returned (.tuple #[.agg zK.cells.toArray, .bool false]) ∧ Reg.Ext w w' := by
  have hb0 := boxK w zK
  have hx0 := Reg.Ext.alloc w (Obj.cells zK.cells.toArray 33)
  have HP := Lib.hid (P.ext hx0)
  have hl := HP.out.pt.lookF i hi
  have e1 : get i es = none := by
    cases hg : get i es with
    | none => rfl
    | some e => exact absurd (get_some hg).2 (at_none ha _ (P.mem (get_some hg).1))
  rw [e1] at hl
  unfold ptrV at hl
  obtain ⟨c0, c1, c2, c3, c4⟩ := HP.out.pt.c
  clear P hi ha e1
  go_enter Try.func23, Try.ntmps23
  go_upto_region 1 with (fail)
  rw [z36]
  generalize w.alloc (Obj.cells zK.cells.toArray 33) = w1 at *
  generalize hg : w.heap.size = g at *
  go_upto_region 2 with (fail)
  refine wp_region_lit ?_
  refine wpList_val rfl (.agg zK.cells.toArray) (by as_aux_lemma => kernel_rfl) ?_
  simp only [Act.put, Act.eval, List.setIfInBounds_toArray, List.set_cons_zero, List.set_cons_succ, Nat.reduceAdd, Array.getD_eq_getD_getElem?, List.getElem?_toArray, List.getElem?_cons_succ, List.getElem?_cons_zero, Option.getD_some]
  refine wpList_store_mid rfl 33 _ _ rfl g 0 zK.cells.toArray rfl ?_ (hb0.there _ (by rw [List.size_toArray]; exact Nat.le_refl _)) (by exact sizeK) (all_oneCell_toArray (Ky.one _)) ?_
  · rfl
  simp only [List.toList_toArray]
  simp only [Act.put, Act.eval, List.setIfInBounds_toArray, List.set_cons_zero, List.set_cons_succ, Nat.reduceAdd, Array.getD_eq_getD_getElem?, List.getElem?_toArray, List.getElem?_cons_succ, List.getElem?_cons_zero, Option.getD_some]
  have hbx := But.setCells g zK.cells 0 w1
  have H8 := Lib.hid (hb0.setAll zK.cells rfl)
  have HX := Lib.hid (hx0.trans_but hbx (by omega))
  clear hb0 hbx hx0 HP hl c0 c1 c2 c3 c4
  generalize w1.setCells g 0 zK.cells = w2 at *
  go_wp2_with fail
  exact bodyPost_ret (results_key rfl _ _ g 33 zK.cells.toArray (0, 0) rfl H8.out (by exact sizeK)) rfl ⟨rfl, HX.out⟩
set_option maxRecDepth 100000 in
set_option maxHeartbeats 8000000 in
theorem exact_bad (most : Int) (q : Option Addr) (n c : Nat) (W : World) (hb : most < 1 ∨ 16 < most) :
    Calls Try.prog 4 #[.int .i64 most, .slice q n c] W fun e w' => e = .returned (.bool true) ∧ Reg.Ext W w' := by
  have HAW := Lib.hid (awake_any W)
  have HN := Lib.hid (new_bad most hb)
  by_cases h1 : most < 1
  · have q0 : decide (most < 1) = true := decide_eq_true h1
    clear h1 hb
    go_enter Try.func4, Try.ntmps4
    go_wp2_with (first
      | (go_at_call 6; refine (HAW.out).mono ?_; rintro e w1 ⟨rfl, hx1⟩; have HX1 := Lib.hid hx1; clear hx1 HAW)
      | (go_at_call 7; refine (HN.out _).mono ?_; rintro e w2 ⟨rfl, rfl⟩))
    go_ret
    exact ⟨rfl, HX1.out⟩
  · have q0 : decide (most < 1) = false := decide_eq_false h1
    have q1 : decide (16 < most) = true := decide_eq_true (by omega)
    clear h1 hb
    go_enter Try.func4, Try.ntmps4
    go_wp2_with (first
      | (go_at_call 6; refine (HAW.out).mono ?_; rintro e w1 ⟨rfl, hx1⟩; have HX1 := Lib.hid hx1; clear hx1 HAW)
      | (go_at_call 7; refine (HN.out _).mono ?_; rintro e w2 ⟨rfl, rfl⟩))
    go_ret
    exact ⟨rfl, HX1.out⟩
set_option maxRecDepth 100000 in
set_option maxHeartbeats 8000000 in
theorem exact_law (most : Int) (q : Option Addr) (c : Nat) (us : List PA) (W : World) (hm : us.length ≤ maxLen) (hA : PActs W q us) :
    Calls Try.prog 4 #[.int .i64 most, .slice q us.length c] W fun e w' => e = .returned (.bool true) ∧ Reg.Ext W w' := by
  by_cases hb : most < 1 ∨ 16 < most
  · exact exact_bad most q us.length c W hb
  have hb1 : 1 ≤ most := by omega
  have hb2 : most ≤ 16 := by omega
  have q0 : decide (most < 1) = false := decide_eq_false (by omega)
  have q1 : decide (16 < most) = false := decide_eq_false (by omega)
  have HAW := Lib.hid (awake_any W)
  have HA := Lib.hid hA
  clear hA hb
  unfold maxLen at hm
  go_enter Try.func4, Try.ntmps4
  go_upto_region 8 with (first
    | (go_at_call 6; refine (HAW.out).mono ?_; rintro e w1 ⟨rfl, hx1⟩; have HN := Lib.hid (new_law hx1 most hb1 hb2); clear hx1 HAW)
    | (go_at_call 7; refine (HN.out).mono ?_; rintro e w2 ⟨h, rfl, hl2⟩; have HL2 := Lib.hid hl2; clear hl2 HN))
  clear q0 q1
  go_upto_block 0 with fail
  obtain ⟨b, hbz⟩ : ∃ b, w2.heap.size = b := ⟨_, rfl⟩
  have HD0 : Hid (Du W (w2.alloc (.cells #[.slice none 0 0, .int .i64 most, .int .i64 0] 46)) h [] b (.slice none 0 0) [] ⟨[], most, 0⟩ ⟨[], most, 0⟩ 0) := Lib.hid (by
    refine ⟨HL2.out.ext (Reg.Ext.alloc _ _), hbz ▸ newR most w2, fun i hi o => ?_, fun i hi => ?_⟩
    · rcases hi with rfl | hi | ⟨d, hd, _⟩
      · have := HL2.out.pn.pt.own_lt o; omega
      · cases hi
      · cases hd
    · rcases hi with rfl | hi | ⟨d, hd, _⟩
      · have := HL2.out.base.1.size; omega
      · cases hi
      · cases hd)
  rw [hbz]
  clear HL2 hbz
  generalize w2.alloc (.cells #[.slice none 0 0, .int .i64 most, .int .i64 0] 46) = w3 at *
  go_cut [8, 9, 10, 11, 12, 13, 14, 15, 16, 17, 18, 19, 20, 21, 22, 23, 24, 25] (fun _ _ _ _ _ _ _ _ _ _ _ _ _ _ _ _ _ _ wx => ∃ p : P, p.most = most ∧ Hid (∃ es v ds n, n ≤ 600 ∧ Du W wx h es b v ds p p n))
  case first =>
    -- {F
    go_wp2_with fail
    go_loopw [8, 9, 10, 11, 12, 13, 14, 15, 16, 17, 18, 19, 20, 21, 22, 23, 24, 25] (fun i _ _ _ _ _ _ _ _ _ _ _ _ _ _ _ _ _ wr => ∃ (j : Nat) (p : P), i = .int .i64 (j : Int) ∧ j ≤ us.length ∧ j ≤ 200 ∧ p.most = most ∧ Hid (∃ es v ds, Du W wr h es b v ds p p (3 * j))) (fun i _ _ _ _ _ _ _ _ _ _ _ _ _ _ _ _ _ _ => us.length - (intOf i).toNat)
    case atStart => exact ⟨0, ⟨[], most, 0⟩, rfl, Nat.zero_le _, Nat.zero_le _, rfl, Lib.hid ⟨_, _, _, HD0.out⟩⟩
    clear HD0
    case round =>
      obtain ⟨j, p, rfl, hj, hj2, hmost, HS⟩ := hrel
      by_cases hjs : j < us.length
      · by_cases hj7 : j < 200
        · obtain ⟨ga, oa, rfl, hlt, hcl, hw1, hw2⟩ := HA.out j hjs
          have HW1 := Lib.hid hw1
          have HW2 := Lib.hid hw2
          have HCL := Lib.hid hcl
          clear hw1 hw2 hcl
          generalize us[j] = x at HW1 HW2 HCL
          go_upto_region 12 with (fail)
          refine wp_region_lit ?_
          iterate 9 go_step
          refine wpList_ldm rfl 48 (.tmp 73) rfl ga (oa + j * 3) rfl x.cells _ (Lib.hid (rng_ext HCL.out (by obtain ⟨es, v, ds, l⟩ := HS.out; exact l.lw.base.1))) undPA sizePA ?_
          simp only [Act.put, Act.eval, List.setIfInBounds_toArray, List.set_cons_zero, List.set_cons_succ, Nat.reduceAdd, Array.getD_eq_getD_getElem?, List.getElem?_toArray, List.getElem?_cons_succ, List.getElem?_cons_zero, Option.getD_some]
          iterate 3 go_step
          obtain ⟨g, hg⟩ : ∃ g, wr.heap.size = g := ⟨_, rfl⟩
          have hb0 := Blk.new wr 48 #[.int .i64 0, .int .i64 0, .int .i64 0]
          have hx0 := Reg.Ext.alloc wr (Obj.cells #[.int .i64 0, .int .i64 0, .int .i64 0] 48)
          rw [hg] at hb0 ⊢
          generalize wr.alloc (Obj.cells #[.int .i64 0, .int .i64 0, .int .i64 0] 48) = w5 at *
          refine wpList_store_mid rfl 48 _ _ rfl g 0 (x.cells).toArray rfl ?_ (hb0.there _ (Nat.le_refl 3)) sizePA (all_oneCell_toArray (fun v hv => by unfold PA.cells at hv; simp only [List.mem_cons, List.not_mem_nil, or_false] at hv; rcases hv with rfl | rfl | rfl <;> rfl)) ?_
          · rfl
          simp only [List.toList_toArray]
          simp only [Act.put, Act.eval, List.setIfInBounds_toArray, List.set_cons_zero, List.set_cons_succ, Nat.reduceAdd, Array.getD_eq_getD_getElem?, List.getElem?_toArray, List.getElem?_cons_succ, List.getElem?_cons_zero, Option.getD_some]
          have hx5 := hx0.trans_but (But.setCells g x.cells 0 w5) (by omega)
          have hb5 := hb0.setAll x.cells rfl
          have HS5 : Hid (∃ es v ds, DuB W (w5.setCells g 0 x.cells) h es b v ds p p (3 * j) g 48 x.cells) := Lib.hid (by
            obtain ⟨es, v, ds, hl⟩ := HS.out
            exact ⟨es, v, ds, hl.ext hx5, hb5, fun o => by have := hl.lw.pn.pt.own_lt o; omega, fun o => by have := hl.rd.lt o; omega⟩)
          clear hb0 hx0 hx5 hb5 hg HS
          generalize w5.setCells g 0 x.cells = w6 at *
          obtain ⟨es, v, ds, hd6⟩ := HS5.out
          have c0 : w6.cell? ⟨g, 0, none⟩ = some (.int .i64 x.k) := hd6.bq.blk.cell 0
          have c1 : w6.cell? ⟨g, 1, none⟩ = some (.int .i64 x.n) := hd6.bq.blk.cell 1
          have c2 : w6.cell? ⟨g, 2, none⟩ = some (.int .i64 x.who) := hd6.bq.blk.cell 2
          have HQ := Lib.hid (hd6.du.lw.qf (by omega) (by omega))
          have HD6 := Lib.hid hd6
          clear hd6 HS5
          go_upto_block 2 with fail
          go_cut [10, 11, 12, 13, 14, 15, 16, 17, 18, 19] (fun _ _ _ _ _ _ _ _ _ _ wx => ∃ p1 : P, p1.most = most ∧ Hid (∃ es v ds, DuB W wx h es b v ds p1 p1 (3 * (j + 1)) g 48 x.cells))
          case first =>
            by_cases k1 : x.k = 1
            · as_aux_lemma =>
              -- {K1
              have q1 : (x.k == 1) = true := beq_iff_eq.2 k1
              obtain ⟨id1, fi, er, p2, hr⟩ : ∃ id1 fi er p2, p.join (lkey x.n) x.who = ((id1, fi, er), p2) := ⟨_, _, _, _, rfl⟩
              have hjo := join_once HQ.out.good (lkey x.n) x.who
              rw [hr] at hjo
              have HM2 : Hid (p2.most = most) := Lib.hid (hjo.2.2.2.trans hmost)
              have HJ := Lib.hid (fun w es (d : DuB W w h es b v ds p p (3 * j) g 48 x.cells) => d.join (lkey x.n) (lkey_fine HW1.out) x.who HW2.out (by omega) hr)
              have HJR := Lib.hid (fun w es n (d : DuB W w h es b v ds p2 p n g 48 x.cells) => d.joinR HQ.out (lkey x.n) (lkey_fine HW1.out) x.who hr)
              have qi : (id1 != id1) = false := bne_self_eq_false _
              have qf : (fi != fi) = false := by cases fi <;> rfl
              have qe : (er != er) = false := bne_self_eq_false _
              clear k1 hjo hr
              go_upto_region 17 with (fail)
              clear c0 c1 c2
              refine Ordl.begins (S := fun w => w.cell? ⟨g, 1, none⟩ = some (.int .i64 x.n) ∧ w.cell? ⟨g, 2, none⟩ = some (.int .i64 x.who)) (z := 99) (by kernel_rfl) ?_
              refine Ordl.Bx.out (?_ : Ordl.Bx (Ordl.Any _ _ _ _ _ _ _ _ _ _))
              have HA4 := Lib.hid ((HD6).out.ext (Reg.Ext.drew w6))
              clear HD6
              generalize (w6).drew = w4 at *
              have X0 : w4.cell? ⟨g, 1, none⟩ = some (.int .i64 x.n) ∧ w4.cell? ⟨g, 2, none⟩ = some (.int .i64 x.who) := ⟨HA4.out.bq.blk.cell 1, HA4.out.bq.blk.cell 2⟩
              refine Ordl.take (i := 0) (v := .pointer (some ⟨h.d, 0, none⟩)) rfl (by kernel_rfl) (by kernel_rfl) (by kernel_rfl) (by kernel_rfl) (fun _ _ _ h => h) (.inl ⟨by kernel_rfl, fun w _ => by as_aux_lemma => kernel_rfl⟩) X0 ?_
              simp only [List.getElem_toArray, List.getElem_cons_succ, List.getElem_cons_zero, Act.put, Act.eval, List.setIfInBounds_toArray, List.set_cons_zero, List.set_cons_succ, Nat.reduceAdd, Array.getD_eq_getD_getElem?, List.getElem?_toArray, List.getElem?_cons_succ, List.getElem?_cons_zero, Option.getD_some]
              refine Ordl.take (i := 1) (v := .pointer (some ⟨g, 1, none⟩)) rfl (by kernel_rfl) (by kernel_rfl) (by kernel_rfl) (by kernel_rfl) (fun _ _ _ h => h) (.inl ⟨by kernel_rfl, fun w _ => by as_aux_lemma => kernel_rfl⟩) X0 ?_
              simp only [List.getElem_toArray, List.getElem_cons_succ, List.getElem_cons_zero, Act.put, Act.eval, List.setIfInBounds_toArray, List.set_cons_zero, List.set_cons_succ, Nat.reduceAdd, Array.getD_eq_getD_getElem?, List.getElem?_toArray, List.getElem?_cons_succ, List.getElem?_cons_zero, Option.getD_some]
              refine Ordl.take (i := 2) (v := .int .i64 x.n) rfl (by kernel_rfl) (by kernel_rfl) (by kernel_rfl) (by kernel_rfl) (fun _ _ _ h => h) (yields_load1 (by kernel_rfl) 3 (.tmp 91) rfl ⟨g, 1, none⟩ (by kernel_rfl) (.int .i64 x.n) _ Try.underlying3 rfl (fun w h => h.1)) X0 ?_
              simp only [List.getElem_toArray, List.getElem_cons_succ, List.getElem_cons_zero, Act.put, Act.eval, List.setIfInBounds_toArray, List.set_cons_zero, List.set_cons_succ, Nat.reduceAdd, Array.getD_eq_getD_getElem?, List.getElem?_toArray, List.getElem?_cons_succ, List.getElem?_cons_zero, Option.getD_some]
              refine Ordl.take (i := 4) (v := .pointer (some ⟨g, 2, none⟩)) rfl (by kernel_rfl) (by kernel_rfl) (by kernel_rfl) (by kernel_rfl) (fun _ _ _ h => h) (.inl ⟨by kernel_rfl, fun w _ => by as_aux_lemma => kernel_rfl⟩) X0 ?_
              simp only [List.getElem_toArray, List.getElem_cons_succ, List.getElem_cons_zero, Act.put, Act.eval, List.setIfInBounds_toArray, List.set_cons_zero, List.set_cons_succ, Nat.reduceAdd, Array.getD_eq_getD_getElem?, List.getElem?_toArray, List.getElem?_cons_succ, List.getElem?_cons_zero, Option.getD_some]
              refine Ordl.take (i := 5) (v := .int .i64 x.who) rfl (by kernel_rfl) (by kernel_rfl) (by kernel_rfl) (by kernel_rfl) (fun _ _ _ h => h) (yields_load1 (by kernel_rfl) 3 (.tmp 94) rfl ⟨g, 2, none⟩ (by kernel_rfl) (.int .i64 x.who) _ Try.underlying3 rfl (fun w h => h.2)) X0 ?_
              simp only [List.getElem_toArray, List.getElem_cons_succ, List.getElem_cons_zero, Act.put, Act.eval, List.setIfInBounds_toArray, List.set_cons_zero, List.set_cons_succ, Nat.reduceAdd, Array.getD_eq_getD_getElem?, List.getElem?_toArray, List.getElem?_cons_succ, List.getElem?_cons_zero, Option.getD_some]
              refine Ordl.one (i := 3) (by kernel_rfl) rfl ?_
              refine ⟨?_⟩
              repeat go_step
              refine (key_any x.n w4).mono ?_
              rintro e w5 ⟨rfl, hx5⟩
              have HA5 := Lib.hid (HA4.out.ext hx5)
              have X1 : w5.cell? ⟨g, 1, none⟩ = some (.int .i64 x.n) ∧ w5.cell? ⟨g, 2, none⟩ = some (.int .i64 x.who) := ⟨HA5.out.bq.blk.cell 1, HA5.out.bq.blk.cell 2⟩
              clear hx5 HA4 X0
              rename_i hK
              refine hK _ _ ?_
              clear hK
              refine Ordl.Bx.out (?_ : Ordl.Bx _)
              refine Ordl.fin X1 ?_
              clear X1
              refine Ordl.one (i := 6) (by kernel_rfl) rfl ?_
              refine ⟨?_⟩
              repeat go_step
              refine (HJ.out _ _ HA5.out).mono ?_
              rintro e w7 ⟨rfl, es7, hd7⟩
              have HD7 := Lib.hid hd7
              have X0 : (w7).cell? ⟨g, 1, none⟩ = some (.int .i64 x.n) ∧ (w7).cell? ⟨g, 2, none⟩ = some (.int .i64 x.who) := ⟨hd7.bq.blk.cell 1, hd7.bq.blk.cell 2⟩
              clear hd7 HA5
              rename_i hK
              refine hK _ _ ?_
              clear hK
              refine Ordl.Bx.out (?_ : Ordl.Bx _)
              refine Ordl.fin X0 ?_
              refine Ordl.take (i := 7) (v := .tuple #[.int .i64 id1, .bool fi, .int .i64 er]) rfl (by kernel_rfl) (by kernel_rfl) (by kernel_rfl) (by kernel_rfl) (fun _ _ _ h => h) (.inl ⟨by kernel_rfl, fun w _ => by as_aux_lemma => kernel_rfl⟩) X0 ?_
              simp only [List.getElem_toArray, List.getElem_cons_succ, List.getElem_cons_zero, Act.put, Act.eval, List.setIfInBounds_toArray, List.set_cons_zero, List.set_cons_succ, Nat.reduceAdd, Array.getD_eq_getD_getElem?, List.getElem?_toArray, List.getElem?_cons_succ, List.getElem?_cons_zero, Option.getD_some]
              refine Ordl.take (i := 8) (v := .int .i64 id1) rfl (by kernel_rfl) (by kernel_rfl) (by kernel_rfl) (by kernel_rfl) (fun _ _ _ h => h) (.inl ⟨by kernel_rfl, fun w _ => by as_aux_lemma => kernel_rfl⟩) X0 ?_
              simp only [List.getElem_toArray, List.getElem_cons_succ, List.getElem_cons_zero, Act.put, Act.eval, List.setIfInBounds_toArray, List.set_cons_zero, List.set_cons_succ, Nat.reduceAdd, Array.getD_eq_getD_getElem?, List.getElem?_toArray, List.getElem?_cons_succ, List.getElem?_cons_zero, Option.getD_some]
              refine Ordl.take (i := 9) (v := .bool fi) rfl (by kernel_rfl) (by kernel_rfl) (by kernel_rfl) (by kernel_rfl) (fun _ _ _ h => h) (.inl ⟨by kernel_rfl, fun w _ => by as_aux_lemma => kernel_rfl⟩) X0 ?_
              simp only [List.getElem_toArray, List.getElem_cons_succ, List.getElem_cons_zero, Act.put, Act.eval, List.setIfInBounds_toArray, List.set_cons_zero, List.set_cons_succ, Nat.reduceAdd, Array.getD_eq_getD_getElem?, List.getElem?_toArray, List.getElem?_cons_succ, List.getElem?_cons_zero, Option.getD_some]
              refine Ordl.take (i := 10) (v := .int .i64 er) rfl (by kernel_rfl) (by kernel_rfl) (by kernel_rfl) (by kernel_rfl) (fun _ _ _ h => h) (.inl ⟨by kernel_rfl, fun w _ => by as_aux_lemma => kernel_rfl⟩) X0 ?_
              simp only [List.getElem_toArray, List.getElem_cons_succ, List.getElem_cons_zero, Act.put, Act.eval, List.setIfInBounds_toArray, List.set_cons_zero, List.set_cons_succ, Nat.reduceAdd, Array.getD_eq_getD_getElem?, List.getElem?_toArray, List.getElem?_cons_succ, List.getElem?_cons_zero, Option.getD_some]
              refine Ordl.take (i := 11) (v := .int .i64 id1) rfl (by kernel_rfl) (by kernel_rfl) (by kernel_rfl) (by kernel_rfl) (fun _ _ _ h => h) (.inl ⟨by kernel_rfl, fun w _ => by as_aux_lemma => kernel_rfl⟩) X0 ?_
              simp only [List.getElem_toArray, List.getElem_cons_succ, List.getElem_cons_zero, Act.put, Act.eval, List.setIfInBounds_toArray, List.set_cons_zero, List.set_cons_succ, Nat.reduceAdd, Array.getD_eq_getD_getElem?, List.getElem?_toArray, List.getElem?_cons_succ, List.getElem?_cons_zero, Option.getD_some]
              refine Ordl.take (i := 12) (v := .bool fi) rfl (by kernel_rfl) (by kernel_rfl) (by kernel_rfl) (by kernel_rfl) (fun _ _ _ h => h) (.inl ⟨by kernel_rfl, fun w _ => by as_aux_lemma => kernel_rfl⟩) X0 ?_
              simp only [List.getElem_toArray, List.getElem_cons_succ, List.getElem_cons_zero, Act.put, Act.eval, List.setIfInBounds_toArray, List.set_cons_zero, List.set_cons_succ, Nat.reduceAdd, Array.getD_eq_getD_getElem?, List.getElem?_toArray, List.getElem?_cons_succ, List.getElem?_cons_zero, Option.getD_some]
              refine Ordl.take (i := 13) (v := .int .i64 er) rfl (by kernel_rfl) (by kernel_rfl) (by kernel_rfl) (by kernel_rfl) (fun _ _ _ h => h) (.inl ⟨by kernel_rfl, fun w _ => by as_aux_lemma => kernel_rfl⟩) X0 ?_
              simp only [List.getElem_toArray, List.getElem_cons_succ, List.getElem_cons_zero, Act.put, Act.eval, List.setIfInBounds_toArray, List.set_cons_zero, List.set_cons_succ, Nat.reduceAdd, Array.getD_eq_getD_getElem?, List.getElem?_toArray, List.getElem?_cons_succ, List.getElem?_cons_zero, Option.getD_some]
              refine Ordl.done (by kernel_rfl) ?_ _
              clear X0
              go_upto_region 18 with (fail)
              refine Ordl.begins (S := fun w => w.cell? ⟨g, 1, none⟩ = some (.int .i64 x.n) ∧ w.cell? ⟨g, 2, none⟩ = some (.int .i64 x.who)) (z := 99) (by kernel_rfl) ?_
              refine Ordl.Bx.out (?_ : Ordl.Bx (Ordl.Any _ _ _ _ _ _ _ _ _ _))
              have HA4 := Lib.hid ((HD7).out.ext (Reg.Ext.drew w7))
              clear HD7
              generalize (w7).drew = w4 at *
              have X0 : w4.cell? ⟨g, 1, none⟩ = some (.int .i64 x.n) ∧ w4.cell? ⟨g, 2, none⟩ = some (.int .i64 x.who) := ⟨HA4.out.bq.blk.cell 1, HA4.out.bq.blk.cell 2⟩
              refine Ordl.take (i := 0) (v := .pointer (some ⟨b, 0, none⟩)) rfl (by kernel_rfl) (by kernel_rfl) (by kernel_rfl) (by kernel_rfl) (fun _ _ _ h => h) (.inl ⟨by kernel_rfl, fun w _ => by as_aux_lemma => kernel_rfl⟩) X0 ?_
              simp only [List.getElem_toArray, List.getElem_cons_succ, List.getElem_cons_zero, Act.put, Act.eval, List.setIfInBounds_toArray, List.set_cons_zero, List.set_cons_succ, Nat.reduceAdd, Array.getD_eq_getD_getElem?, List.getElem?_toArray, List.getElem?_cons_succ, List.getElem?_cons_zero, Option.getD_some]
              refine Ordl.take (i := 1) (v := .pointer (some ⟨g, 1, none⟩)) rfl (by kernel_rfl) (by kernel_rfl) (by kernel_rfl) (by kernel_rfl) (fun _ _ _ h => h) (.inl ⟨by kernel_rfl, fun w _ => by as_aux_lemma => kernel_rfl⟩) X0 ?_
              simp only [List.getElem_toArray, List.getElem_cons_succ, List.getElem_cons_zero, Act.put, Act.eval, List.setIfInBounds_toArray, List.set_cons_zero, List.set_cons_succ, Nat.reduceAdd, Array.getD_eq_getD_getElem?, List.getElem?_toArray, List.getElem?_cons_succ, List.getElem?_cons_zero, Option.getD_some]
              refine Ordl.take (i := 2) (v := .int .i64 x.n) rfl (by kernel_rfl) (by kernel_rfl) (by kernel_rfl) (by kernel_rfl) (fun _ _ _ h => h) (yields_load1 (by kernel_rfl) 3 (.tmp 102) rfl ⟨g, 1, none⟩ (by kernel_rfl) (.int .i64 x.n) _ Try.underlying3 rfl (fun w h => h.1)) X0 ?_
              simp only [List.getElem_toArray, List.getElem_cons_succ, List.getElem_cons_zero, Act.put, Act.eval, List.setIfInBounds_toArray, List.set_cons_zero, List.set_cons_succ, Nat.reduceAdd, Array.getD_eq_getD_getElem?, List.getElem?_toArray, List.getElem?_cons_succ, List.getElem?_cons_zero, Option.getD_some]
              refine Ordl.take (i := 4) (v := .pointer (some ⟨g, 2, none⟩)) rfl (by kernel_rfl) (by kernel_rfl) (by kernel_rfl) (by kernel_rfl) (fun _ _ _ h => h) (.inl ⟨by kernel_rfl, fun w _ => by as_aux_lemma => kernel_rfl⟩) X0 ?_
              simp only [List.getElem_toArray, List.getElem_cons_succ, List.getElem_cons_zero, Act.put, Act.eval, List.setIfInBounds_toArray, List.set_cons_zero, List.set_cons_succ, Nat.reduceAdd, Array.getD_eq_getD_getElem?, List.getElem?_toArray, List.getElem?_cons_succ, List.getElem?_cons_zero, Option.getD_some]
              refine Ordl.take (i := 5) (v := .int .i64 x.who) rfl (by kernel_rfl) (by kernel_rfl) (by kernel_rfl) (by kernel_rfl) (fun _ _ _ h => h) (yields_load1 (by kernel_rfl) 3 (.tmp 105) rfl ⟨g, 2, none⟩ (by kernel_rfl) (.int .i64 x.who) _ Try.underlying3 rfl (fun w h => h.2)) X0 ?_
              simp only [List.getElem_toArray, List.getElem_cons_succ, List.getElem_cons_zero, Act.put, Act.eval, List.setIfInBounds_toArray, List.set_cons_zero, List.set_cons_succ, Nat.reduceAdd, Array.getD_eq_getD_getElem?, List.getElem?_toArray, List.getElem?_cons_succ, List.getElem?_cons_zero, Option.getD_some]
              refine Ordl.one (i := 3) (by kernel_rfl) rfl ?_
              refine ⟨?_⟩
              repeat go_step
              refine (key_any x.n w4).mono ?_
              rintro e w5 ⟨rfl, hx5⟩
              have HA5 := Lib.hid (HA4.out.ext hx5)
              have X1 : w5.cell? ⟨g, 1, none⟩ = some (.int .i64 x.n) ∧ w5.cell? ⟨g, 2, none⟩ = some (.int .i64 x.who) := ⟨HA5.out.bq.blk.cell 1, HA5.out.bq.blk.cell 2⟩
              clear hx5 HA4 X0
              rename_i hK
              refine hK _ _ ?_
              clear hK
              refine Ordl.Bx.out (?_ : Ordl.Bx _)
              refine Ordl.fin X1 ?_
              clear X1
              refine Ordl.one (i := 6) (by kernel_rfl) rfl ?_
              refine ⟨?_⟩
              repeat go_step
              refine (HJR.out _ _ _ HA5.out).mono ?_
              rintro e w9 ⟨rfl, v9, ds9, hd7⟩
              have HD9 := Lib.hid hd7
              have X0 : (w9).cell? ⟨g, 1, none⟩ = some (.int .i64 x.n) ∧ (w9).cell? ⟨g, 2, none⟩ = some (.int .i64 x.who) := ⟨hd7.bq.blk.cell 1, hd7.bq.blk.cell 2⟩
              clear hd7 HA5
              rename_i hK
              refine hK _ _ ?_
              clear hK
              refine Ordl.Bx.out (?_ : Ordl.Bx _)
              refine Ordl.fin X0 ?_
              refine Ordl.take (i := 7) (v := .tuple #[.int .i64 id1, .bool fi, .int .i64 er]) rfl (by kernel_rfl) (by kernel_rfl) (by kernel_rfl) (by kernel_rfl) (fun _ _ _ h => h) (.inl ⟨by kernel_rfl, fun w _ => by as_aux_lemma => kernel_rfl⟩) X0 ?_
              simp only [List.getElem_toArray, List.getElem_cons_succ, List.getElem_cons_zero, Act.put, Act.eval, List.setIfInBounds_toArray, List.set_cons_zero, List.set_cons_succ, Nat.reduceAdd, Array.getD_eq_getD_getElem?, List.getElem?_toArray, List.getElem?_cons_succ, List.getElem?_cons_zero, Option.getD_some]
              refine Ordl.take (i := 8) (v := .int .i64 id1) rfl (by kernel_rfl) (by kernel_rfl) (by kernel_rfl) (by kernel_rfl) (fun _ _ _ h => h) (.inl ⟨by kernel_rfl, fun w _ => by as_aux_lemma => kernel_rfl⟩) X0 ?_
              simp only [List.getElem_toArray, List.getElem_cons_succ, List.getElem_cons_zero, Act.put, Act.eval, List.setIfInBounds_toArray, List.set_cons_zero, List.set_cons_succ, Nat.reduceAdd, Array.getD_eq_getD_getElem?, List.getElem?_toArray, List.getElem?_cons_succ, List.getElem?_cons_zero, Option.getD_some]
              refine Ordl.take (i := 9) (v := .bool fi) rfl (by kernel_rfl) (by kernel_rfl) (by kernel_rfl) (by kernel_rfl) (fun _ _ _ h => h) (.inl ⟨by kernel_rfl, fun w _ => by as_aux_lemma => kernel_rfl⟩) X0 ?_
              simp only [List.getElem_toArray, List.getElem_cons_succ, List.getElem_cons_zero, Act.put, Act.eval, List.setIfInBounds_toArray, List.set_cons_zero, List.set_cons_succ, Nat.reduceAdd, Array.getD_eq_getD_getElem?, List.getElem?_toArray, List.getElem?_cons_succ, List.getElem?_cons_zero, Option.getD_some]
              refine Ordl.take (i := 10) (v := .int .i64 er) rfl (by kernel_rfl) (by kernel_rfl) (by kernel_rfl) (by kernel_rfl) (fun _ _ _ h => h) (.inl ⟨by kernel_rfl, fun w _ => by as_aux_lemma => kernel_rfl⟩) X0 ?_
              simp only [List.getElem_toArray, List.getElem_cons_succ, List.getElem_cons_zero, Act.put, Act.eval, List.setIfInBounds_toArray, List.set_cons_zero, List.set_cons_succ, Nat.reduceAdd, Array.getD_eq_getD_getElem?, List.getElem?_toArray, List.getElem?_cons_succ, List.getElem?_cons_zero, Option.getD_some]
              refine Ordl.take (i := 11) (v := .int .i64 id1) rfl (by kernel_rfl) (by kernel_rfl) (by kernel_rfl) (by kernel_rfl) (fun _ _ _ h => h) (.inl ⟨by kernel_rfl, fun w _ => by as_aux_lemma => kernel_rfl⟩) X0 ?_
              simp only [List.getElem_toArray, List.getElem_cons_succ, List.getElem_cons_zero, Act.put, Act.eval, List.setIfInBounds_toArray, List.set_cons_zero, List.set_cons_succ, Nat.reduceAdd, Array.getD_eq_getD_getElem?, List.getElem?_toArray, List.getElem?_cons_succ, List.getElem?_cons_zero, Option.getD_some]
              refine Ordl.take (i := 12) (v := .bool fi) rfl (by kernel_rfl) (by kernel_rfl) (by kernel_rfl) (by kernel_rfl) (fun _ _ _ h => h) (.inl ⟨by kernel_rfl, fun w _ => by as_aux_lemma => kernel_rfl⟩) X0 ?_
              simp only [List.getElem_toArray, List.getElem_cons_succ, List.getElem_cons_zero, Act.put, Act.eval, List.setIfInBounds_toArray, List.set_cons_zero, List.set_cons_succ, Nat.reduceAdd, Array.getD_eq_getD_getElem?, List.getElem?_toArray, List.getElem?_cons_succ, List.getElem?_cons_zero, Option.getD_some]
              refine Ordl.take (i := 13) (v := .int .i64 er) rfl (by kernel_rfl) (by kernel_rfl) (by kernel_rfl) (by kernel_rfl) (fun _ _ _ h => h) (.inl ⟨by kernel_rfl, fun w _ => by as_aux_lemma => kernel_rfl⟩) X0 ?_
              simp only [List.getElem_toArray, List.getElem_cons_succ, List.getElem_cons_zero, Act.put, Act.eval, List.setIfInBounds_toArray, List.set_cons_zero, List.set_cons_succ, Nat.reduceAdd, Array.getD_eq_getD_getElem?, List.getElem?_toArray, List.getElem?_cons_succ, List.getElem?_cons_zero, Option.getD_some]
              refine Ordl.done (by kernel_rfl) ?_ _
              clear X0
              go_wp2_with fail
              go_meet
              exact ⟨p2, HM2.out, Lib.hid ⟨es7, v9, ds9, by rw [show 3 * (j + 1) = 3 * j + 3 by omega]; exact HD9.out⟩⟩
              -- K1}
            have q1 : (x.k == 1) = false := beq_eq_false_iff_ne.2 k1
            by_cases k2 : x.k = 2
            · as_aux_lemma =>
              -- {K2
              have q2 : (x.k == 2) = true := beq_iff_eq.2 k2
              obtain ⟨id1, fi, p2, hr⟩ : ∃ id1 fi p2, p.leave x.who = ((id1, fi), p2) := ⟨_, _, _, rfl⟩
              have hlo := leave_once p x.who
              rw [hr] at hlo
              have HM2 : Hid (p2.most = most) := Lib.hid (hlo.2.trans hmost)
              have HJ := Lib.hid (fun w es (d : DuB W w h es b v ds p p (3 * j) g 48 x.cells) => d.leave x.who HW2.out (by omega) hr)
              have HJR := Lib.hid (fun w es n (d : DuB W w h es b v ds p2 p n g 48 x.cells) => d.leaveR HQ.out x.who hr)
              have qi : (id1 != id1) = false := bne_self_eq_false _
              have qf : (fi != fi) = false := by cases fi <;> rfl
              clear k1 k2 hlo hr
              go_wp2_with (first
                | (go_at_call 10; refine (HJ.out _ _ HD6.out).mono ?_; rintro e w7 ⟨rfl, es7, hd7⟩; have c2 := hd7.bq.blk.cell 2; simp only [PA.cells, List.getElem?_cons_succ, List.getElem?_cons_zero] at c2; have HD7 := Lib.hid hd7; clear hd7)
                | (go_at_call 19; refine (HJR.out _ _ _ HD7.out).mono ?_; rintro e w9 ⟨rfl, v9, ds9, hd9⟩; have HD9 := Lib.hid hd9; clear hd9))
              go_meet
              exact ⟨p2, HM2.out, Lib.hid ⟨es7, v9, ds9, HD9.out.du.more3, HD9.out.bq⟩⟩
              -- K2}
            · as_aux_lemma =>
              -- {K3
              have q2 : (x.k == 2) = false := beq_eq_false_iff_ne.2 k2
              obtain ⟨l1, p2, hr⟩ : ∃ l1 p2, p.end_ x.who = (l1, p2) := ⟨_, _, rfl⟩
              have hlo := end_once p x.who
              rw [hr] at hlo
              have HM2 : Hid (p2.most = most) := Lib.hid (hlo.2.trans hmost)
              have HJ := Lib.hid (fun w es (d : DuB W w h es b v ds p p (3 * j) g 48 x.cells) => d.end_ x.who HW2.out (by omega) hr)
              have HJR := Lib.hid (fun w es n (d : DuB W w h es b v ds p2 p n g 48 x.cells) => d.endR HQ.out x.who hr)
              have HLL : Hid (l1.length ≤ 1000000) := Lib.hid (end_len HQ.out hr)
              clear k1 k2 hlo hr
              go_upto_region 14 with (fail)
              clear c0 c1 c2
              refine Ordl.begins (S := fun w => w.cell? ⟨g, 2, none⟩ = some (.int .i64 x.who)) (z := 99) (by kernel_rfl) ?_
              refine Ordl.Bx.out (?_ : Ordl.Bx (Ordl.Any _ _ _ _ _ _ _ _ _ _))
              have HA4 := Lib.hid (HD6.out.ext (Reg.Ext.drew w6))
              clear HD6
              generalize w6.drew = w4 at *
              have X0 : w4.cell? ⟨g, 2, none⟩ = some (.int .i64 x.who) := HA4.out.bq.blk.cell 2
              refine Ordl.take (i := 0) (v := .pointer (some ⟨h.d, 0, none⟩)) rfl (by kernel_rfl) (by kernel_rfl) (by kernel_rfl) (by kernel_rfl) (fun _ _ _ h => h) (.inl ⟨by kernel_rfl, fun w _ => by as_aux_lemma => kernel_rfl⟩) X0 ?_
              simp only [List.getElem_toArray, List.getElem_cons_succ, List.getElem_cons_zero, Act.put, Act.eval, List.setIfInBounds_toArray, List.set_cons_zero, List.set_cons_succ, Nat.reduceAdd, Array.getD_eq_getD_getElem?, List.getElem?_toArray, List.getElem?_cons_succ, List.getElem?_cons_zero, Option.getD_some]
              refine Ordl.take (i := 1) (v := .pointer (some ⟨g, 2, none⟩)) rfl (by kernel_rfl) (by kernel_rfl) (by kernel_rfl) (by kernel_rfl) (fun _ _ _ h => h) (.inl ⟨by kernel_rfl, fun w _ => by as_aux_lemma => kernel_rfl⟩) X0 ?_
              simp only [List.getElem_toArray, List.getElem_cons_succ, List.getElem_cons_zero, Act.put, Act.eval, List.setIfInBounds_toArray, List.set_cons_zero, List.set_cons_succ, Nat.reduceAdd, Array.getD_eq_getD_getElem?, List.getElem?_toArray, List.getElem?_cons_succ, List.getElem?_cons_zero, Option.getD_some]
              refine Ordl.take (i := 2) (v := .int .i64 x.who) rfl (by kernel_rfl) (by kernel_rfl) (by kernel_rfl) (by kernel_rfl) (fun _ _ _ h => h) (yields_load1 (by kernel_rfl) 3 (.tmp 78) rfl ⟨g, 2, none⟩ (by kernel_rfl) (.int .i64 x.who) _ Try.underlying3 rfl (fun w h => h)) X0 ?_
              simp only [List.getElem_toArray, List.getElem_cons_succ, List.getElem_cons_zero, Act.put, Act.eval, List.setIfInBounds_toArray, List.set_cons_zero, List.set_cons_succ, Nat.reduceAdd, Array.getD_eq_getD_getElem?, List.getElem?_toArray, List.getElem?_cons_succ, List.getElem?_cons_zero, Option.getD_some]
              refine Ordl.take (i := 4) (v := .pointer (some ⟨b, 0, none⟩)) rfl (by kernel_rfl) (by kernel_rfl) (by kernel_rfl) (by kernel_rfl) (fun _ _ _ h => h) (.inl ⟨by kernel_rfl, fun w _ => by as_aux_lemma => kernel_rfl⟩) X0 ?_
              simp only [List.getElem_toArray, List.getElem_cons_succ, List.getElem_cons_zero, Act.put, Act.eval, List.setIfInBounds_toArray, List.set_cons_zero, List.set_cons_succ, Nat.reduceAdd, Array.getD_eq_getD_getElem?, List.getElem?_toArray, List.getElem?_cons_succ, List.getElem?_cons_zero, Option.getD_some]
              refine Ordl.take (i := 5) (v := .pointer (some ⟨g, 2, none⟩)) rfl (by kernel_rfl) (by kernel_rfl) (by kernel_rfl) (by kernel_rfl) (fun _ _ _ h => h) (.inl ⟨by kernel_rfl, fun w _ => by as_aux_lemma => kernel_rfl⟩) X0 ?_
              simp only [List.getElem_toArray, List.getElem_cons_succ, List.getElem_cons_zero, Act.put, Act.eval, List.setIfInBounds_toArray, List.set_cons_zero, List.set_cons_succ, Nat.reduceAdd, Array.getD_eq_getD_getElem?, List.getElem?_toArray, List.getElem?_cons_succ, List.getElem?_cons_zero, Option.getD_some]
              refine Ordl.take (i := 6) (v := .int .i64 x.who) rfl (by kernel_rfl) (by kernel_rfl) (by kernel_rfl) (by kernel_rfl) (fun _ _ _ h => h) (yields_load1 (by kernel_rfl) 3 (.tmp 82) rfl ⟨g, 2, none⟩ (by kernel_rfl) (.int .i64 x.who) _ Try.underlying3 rfl (fun w h => h)) X0 ?_
              simp only [List.getElem_toArray, List.getElem_cons_succ, List.getElem_cons_zero, Act.put, Act.eval, List.setIfInBounds_toArray, List.set_cons_zero, List.set_cons_succ, Nat.reduceAdd, Array.getD_eq_getD_getElem?, List.getElem?_toArray, List.getElem?_cons_succ, List.getElem?_cons_zero, Option.getD_some]
              refine Ordl.one (i := 3) (by kernel_rfl) rfl ?_
              refine ⟨?_⟩
              repeat go_step
              refine (HJ.out _ _ HA4.out).mono ?_
              rintro e w7 ⟨u7, rfl, hr7, es7, hd7⟩
              have HD7 := Lib.hid hd7
              have HR7 := Lib.hid hr7
              have HBL : Hid (b < w4.heap.size) := Lib.hid HA4.out.du.rd.blk.lt
              have X1 : w7.cell? ⟨g, 2, none⟩ = some (.int .i64 x.who) := hd7.bq.blk.cell 2
              clear hd7 hr7 HA4 X0
              rename_i hK
              refine hK _ _ ?_
              clear hK
              refine Ordl.Bx.out (?_ : Ordl.Bx _)
              refine Ordl.fin X1 ?_
              clear X1
              refine Ordl.one (i := 7) (by kernel_rfl) rfl ?_
              refine ⟨?_⟩
              repeat go_step
              refine (HJR.out _ _ _ HD7.out).mono ?_
              rintro e w8 ⟨u8, rfl, hr8, hb8, v9, ds9, hd8⟩
              have HD8 := Lib.hid hd8
              have HR8 := Lib.hid hr8
              have HR78 := Lib.hid (RowI.butR HR7.out HBL.out hb8)
              have X1 : w8.cell? ⟨g, 2, none⟩ = some (.int .i64 x.who) := hd8.bq.blk.cell 2
              clear hd8 hr8 hb8 HD7 HR7
              rename_i hK
              refine hK _ _ ?_
              clear hK
              refine Ordl.Bx.out (?_ : Ordl.Bx _)
              refine Ordl.fin X1 ?_
              clear X1
              refine Ordl.one (i := 8) (by kernel_rfl) rfl ?_
              refine ⟨?_⟩
              repeat go_step
              refine (same_any HR78.out HR8.out HLL.out).mono ?_
              rintro e w9 ⟨rfl, hx9⟩
              have HD9 := Lib.hid (HD8.out.ext hx9)
              have X0 : w9.cell? ⟨g, 2, none⟩ = some (.int .i64 x.who) := HD9.out.bq.blk.cell 2
              clear hx9 HD8 HR8 HR78
              rename_i hK
              refine hK _ _ ?_
              clear hK
              refine Ordl.Bx.out (?_ : Ordl.Bx _)
              refine Ordl.fin X0 ?_
              refine Ordl.take (i := 9) (v := .bool false) rfl (by kernel_rfl) (by kernel_rfl) (by kernel_rfl) (by kernel_rfl) (fun _ _ _ h => h) (.inl ⟨by kernel_rfl, fun w _ => by as_aux_lemma => kernel_rfl⟩) X0 ?_
              simp only [List.getElem_toArray, List.getElem_cons_succ, List.getElem_cons_zero, Act.put, Act.eval, List.setIfInBounds_toArray, List.set_cons_zero, List.set_cons_succ, Nat.reduceAdd, Array.getD_eq_getD_getElem?, List.getElem?_toArray, List.getElem?_cons_succ, List.getElem?_cons_zero, Option.getD_some]
              refine Ordl.done (by kernel_rfl) ?_ _
              clear X0
              go_wp2_with fail
              go_meet
              exact ⟨p2, HM2.out, Lib.hid ⟨es7, v9, ds9, HD9.out.du.more3, HD9.out.bq⟩⟩
              -- K3}
          case rest =>
           as_aux_lemma =>
            -- {R
            obtain ⟨p1, hm1, HS1⟩ := hcut
            obtain ⟨es1, v1, ds1, hd1⟩ := HS1.out
            obtain ⟨A, cap, hv1⟩ := hd1.du.rd.row.slice
            subst hv1
            have c1 : wc.cell? ⟨g, 1, none⟩ = some (.int .i64 x.n) := hd1.bq.blk.cell 1
            have c2 : wc.cell? ⟨g, 2, none⟩ = some (.int .i64 x.who) := hd1.bq.blk.cell 2
            have hq1 := hd1.du.lw.qf (by omega) (by omega)
            obtain ⟨a1, is1, m1, hA1, hF, hFR⟩ := hd1.du.find2 hq1.len (lkey x.n) (lkey_fine HW1.out)
            obtain ⟨a2, is2, m2, hA2, hWH, hWR⟩ := hd1.du.where2 hq1 x.who HW2.out
            have HF := Lib.hid hF
            have HFR := Lib.hid hFR
            have HWH := Lib.hid hWH
            have HWR := Lib.hid hWR
            have HA1 := Lib.hid hA1
            have HA2 := Lib.hid hA2
            have HX := Lib.hid (Reg.Ext.refl wc)
            have HD1 := Lib.hid hd1.du
            clear hd1 hq1 hF hFR hWH hWR hA1 hA2 HD6 HS1
            go_upto_region 30 with (first
              | (go_at_call 9; refine (key_any x.n _).mono ?_; rintro e wk ⟨rfl, hk⟩; have HX := Lib.hid (HX.out.trans hk); have c1 := hk.at_ c1; have c2 := hk.at_ c2; clear hk)
              | (go_at_call 15; refine (HF.out _ HX.out).mono ?_; rintro e wk ⟨rfl, hk⟩; have HX := Lib.hid (HX.out.trans hk); have c1 := hk.at_ c1; have c2 := hk.at_ c2; clear hk)
              | (go_at_call 21; refine (HFR.out _ HX.out).mono ?_; rintro e wk ⟨rfl, hk⟩; have HX := Lib.hid (HX.out.trans hk); have c1 := hk.at_ c1; have c2 := hk.at_ c2; clear hk)
              | (go_at_call 14; refine (HWH.out _ HX.out).mono ?_; rintro e wk ⟨rfl, rfl⟩)
              | (go_at_call 22; refine (HWR.out _ HX.out).mono ?_; rintro e wk ⟨rfl, rfl⟩))
            -- {RQ
            have HDE := Lib.hid (HD1.out.ext HX.out)
            clear HF HFR HWH HWR HX HD1 c1 c2
            have HLE := Lib.hid (fun w' (hx : Reg.Ext wk w') => (HDE.out.ext hx).lw.len)
            rw [show p1.fs.length = ds1.length from HDE.out.rd.length.symm] at HLE
            have c0 := HDE.out.rd.c.1
            have hle : ds1.length ≤ 200 := by rw [HDE.out.rd.length]; exact (HDE.out.lw.qf (by omega) (by omega)).len
            have ql : ((ds1.length : Int) != (ds1.length : Int)) = false := bne_self_eq_false _
            rcases HA1.out with ⟨rfl, rfl, rfl⟩ | ⟨i1, hi1, rfl, rfl, rfl⟩
            · rcases HA2.out with ⟨rfl, rfl, rfl⟩ | ⟨i2, hi2, rfl, rfl, rfl⟩
              · as_aux_lemma =>
                clear HA1 HA2
                go_quiet (first
                  | (go_at_call 13; exact Calls.quiet_of_same (HLE.out _ (Reg.Ext.drewN _ _))))
                go_wp2_with fail
                go_roundw
                case rel => exact ⟨j + 1, p1, by go_num, by omega, by omega, hm1, Lib.hid ⟨es1, _, ds1, HDE.out.ext (Reg.Ext.drewN _ _)⟩⟩
                case measure => simp [intOf]; omega
              · rcases HDE.out.rd.row.form with ⟨_, h2⟩ | ⟨gl, cap', h2, _, _, _⟩
                · rw [h2] at hi2; exact absurd hi2 (Nat.not_lt_zero _)
                injection h2 with h2 hh h3
                clear hh
                subst h2 h3
                have n2 := HDE.out.rd.row.at_ HDE.out.rd.fit i2 hi2 0 (by omega)
                rw [D.at0, Nat.add_zero] at n2
                clear HA1 HA2
                generalize ds1[i2].f.id = z2 at *
                have qz2 : (z2 != z2) = false := bne_self_eq_false _
                go_quiet (first
                  | (go_at_call 13; exact Calls.quiet_of_same (HLE.out _ (Reg.Ext.drewN _ _))))
                go_wp2_with fail
                go_roundw
                case rel => exact ⟨j + 1, p1, by go_num, by omega, by omega, hm1, Lib.hid ⟨es1, _, ds1, HDE.out.ext (Reg.Ext.drewN _ _)⟩⟩
                case measure => simp [intOf]; omega
            · rcases HDE.out.rd.row.form with ⟨_, h2⟩ | ⟨gl, cap', h2, _, _, _⟩
              · rw [h2] at hi1; exact absurd hi1 (Nat.not_lt_zero _)
              injection h2 with h2 hh h3
              clear hh
              subst h2 h3
              have n1 := HDE.out.rd.row.at_ HDE.out.rd.fit i1 hi1 0 (by omega)
              rw [D.at0, Nat.add_zero] at n1
              rcases HA2.out with ⟨rfl, rfl, rfl⟩ | ⟨i2, hi2, rfl, rfl, rfl⟩
              · clear HA1 HA2
                generalize ds1[i1].f.id = z1 at *
                have qz1 : (z1 != z1) = false := bne_self_eq_false _
                go_quiet (first
                  | (go_at_call 13; exact Calls.quiet_of_same (HLE.out _ (Reg.Ext.drewN _ _))))
                go_wp2_with fail
                go_roundw
                case rel => exact ⟨j + 1, p1, by go_num, by omega, by omega, hm1, Lib.hid ⟨es1, _, ds1, HDE.out.ext (Reg.Ext.drewN _ _)⟩⟩
                case measure => simp [intOf]; omega
              · have n2 := HDE.out.rd.row.at_ HDE.out.rd.fit i2 hi2 0 (by omega)
                rw [D.at0, Nat.add_zero] at n2
                clear HA1 HA2
                generalize ds1[i1].f.id = z1 at *
                have qz1 : (z1 != z1) = false := bne_self_eq_false _
                generalize ds1[i2].f.id = z2 at *
                have qz2 : (z2 != z2) = false := bne_self_eq_false _
                go_quiet (first
                  | (go_at_call 13; exact Calls.quiet_of_same (HLE.out _ (Reg.Ext.drewN _ _))))
                go_wp2_with fail
                go_roundw
                case rel => exact ⟨j + 1, p1, by go_num, by omega, by omega, hm1, Lib.hid ⟨es1, _, ds1, HDE.out.ext (Reg.Ext.drewN _ _)⟩⟩
                case measure => simp [intOf]; omega
            -- RQ}
            -- R}
        · have hje : j = 200 := by omega
          subst hje
          obtain ⟨es, v, ds, hl⟩ := HS.out
          have HX := Lib.hid hl
          clear hl HS
          go_wp2_with fail
          go_meet
          exact ⟨p, hmost, Lib.hid ⟨es, v, ds, _, by omega, HX.out⟩⟩
      · have hje : j = us.length := by omega
        subst hje
        obtain ⟨es, v, ds, hl⟩ := HS.out
        have HX := Lib.hid hl
        clear hl HS
        go_wp2_with fail
        go_meet
        exact ⟨p, hmost, Lib.hid ⟨es, v, ds, _, by omega, HX.out⟩⟩
    -- F}
  case rest =>
   as_aux_lemma =>
    -- {T
    obtain ⟨p, hmost, HS⟩ := hcut
    obtain ⟨es, v, ds, n, hn, hd⟩ := HS.out
    obtain ⟨A, cap, hv⟩ := hd.rd.row.slice
    subst hv
    have HQ := Lib.hid (hd.lw.qf (by omega) (by omega))
    have HD := Lib.hid hd
    have HLI := Lib.hid (list_any hd.lw.pn (by omega))
    obtain ⟨N, hN⟩ : ∃ N, ds.length = N := ⟨_, rfl⟩
    have hN1 : p.fs.length = N := by rw [← hd.rd.length]; exact hN
    have hN2 : es.length = N := by rw [hd.lw.pn.length]; exact hN1
    have hN3 : N ≤ 200 := by rw [← hN1]; exact HQ.out.len
    have HNA := Lib.hid hN
    have HNB := Lib.hid hN1
    have HNC := Lib.hid hN2
    have qB : ((N : Int) != (N : Int)) = false := bne_self_eq_false _
    rw [hN] at HD
    clear hd HS HD0 hN hN1 hN2
    go_upto_region 33 with (go_at_call 16; refine (HLI.out).mono ?_; rintro e w8 ⟨v8, rfl, hr8, hx8⟩; obtain ⟨lA, lc, rfl, -, -⟩ := own_rd hr8; have HD8 := Lib.hid (HD.out.ext hx8); have HR8 := Lib.hid hr8; rw [List.length_map, HNB.out]; clear hr8 hx8 HD HLI)
    have HR9 : Hid (RowI 0 w8 (.slice lA N lc) (p.fs.map Fl.id)) := Lib.hid (by
      have h1 := HR8.out
      rw [List.length_map, HNB.out] at h1
      exact ⟨h1.1, h1.2.imp id fun ⟨g, cap, cur, e, _, hh⟩ => ⟨g, cap, cur, e, Nat.zero_le _, hh⟩⟩)
    have c0 := HD8.out.rd.c.1
    clear HR8
    go_wp2_with fail
    clear c0 qB
    go_loopw [27, 28, 29, 30] (fun a _ _ _ wr => ∃ m : Nat, a = .int .i64 (m : Int) ∧ m ≤ N ∧ Hid (Du W wr h es b (.slice A N cap) ds p p n) ∧ Hid (RowI 0 wr (.slice lA N lc) (p.fs.map Fl.id))) (fun a _ _ _ _ => N - (intOf a).toNat)
    case atStart => exact ⟨0, rfl, Nat.zero_le _, HD8, HR9⟩
    clear HD8 HR9
    case round =>
      obtain ⟨m, rfl, hm3, HDm, HRm⟩ := hrel
      by_cases hml : m < N
      · as_aux_lemma =>
        -- {T1
        have hmd : m < ds.length := by rw [HNA.out]; exact hml
        have hme : m < es.length := by rw [HNC.out]; exact hml
        have hmf : m < p.fs.length := by rw [HNB.out]; exact hml
        have hef : es[m].f = ds[m].f := by
          have h1 : (es.map E.f)[m]? = (ds.map D.f)[m]? := by rw [show es.map E.f = p.fs from HDm.out.lw.pn.fs, HDm.out.rd.fs]
          rw [List.getElem?_map, List.getElem?_map, List.getElem?_eq_getElem hme, List.getElem?_eq_getElem hmd] at h1
          injection h1
        have hid : (p.fs.map Fl.id)[m]? = some ds[m].f.id := by
          rw [← HDm.out.rd.fs, List.map_map, List.getElem?_map, List.getElem?_eq_getElem hmd]
          rfl
        have hne : p.fs.map Fl.id ≠ [] := fun e => by rw [e] at hid; cases hid
        obtain ⟨g2, cap2, hf, -⟩ := HRm.out.form hne
        injection hf with hf1 hf2 hf3
        clear hf2
        subst hf1 hf3
        have y0 := World.ownsRow.cells (g := g2) HRm.out rfl m (.int .i64 ds[m].f.id) (by rw [List.getElem?_map, hid]; rfl)
        rw [Addr.add_mid, Nat.zero_add] at y0
        rcases HDm.out.rd.row.form with ⟨h2, _⟩ | ⟨gL, cap', h2, _, _, _⟩
        · injection h2 with _ h2 _
          omega
        injection h2 with h2 hh h3
        clear hh
        subst h2 h3
        have HRG : Hid (wr.rangeAt gL (m * 38) ds[m].cells) := Lib.hid (by
          have h1 := HDm.out.rd.row
          rw [← HNA.out] at h1
          exact h1.range HDm.out.rd.fit m hmd)
        have hmem := List.getElem_mem hmd
        have HE := Lib.hid (List.getElem_mem hme)
        have HD := Lib.hid (HDm.out.rd.fit _ hmem)
        have HRW := Lib.hid (HDm.out.rd.who _ hmem)
        have c0 := HDm.out.rd.c.1
        have HEF := Lib.hid hef
        have HWL := Lib.hid (HQ.out.who ds[m].f (by rw [← HDm.out.rd.fs]; exact List.mem_map.2 ⟨_, hmem, rfl⟩))
        generalize es[m] = e at *
        generalize ds[m] = d at *
        clear hmd hme hmf hef hid hne hmem
        go_upto_region 38 with (fail)
        refine wp_region_lit ?_
        iterate 18 go_step
        refine wpList_ldm rfl 54 (.tmp 243) rfl gL (m * 38) rfl d.cells _ HRG undF (by rw [d.len HD.out]; exact sizeF) ?_
        simp only [Act.put, Act.eval, List.setIfInBounds_toArray, List.set_cons_zero, List.set_cons_succ, Nat.reduceAdd, Array.getD_eq_getD_getElem?, List.getElem?_toArray, List.getElem?_cons_succ, List.getElem?_cons_zero, Option.getD_some]
        iterate 3 go_step
        rw [zD_cells]
        obtain ⟨g7, hg7⟩ : ∃ g, wr.heap.size = g := ⟨_, rfl⟩
        have hb0 := boxD wr zD
        have hx0 := Reg.Ext.alloc wr (Obj.cells zD.cells.toArray 54)
        rw [hg7] at hb0 ⊢
        generalize wr.alloc (Obj.cells zD.cells.toArray 54) = w1 at *
        refine wpList_store_mid rfl 54 _ _ rfl g7 0 d.cells.toArray rfl ?_ (hb0.there _ (by rw [List.size_toArray, d.len HD.out, zD.len rfl]; exact Nat.le_refl _)) (by rw [List.size_toArray, d.len HD.out]; exact sizeF) (all_oneCell_toArray (d.one HRW.out.one)) ?_
        · rfl
        simp only [List.toList_toArray]
        simp only [Act.put, Act.eval, List.setIfInBounds_toArray, List.set_cons_zero, List.set_cons_succ, Nat.reduceAdd, Array.getD_eq_getD_getElem?, List.getElem?_toArray, List.getElem?_cons_succ, List.getElem?_cons_zero, Option.getD_some]
        have hb1 := hb0.setAll d.cells (by rw [d.len HD.out, zD.len rfl])
        have hx1 := hx0.trans_but (But.setCells g7 d.cells 0 w1) (by omega)
        have HX1 := Lib.hid hx1
        have HB1 := Lib.hid hb1
        have y1 := hx1.at_ y0
        clear hb0 hx0 hx1 hb1 hg7 y0 c0 HRG
        generalize w1.setCells g7 0 d.cells = w2 at *
        have HKY := Lib.hid (fun w' (hx : Reg.Ext wr w') => key_at (HDm.out.ext hx).lw.pn HE.out (by omega))
        rw [HEF.out] at HKY
        go_upto_region 39 with (fail)
        refine wp_region_lit ?_
        repeat go_step
        refine (HKY.out _ HX1.out).mono ?_
        rintro ek w11 ⟨rfl, hx11⟩
        have HX11 := Lib.hid (HX1.out.trans hx11)
        have HB11 := Lib.hid (HB1.out.ext hx11)
        have y2 := hx11.at_ y1
        clear hx11 HX1 HB1 y1 HKY
        rename_i hK
        refine hK _ _ ?_
        clear hK
        iterate 12 go_step
        rw [z36]
        obtain ⟨bx, hbx⟩ : ∃ b, w11.heap.size = b := ⟨_, rfl⟩
        have hb0 := boxK w11 zK
        have hx0 := Reg.Ext.alloc w11 (Obj.cells zK.cells.toArray 33)
        rw [hbx] at hb0 ⊢
        generalize w11.alloc (Obj.cells zK.cells.toArray 33) = w12 at *
        refine wpList_store_mid rfl 33 _ _ rfl bx 0 (d.f.key.cells).toArray rfl ?_ (hb0.there _ (by rw [List.size_toArray, d.f.key.len HD.out]; exact Nat.le_refl _)) (by rw [List.size_toArray, d.f.key.len HD.out]; exact sizeK) (all_oneCell_toArray (Ky.one _)) ?_
        · rfl
        simp only [List.toList_toArray]
        simp only [Act.put, Act.eval, List.setIfInBounds_toArray, List.set_cons_zero, List.set_cons_succ, Nat.reduceAdd, Array.getD_eq_getD_getElem?, List.getElem?_toArray, List.getElem?_cons_succ, List.getElem?_cons_zero, Option.getD_some]
        have hxb := hx0.trans_but (But.setCells bx d.f.key.cells 0 w12) (by omega)
        have HX13 := Lib.hid (HX11.out.trans hxb)
        have HB13 := Lib.hid (HB11.out.ext hxb)
        have HK13 := Lib.hid (hb0.setAll d.f.key.cells (by rw [d.f.key.len HD.out]; rfl))
        have y3 := hxb.at_ y2
        clear hb0 hx0 hxb hbx y2 HX11 HB11
        generalize w12.setCells bx 0 d.f.key.cells = w13 at *
        have HWT := Lib.hid (fun w' (hx : Reg.Ext wr w') => waiters_some (HDm.out.ext hx).lw.pn HE.out (by omega))
        rw [HEF.out] at HWT
        have qi : (d.f.id != d.f.id) = false := bne_self_eq_false _
        go_upto_region 40 with (fail)
        refine Ordl.begins (S := fun w' => Reg.Ext (w13).drew w') (z := 99) (by kernel_rfl) ?_
        refine Ordl.Bx.out (?_ : Ordl.Bx (Ordl.Any _ _ _ _ _ _ _ _ _ _))
        have X0 : Reg.Ext (w13).drew (w13).drew := Reg.Ext.refl _
        have HX14 := Lib.hid (HX13.out.trans (Reg.Ext.drew w13))
        have HB14 := Lib.hid (HB13.out.ext (Reg.Ext.drew w13))
        have HK14 := Lib.hid (HK13.out.ext (Reg.Ext.drew w13))
        have HY14 := Lib.hid ((Reg.Ext.drew w13).at_ y3)
        have HS14 := Lib.hid ((HB14.out.cell 37).trans (D.at37 d HD.out))
        have HI14 := Lib.hid ((HB14.out.cell 0).trans (D.at0 d))
        clear y3 HX13 HB13 HK13
        generalize w13.drew = w14 at *
        refine Ordl.take (i := 0) (v := .slice (some ⟨g2, 0, none⟩) N lc) rfl (by kernel_rfl) (by kernel_rfl) (by kernel_rfl) (by kernel_rfl) (fun _ _ _ h => h) (.inl ⟨by kernel_rfl, fun w _ => by as_aux_lemma => kernel_rfl⟩) X0 ?_
        simp only [List.getElem_toArray, List.getElem_cons_succ, List.getElem_cons_zero, Act.put, Act.eval, List.setIfInBounds_toArray, List.set_cons_zero, List.set_cons_succ, Nat.reduceAdd, Array.getD_eq_getD_getElem?, List.getElem?_toArray, List.getElem?_cons_succ, List.getElem?_cons_zero, Option.getD_some]
        refine Ordl.take (i := 1) (v := .int .i64 (m : Int)) rfl (by kernel_rfl) (by kernel_rfl) (by kernel_rfl) (by kernel_rfl) (fun _ _ _ h => h) (.inl ⟨by kernel_rfl, fun w _ => by as_aux_lemma => kernel_rfl⟩) X0 ?_
        simp only [List.getElem_toArray, List.getElem_cons_succ, List.getElem_cons_zero, Act.put, Act.eval, List.setIfInBounds_toArray, List.set_cons_zero, List.set_cons_succ, Nat.reduceAdd, Array.getD_eq_getD_getElem?, List.getElem?_toArray, List.getElem?_cons_succ, List.getElem?_cons_zero, Option.getD_some]
        refine Ordl.take (i := 2) (v := .pointer (some ⟨g2, m, none⟩)) rfl (by kernel_rfl) (by kernel_rfl) (by kernel_rfl) (by kernel_rfl) (fun _ _ _ h => h) (.inl ⟨by kernel_rfl, fun w hS => exec_idxI (cap := lc) (.tmp 254) (.tmp 255) rfl (by kernel_rfl) (by kernel_rfl) hml w⟩) X0 ?_
        simp only [List.getElem_toArray, List.getElem_cons_succ, List.getElem_cons_zero, Act.put, Act.eval, List.setIfInBounds_toArray, List.set_cons_zero, List.set_cons_succ, Nat.reduceAdd, Array.getD_eq_getD_getElem?, List.getElem?_toArray, List.getElem?_cons_succ, List.getElem?_cons_zero, Option.getD_some]
        refine Ordl.take (i := 3) (v := .int .i64 d.f.id) rfl (by kernel_rfl) (by kernel_rfl) (by kernel_rfl) (by kernel_rfl) (fun _ _ _ h => h) (yields_load1 (by kernel_rfl) 3 (.tmp 256) rfl ⟨g2, m, none⟩ (by kernel_rfl) (.int .i64 d.f.id) _ Try.underlying3 rfl (fun w h => h.at_ HY14.out)) X0 ?_
        simp only [List.getElem_toArray, List.getElem_cons_succ, List.getElem_cons_zero, Act.put, Act.eval, List.setIfInBounds_toArray, List.set_cons_zero, List.set_cons_succ, Nat.reduceAdd, Array.getD_eq_getD_getElem?, List.getElem?_toArray, List.getElem?_cons_succ, List.getElem?_cons_zero, Option.getD_some]
        refine Ordl.take (i := 4) (v := .pointer (some ⟨g7, 0, none⟩)) rfl (by kernel_rfl) (by kernel_rfl) (by kernel_rfl) (by kernel_rfl) (fun _ _ _ h => h) (.inl ⟨by kernel_rfl, fun w _ => by as_aux_lemma => kernel_rfl⟩) X0 ?_
        simp only [List.getElem_toArray, List.getElem_cons_succ, List.getElem_cons_zero, Act.put, Act.eval, List.setIfInBounds_toArray, List.set_cons_zero, List.set_cons_succ, Nat.reduceAdd, Array.getD_eq_getD_getElem?, List.getElem?_toArray, List.getElem?_cons_succ, List.getElem?_cons_zero, Option.getD_some]
        refine Ordl.take (i := 5) (v := .int .i64 d.f.id) rfl (by kernel_rfl) (by kernel_rfl) (by kernel_rfl) (by kernel_rfl) (fun _ _ _ h => h) (yields_load1 (by kernel_rfl) 3 (.tmp 258) rfl ⟨g7, 0, none⟩ (by kernel_rfl) (.int .i64 d.f.id) _ Try.underlying3 rfl (fun w h => h.at_ HI14.out)) X0 ?_
        simp only [List.getElem_toArray, List.getElem_cons_succ, List.getElem_cons_zero, Act.put, Act.eval, List.setIfInBounds_toArray, List.set_cons_zero, List.set_cons_succ, Nat.reduceAdd, Array.getD_eq_getD_getElem?, List.getElem?_toArray, List.getElem?_cons_succ, List.getElem?_cons_zero, Option.getD_some]
        refine Ordl.take (i := 6) (v := .bool (d.f.id != d.f.id)) rfl (by kernel_rfl) (by kernel_rfl) (by kernel_rfl) (by kernel_rfl) (fun _ _ _ h => h) (.inl ⟨by kernel_rfl, fun w _ => by as_aux_lemma => kernel_rfl⟩) X0 ?_
        simp only [List.getElem_toArray, List.getElem_cons_succ, List.getElem_cons_zero, Act.put, Act.eval, List.setIfInBounds_toArray, List.set_cons_zero, List.set_cons_succ, Nat.reduceAdd, Array.getD_eq_getD_getElem?, List.getElem?_toArray, List.getElem?_cons_succ, List.getElem?_cons_zero, Option.getD_some]
        rw [qi]
        refine Ordl.take (i := 7) (v := .bool false) rfl (by kernel_rfl) (by kernel_rfl) (by kernel_rfl) (by kernel_rfl) (fun _ _ _ h => h) (.inl ⟨by kernel_rfl, fun w _ => by as_aux_lemma => kernel_rfl⟩) X0 ?_
        simp only [List.getElem_toArray, List.getElem_cons_succ, List.getElem_cons_zero, Act.put, Act.eval, List.setIfInBounds_toArray, List.set_cons_zero, List.set_cons_succ, Nat.reduceAdd, Array.getD_eq_getD_getElem?, List.getElem?_toArray, List.getElem?_cons_succ, List.getElem?_cons_zero, Option.getD_some]
        refine Ordl.take (i := 8) (v := .agg (d.f.key).cells.toArray) rfl (by kernel_rfl) (by kernel_rfl) (by kernel_rfl) (by kernel_rfl) (fun _ _ _ h => h) (yieldsIf_load_mid (by kernel_rfl) 33 (.tmp 29) rfl bx (0) (by kernel_rfl) (d.f.key).cells _ (fun w h => rng_ext (blk_rng HK14.out) h) undK rfl (by rw [(d.f.key).len HD.out]; exact sizeK)) X0 ?_
        simp only [List.getElem_toArray, List.getElem_cons_succ, List.getElem_cons_zero, Act.put, Act.eval, List.setIfInBounds_toArray, List.set_cons_zero, List.set_cons_succ, Nat.reduceAdd, Array.getD_eq_getD_getElem?, List.getElem?_toArray, List.getElem?_cons_succ, List.getElem?_cons_zero, Option.getD_some]
        refine Ordl.take (i := 9) (v := .pointer (some ⟨g7, 1, none⟩)) rfl (by kernel_rfl) (by kernel_rfl) (by kernel_rfl) (by kernel_rfl) (fun _ _ _ h => h) (.inl ⟨by kernel_rfl, fun w _ => by as_aux_lemma => kernel_rfl⟩) X0 ?_
        simp only [List.getElem_toArray, List.getElem_cons_succ, List.getElem_cons_zero, Act.put, Act.eval, List.setIfInBounds_toArray, List.set_cons_zero, List.set_cons_succ, Nat.reduceAdd, Array.getD_eq_getD_getElem?, List.getElem?_toArray, List.getElem?_cons_succ, List.getElem?_cons_zero, Option.getD_some]
        refine Ordl.take (i := 10) (v := .agg (d.f.key).cells.toArray) rfl (by kernel_rfl) (by kernel_rfl) (by kernel_rfl) (by kernel_rfl) (fun _ _ _ h => h) (yieldsIf_load_mid (by kernel_rfl) 33 (.tmp 263) rfl g7 (1) (by kernel_rfl) (d.f.key).cells _ (fun w h => rng_ext (D.keyAt HB14.out) h) undK rfl (by rw [(d.f.key).len HD.out]; exact sizeK)) X0 ?_
        simp only [List.getElem_toArray, List.getElem_cons_succ, List.getElem_cons_zero, Act.put, Act.eval, List.setIfInBounds_toArray, List.set_cons_zero, List.set_cons_succ, Nat.reduceAdd, Array.getD_eq_getD_getElem?, List.getElem?_toArray, List.getElem?_cons_succ, List.getElem?_cons_zero, Option.getD_some]
        refine Ordl.take (i := 11) (v := .bool false) rfl (by kernel_rfl) (by kernel_rfl) (by kernel_rfl) (by kernel_rfl) (fun _ _ _ h => h) (.inl ⟨by kernel_rfl, fun w hS => exec_neqS d.f.key HD.out (.tmp 262) (.tmp 264) rfl (by kernel_rfl) (by kernel_rfl)⟩) X0 ?_
        simp only [List.getElem_toArray, List.getElem_cons_succ, List.getElem_cons_zero, Act.put, Act.eval, List.setIfInBounds_toArray, List.set_cons_zero, List.set_cons_succ, Nat.reduceAdd, Array.getD_eq_getD_getElem?, List.getElem?_toArray, List.getElem?_cons_succ, List.getElem?_cons_zero, Option.getD_some]
        refine Ordl.take (i := 12) (v := .bool false) rfl (by kernel_rfl) (by kernel_rfl) (by kernel_rfl) (by kernel_rfl) (fun _ _ _ h => h) (.inl ⟨by kernel_rfl, fun w _ => by as_aux_lemma => kernel_rfl⟩) X0 ?_
        simp only [List.getElem_toArray, List.getElem_cons_succ, List.getElem_cons_zero, Act.put, Act.eval, List.setIfInBounds_toArray, List.set_cons_zero, List.set_cons_succ, Nat.reduceAdd, Array.getD_eq_getD_getElem?, List.getElem?_toArray, List.getElem?_cons_succ, List.getElem?_cons_zero, Option.getD_some]
        refine Ordl.take (i := 13) (v := .bool false) rfl (by kernel_rfl) (by kernel_rfl) (by kernel_rfl) (by kernel_rfl) (fun _ _ _ h => h) (.inl ⟨by kernel_rfl, fun w _ => by as_aux_lemma => kernel_rfl⟩) X0 ?_
        simp only [List.getElem_toArray, List.getElem_cons_succ, List.getElem_cons_zero, Act.put, Act.eval, List.setIfInBounds_toArray, List.set_cons_zero, List.set_cons_succ, Nat.reduceAdd, Array.getD_eq_getD_getElem?, List.getElem?_toArray, List.getElem?_cons_succ, List.getElem?_cons_zero, Option.getD_some]
        refine Ordl.take (i := 14) (v := .bool true) rfl (by kernel_rfl) (by kernel_rfl) (by kernel_rfl) (by kernel_rfl) (fun _ _ _ h => h) (.inl ⟨by kernel_rfl, fun w _ => by as_aux_lemma => kernel_rfl⟩) X0 ?_
        simp only [List.getElem_toArray, List.getElem_cons_succ, List.getElem_cons_zero, Act.put, Act.eval, List.setIfInBounds_toArray, List.set_cons_zero, List.set_cons_succ, Nat.reduceAdd, Array.getD_eq_getD_getElem?, List.getElem?_toArray, List.getElem?_cons_succ, List.getElem?_cons_zero, Option.getD_some]
        refine Ordl.take (i := 15) (v := .bool false) rfl (by kernel_rfl) (by kernel_rfl) (by kernel_rfl) (by kernel_rfl) (fun _ _ _ h => h) (.inl ⟨by kernel_rfl, fun w _ => by as_aux_lemma => kernel_rfl⟩) X0 ?_
        simp only [List.getElem_toArray, List.getElem_cons_succ, List.getElem_cons_zero, Act.put, Act.eval, List.setIfInBounds_toArray, List.set_cons_zero, List.set_cons_succ, Nat.reduceAdd, Array.getD_eq_getD_getElem?, List.getElem?_toArray, List.getElem?_cons_succ, List.getElem?_cons_zero, Option.getD_some]
        refine Ordl.take (i := 16) (v := .bool false) rfl (by kernel_rfl) (by kernel_rfl) (by kernel_rfl) (by kernel_rfl) (fun _ _ _ h => h) (.inl ⟨by kernel_rfl, fun w _ => by as_aux_lemma => kernel_rfl⟩) X0 ?_
        simp only [List.getElem_toArray, List.getElem_cons_succ, List.getElem_cons_zero, Act.put, Act.eval, List.setIfInBounds_toArray, List.set_cons_zero, List.set_cons_succ, Nat.reduceAdd, Array.getD_eq_getD_getElem?, List.getElem?_toArray, List.getElem?_cons_succ, List.getElem?_cons_zero, Option.getD_some]
        refine Ordl.take (i := 17) (v := .bool false) rfl (by kernel_rfl) (by kernel_rfl) (by kernel_rfl) (by kernel_rfl) (fun _ _ _ h => h) (.inl ⟨by kernel_rfl, fun w _ => by as_aux_lemma => kernel_rfl⟩) X0 ?_
        simp only [List.getElem_toArray, List.getElem_cons_succ, List.getElem_cons_zero, Act.put, Act.eval, List.setIfInBounds_toArray, List.set_cons_zero, List.set_cons_succ, Nat.reduceAdd, Array.getD_eq_getD_getElem?, List.getElem?_toArray, List.getElem?_cons_succ, List.getElem?_cons_zero, Option.getD_some]
        refine Ordl.take (i := 18) (v := .pointer (some ⟨h.d, 0, none⟩)) rfl (by kernel_rfl) (by kernel_rfl) (by kernel_rfl) (by kernel_rfl) (fun _ _ _ h => h) (.inl ⟨by kernel_rfl, fun w _ => by as_aux_lemma => kernel_rfl⟩) X0 ?_
        simp only [List.getElem_toArray, List.getElem_cons_succ, List.getElem_cons_zero, Act.put, Act.eval, List.setIfInBounds_toArray, List.set_cons_zero, List.set_cons_succ, Nat.reduceAdd, Array.getD_eq_getD_getElem?, List.getElem?_toArray, List.getElem?_cons_succ, List.getElem?_cons_zero, Option.getD_some]
        refine Ordl.take (i := 19) (v := .slice (some ⟨g2, 0, none⟩) N lc) rfl (by kernel_rfl) (by kernel_rfl) (by kernel_rfl) (by kernel_rfl) (fun _ _ _ h => h) (.inl ⟨by kernel_rfl, fun w _ => by as_aux_lemma => kernel_rfl⟩) X0 ?_
        simp only [List.getElem_toArray, List.getElem_cons_succ, List.getElem_cons_zero, Act.put, Act.eval, List.setIfInBounds_toArray, List.set_cons_zero, List.set_cons_succ, Nat.reduceAdd, Array.getD_eq_getD_getElem?, List.getElem?_toArray, List.getElem?_cons_succ, List.getElem?_cons_zero, Option.getD_some]
        refine Ordl.take (i := 20) (v := .int .i64 (m : Int)) rfl (by kernel_rfl) (by kernel_rfl) (by kernel_rfl) (by kernel_rfl) (fun _ _ _ h => h) (.inl ⟨by kernel_rfl, fun w _ => by as_aux_lemma => kernel_rfl⟩) X0 ?_
        simp only [List.getElem_toArray, List.getElem_cons_succ, List.getElem_cons_zero, Act.put, Act.eval, List.setIfInBounds_toArray, List.set_cons_zero, List.set_cons_succ, Nat.reduceAdd, Array.getD_eq_getD_getElem?, List.getElem?_toArray, List.getElem?_cons_succ, List.getElem?_cons_zero, Option.getD_some]
        refine Ordl.take (i := 21) (v := .pointer (some ⟨g2, m, none⟩)) rfl (by kernel_rfl) (by kernel_rfl) (by kernel_rfl) (by kernel_rfl) (fun _ _ _ h => h) (.inl ⟨by kernel_rfl, fun w hS => exec_idxI (cap := lc) (.tmp 273) (.tmp 274) rfl (by kernel_rfl) (by kernel_rfl) hml w⟩) X0 ?_
        simp only [List.getElem_toArray, List.getElem_cons_succ, List.getElem_cons_zero, Act.put, Act.eval, List.setIfInBounds_toArray, List.set_cons_zero, List.set_cons_succ, Nat.reduceAdd, Array.getD_eq_getD_getElem?, List.getElem?_toArray, List.getElem?_cons_succ, List.getElem?_cons_zero, Option.getD_some]
        refine Ordl.take (i := 22) (v := .int .i64 d.f.id) rfl (by kernel_rfl) (by kernel_rfl) (by kernel_rfl) (by kernel_rfl) (fun _ _ _ h => h) (yields_load1 (by kernel_rfl) 3 (.tmp 275) rfl ⟨g2, m, none⟩ (by kernel_rfl) (.int .i64 d.f.id) _ Try.underlying3 rfl (fun w h => h.at_ HY14.out)) X0 ?_
        simp only [List.getElem_toArray, List.getElem_cons_succ, List.getElem_cons_zero, Act.put, Act.eval, List.setIfInBounds_toArray, List.set_cons_zero, List.set_cons_succ, Nat.reduceAdd, Array.getD_eq_getD_getElem?, List.getElem?_toArray, List.getElem?_cons_succ, List.getElem?_cons_zero, Option.getD_some]
        refine Ordl.take (i := 24) (v := .pointer (some ⟨g7, 37, none⟩)) rfl (by kernel_rfl) (by kernel_rfl) (by kernel_rfl) (by kernel_rfl) (fun _ _ _ h => h) (.inl ⟨by kernel_rfl, fun w _ => by as_aux_lemma => kernel_rfl⟩) X0 ?_
        simp only [List.getElem_toArray, List.getElem_cons_succ, List.getElem_cons_zero, Act.put, Act.eval, List.setIfInBounds_toArray, List.set_cons_zero, List.set_cons_succ, Nat.reduceAdd, Array.getD_eq_getD_getElem?, List.getElem?_toArray, List.getElem?_cons_succ, List.getElem?_cons_zero, Option.getD_some]
        obtain ⟨A5, c5, hv5, -, -⟩ := own_rd HRW.out
        rw [hv5] at HS14
        have HV5 := Lib.hid hv5
        clear hv5
        refine Ordl.take (i := 25) (v := .slice A5 d.f.who.length c5) rfl (by kernel_rfl) (by kernel_rfl) (by kernel_rfl) (by kernel_rfl) (fun _ _ _ h => h) (yields_load1 (by kernel_rfl) 22 (.tmp 278) rfl ⟨g7, 37, none⟩ (by kernel_rfl) (.slice A5 d.f.who.length c5) _ Try.underlying22 rfl (fun w h => h.at_ HS14.out)) X0 ?_
        simp only [List.getElem_toArray, List.getElem_cons_succ, List.getElem_cons_zero, Act.put, Act.eval, List.setIfInBounds_toArray, List.set_cons_zero, List.set_cons_succ, Nat.reduceAdd, Array.getD_eq_getD_getElem?, List.getElem?_toArray, List.getElem?_cons_succ, List.getElem?_cons_zero, Option.getD_some]
        refine Ordl.one (i := 23) (by kernel_rfl) rfl ?_
        refine ⟨?_⟩
        repeat go_step
        refine (HWT.out _ HX14.out).mono ?_
        rintro e1 w15 ⟨u5, rfl, hr15, hx15⟩
        have HR15 := Lib.hid hr15
        have HX15 := Lib.hid (HX14.out.trans hx15)
        have X1 := hx15
        clear hr15 hx15 X0
        have HRo : Hid (RowI 0 w15 (.slice A5 d.f.who.length c5) d.f.who) := Lib.hid (by
          have h1 := RowI.ext HRW.out HX15.out
          rw [HV5.out] at h1
          exact h1)
        rename_i hK
        refine hK _ _ ?_
        clear hK
        refine Ordl.Bx.out (?_ : Ordl.Bx _)
        refine Ordl.fin X1 ?_
        refine Ordl.one (i := 26) (by kernel_rfl) rfl ?_
        refine ⟨?_⟩
        repeat go_step
        refine (same_any HR15.out HRo.out HWL.out).mono ?_
        rintro e1 w16 ⟨rfl, hx16⟩
        have HX16 := Lib.hid (HX15.out.trans hx16)
        have X0 := X1.trans hx16
        clear hx16 X1
        rename_i hK
        refine hK _ _ ?_
        clear hK
        refine Ordl.Bx.out (?_ : Ordl.Bx _)
        refine Ordl.fin X0 ?_
        refine Ordl.take (i := 27) (v := .bool false) rfl (by kernel_rfl) (by kernel_rfl) (by kernel_rfl) (by kernel_rfl) (fun _ _ _ h => h) (.inl ⟨by kernel_rfl, fun w _ => by as_aux_lemma => kernel_rfl⟩) X0 ?_
        simp only [List.getElem_toArray, List.getElem_cons_succ, List.getElem_cons_zero, Act.put, Act.eval, List.setIfInBounds_toArray, List.set_cons_zero, List.set_cons_succ, Nat.reduceAdd, Array.getD_eq_getD_getElem?, List.getElem?_toArray, List.getElem?_cons_succ, List.getElem?_cons_zero, Option.getD_some]
        refine Ordl.take (i := 28) (v := .bool false) rfl (by kernel_rfl) (by kernel_rfl) (by kernel_rfl) (by kernel_rfl) (fun _ _ _ h => h) (.inl ⟨by kernel_rfl, fun w _ => by as_aux_lemma => kernel_rfl⟩) X0 ?_
        simp only [List.getElem_toArray, List.getElem_cons_succ, List.getElem_cons_zero, Act.put, Act.eval, List.setIfInBounds_toArray, List.set_cons_zero, List.set_cons_succ, Nat.reduceAdd, Array.getD_eq_getD_getElem?, List.getElem?_toArray, List.getElem?_cons_succ, List.getElem?_cons_zero, Option.getD_some]
        refine Ordl.done (by kernel_rfl) ?_ _
        clear X0
        have HD16 := Lib.hid (HDm.out.ext HX16.out)
        have HR16 := Lib.hid (RowI.ext HRm.out HX16.out)
        clear HDm HRm HX14 HX15 HB14 HK14 HY14 HS14 HI14 HRo HR15 qi
        go_wp2_with fail
        go_roundw
        case rel => exact ⟨m + 1, by go_num, by omega, HD16, HR16⟩
        case measure => simp [intOf]; omega
        -- T1}
      · as_aux_lemma =>
        -- {T2
        have hme : m = N := by omega
        subst hme
        have hk := key_none HDm.out.lw.pn (-1) (wfI_of (by decide) (by decide)) (by
          cases ha : at_ (-1) p.fs with
          | none => rfl
          | some f => have h1 := at_some ha; have h2 := HDm.out.lw.pn.good.le f h1.1; omega)
        have HK := Lib.hid hk
        have HB := Lib.hid HDm.out.lw.base.1
        clear hk HDm HRm
        go_upto_region 42 with (fail)
        refine wp_region_lit ?_
        repeat go_step
        refine (HK.out).mono ?_
        rintro ek w11 ⟨rfl, hx11⟩
        have HX11 := Lib.hid (HB.out.trans hx11)
        clear hx11 HK HB
        rename_i hK
        refine hK _ _ ?_
        clear hK
        iterate 12 go_step
        rw [z36]
        obtain ⟨bx, hbx⟩ : ∃ b, w11.heap.size = b := ⟨_, rfl⟩
        have hb0 := boxK w11 zK
        have hx0 := Reg.Ext.alloc w11 (Obj.cells zK.cells.toArray 33)
        rw [hbx] at hb0 ⊢
        generalize w11.alloc (Obj.cells zK.cells.toArray 33) = w12 at *
        refine wpList_store_mid rfl 33 _ _ rfl bx 0 zK.cells.toArray rfl ?_ (hb0.there _ (by rw [List.size_toArray]; exact Nat.le_refl _)) (by exact sizeK) (all_oneCell_toArray (Ky.one _)) ?_
        · rfl
        simp only [List.toList_toArray]
        simp only [Act.put, Act.eval, List.setIfInBounds_toArray, List.set_cons_zero, List.set_cons_succ, Nat.reduceAdd, Array.getD_eq_getD_getElem?, List.getElem?_toArray, List.getElem?_cons_succ, List.getElem?_cons_zero, Option.getD_some]
        have HX13 := Lib.hid (HX11.out.trans (hx0.trans_but (But.setCells bx zK.cells 0 w12) (by omega)))
        clear hb0 hx0 hbx HX11
        generalize w12.setCells bx 0 zK.cells = w13 at *
        go_wp2_with fail
        go_ret
        exact ⟨rfl, HX13.out⟩
        -- T2}
    -- T}
end Py
end Go.Proofs.Ytjkhfnfimicffaa

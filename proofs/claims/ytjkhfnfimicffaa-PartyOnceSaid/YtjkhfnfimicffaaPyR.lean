/- Each thing is fetched once: the law's walk (draft). -/
import Derived.Test.YtjkhfnfimicffaaPyQ
import Derived.Test.YtjkhfnfimicffaaPyK
import Derived.Deep.CutBlock
import Derived.Deep.DeepCutAuto
set_option linter.unusedSimpArgs false
set_option linter.unusedVariables false
set_option linter.unusedSectionVars false
namespace Go.Proofs.Ytjkhfnfimicffaa
open Go Go.RowKit Go.Proofs Go.Sort Go.Lib Go.Shelf
namespace Py
set_option maxRecDepth 100000 in
set_option maxHeartbeats 8000000 in
theorem once_law (most : Int) (q : Option Addr) (c : Nat) (us : List PA) (W : World) (hm : us.length ≤ maxLen) (hA : PActs W q us) :
    Calls Try.prog 5 #[.int .i64 most, .slice q us.length c] W fun e w' => e = .returned (.bool true) ∧ Reg.Ext W w' := by
  have HAW := Lib.hid (awake_any W)
  have HA := Lib.hid hA
  clear hA
  unfold maxLen at hm
  go_enter Try.func5, Try.ntmps5
  go_upto_region 4 with (go_at_call 6; refine (HAW.out).mono ?_; rintro e w1 ⟨rfl, hx1⟩)
  obtain ⟨kk, hkk, e1⟩ := umod most 15 (by decide)
  have e1' : wrap64 ((IntKind.u64.wrap most).tmod 16) = (kk : Int) := e1
  have e2 : wrap64 (1 + (kk : Int)) = 1 + kk := by unfold wrap64; omega
  rw [e1', e2]
  obtain ⟨n0, hn0⟩ : ∃ n : Int, 1 + (kk : Int) = n := ⟨_, rfl⟩
  rw [hn0]
  have hn1 : 1 ≤ n0 := by omega
  have hn2 : n0 ≤ 16 := by omega
  have HN := Lib.hid (new_law hx1 n0 hn1 hn2)
  clear e1 e1' e2 hn0 hkk hx1 HAW
  go_wp2_with (go_at_call 7; refine (HN.out).mono ?_; rintro e w2 ⟨h, rfl, hl2⟩; have HL2 := Lib.hid hl2; clear hl2 HN)
  have HS0 : Hid (∃ es, Lw W w2 h es ⟨[], n0, 0⟩ 0) := Lib.hid ⟨[], HL2.out⟩
  clear HL2
  go_loopw [8, 9, 10, 11, 12, 13, 14, 15, 16, 17, 18, 19, 20, 21, 22, 23] (fun last i _ _ _ _ _ _ _ _ _ _ _ _ _ _ wr => ∃ (j : Nat) (p : P), i = .int .i64 (j : Int) ∧ j ≤ us.length ∧ j ≤ 200 ∧ last = .int .i64 p.last ∧ p.most = n0 ∧ Hid (∃ es, Lw W wr h es p (3 * j))) (fun _ i _ _ _ _ _ _ _ _ _ _ _ _ _ _ _ => us.length - (intOf i).toNat)
  case atStart => exact ⟨0, _, rfl, Nat.zero_le _, Nat.zero_le _, rfl, rfl, HS0⟩
  clear HS0
  case round =>
    obtain ⟨j, p, rfl, hj, hj2, rfl, hmost, HS⟩ := hrel
    by_cases hjs : j < us.length
    · by_cases hj7 : j < 200
      · obtain ⟨ga, oa, rfl, hlt, hcl, hw1, hw2⟩ := HA.out j hjs
        have HW1 := Lib.hid hw1
        have HW2 := Lib.hid hw2
        have HCL := Lib.hid hcl
        clear hw1 hw2 hcl
        generalize us[j] = x at HW1 HW2 HCL
        go_upto_region 11 with (fail)
        refine wp_region_lit ?_
        iterate 9 go_step
        refine wpList_ldm rfl 48 (.tmp 54) rfl ga (oa + j * 3) rfl x.cells _ (Lib.hid (rng_ext HCL.out (by obtain ⟨es, l⟩ := HS.out; exact l.base.1))) undPA sizePA ?_
        simp only [Act.put, Act.eval, List.setIfInBounds_toArray, List.set_cons_zero, List.set_cons_succ, Nat.reduceAdd, Array.getD_eq_getD_getElem?, List.getElem?_toArray, List.getElem?_cons_succ, List.getElem?_cons_zero, Option.getD_some]
        iterate 3 go_step
        obtain ⟨g, hg⟩ : ∃ g, wr.heap.size = g := ⟨_, rfl⟩
        have hb0 := Blk.new wr 48 #[.int .i64 0, .int .i64 0, .int .i64 0]
        have hx0 := Reg.Ext.alloc wr (Obj.cells #[.int .i64 0, .int .i64 0, .int .i64 0] 48)
        rw [hg] at hb0 ⊢
        generalize wr.alloc (Obj.cells #[.int .i64 0, .int .i64 0, .int .i64 0] 48) = w5 at *
        refine wpList_store_mid rfl 48 _ _ rfl g 0 (x.cells).toArray rfl ?_ (hb0.there _ (Nat.le_refl 3)) sizePA (all_oneCell_toArray (fun v hv => by unfold PA.cells at hv; simp only [List.mem_cons, List.not_mem_nil, or_false] at hv; rcases hv with rfl | rfl | rfl <;> rfl)) ?_
        · rfl
        simp only [List.toList_toArray]
        simp only [Act.put, Act.eval, List.setIfInBounds_toArray, List.set_cons_zero, List.set_cons_succ, Nat.reduceAdd, Array.getD_eq_getD_getElem?, List.getElem?_toArray, List.getElem?_cons_succ, List.getElem?_cons_zero, Option.getD_some]
        have hx5 := hx0.trans_but (But.setCells g x.cells 0 w5) (by omega)
        have hb5 := hb0.setAll x.cells rfl
        have HS5 : Hid (∃ es, Lw W (w5.setCells g 0 x.cells) h es p (3 * j) ∧ Box (w5.setCells g 0 x.cells) h es g 48 x.cells) := Lib.hid (by
          obtain ⟨es, hl⟩ := HS.out
          exact ⟨es, hl.ext hx5, hb5, fun o => by have := hl.pn.pt.own_lt o; omega⟩)
        clear hb0 hx0 hx5 hb5 hg HS
        generalize w5.setCells g 0 x.cells = w6 at *
        obtain ⟨es, hl6, hbx⟩ := HS5.out
        have c0 : w6.cell? ⟨g, 0, none⟩ = some (.int .i64 x.k) := hbx.blk.cell 0
        have c1 : w6.cell? ⟨g, 1, none⟩ = some (.int .i64 x.n) := hbx.blk.cell 1
        have c2 : w6.cell? ⟨g, 2, none⟩ = some (.int .i64 x.who) := hbx.blk.cell 2
        have HL6 := Lib.hid hl6
        have HB6 := Lib.hid hbx
        clear hl6 hbx HS5
        go_upto_block 2 with fail
        go_cut [8, 11, 12, 13] (fun last _ _ _ wx => ∃ p1 : P, last = .int .i64 p1.last ∧ p1.most = n0 ∧ Hid (∃ es, Lw W wx h es p1 (3 * (j + 1))))
        case first =>
          by_cases k1 : x.k = 1
          · as_aux_lemma =>
            -- {K1
            have q1 : (x.k == 1) = true := beq_iff_eq.2 k1
            have hjo := join_once (by obtain ⟨es, hl⟩ : ∃ es, Lw W w6 h es p (3 * j) := ⟨_, HL6.out⟩; exact hl.pn.good) (lkey x.n) x.who
            obtain ⟨id1, fi, er, p2, hr⟩ : ∃ id1 fi er p2, p.join (lkey x.n) x.who = ((id1, fi, er), p2) := ⟨_, _, _, _, rfl⟩
            rw [hr] at hjo
            obtain ⟨ho1, ho2, ho3, ho4⟩ := hjo
            dsimp only at ho1 ho2 ho3 ho4
            have HJ := Lib.hid (fun w es (l : Lw W w h es p (3 * j)) => l.join (lkey x.n) (lkey_fine HW1.out) x.who HW2.out (by omega) hr)
            have HM2 : Hid (max p.last id1 = p2.last ∧ p2.most = n0) := Lib.hid ⟨ho3, ho4.trans hmost⟩
            have ht : (fi = true ∧ decide (id1 ≤ p.last) = false) ∨ (fi = false ∧ (er == 0) = false) ∨ (fi = false ∧ (er == 0) = true ∧ decide (p.last < id1) = false) := by
              cases fi with
              | true => exact .inl ⟨rfl, decide_eq_false (by have := ho1 rfl; omega)⟩
              | false =>
                by_cases he : er = 0
                · exact .inr (.inr ⟨rfl, beq_iff_eq.2 he, decide_eq_false (by have := ho2 he rfl; omega)⟩)
                · exact .inr (.inl ⟨rfl, beq_eq_false_iff_ne.2 he⟩)
            have HT := Lib.hid ht
            clear k1 hr ho1 ho2 ho3 ho4 ht
            go_upto_region 15 with (fail)
            refine Ordl.begins (S := fun w => w.cell? ⟨g, 1, none⟩ = some (.int .i64 x.n) ∧ w.cell? ⟨g, 2, none⟩ = some (.int .i64 x.who)) (z := 99) (by kernel_rfl) ?_
            refine Ordl.Bx.out (?_ : Ordl.Bx (Ordl.Any _ _ _ _ _ _ _ _ _ _))
            have HL4 := Lib.hid (HL6.out.ext (Reg.Ext.drew w6))
            have HB4 := Lib.hid (HB6.out.ext (Reg.Ext.drew w6))
            clear HL6 HB6 c0 c1 c2
            generalize w6.drew = w4 at *
            have X0 : w4.cell? ⟨g, 1, none⟩ = some (.int .i64 x.n) ∧ w4.cell? ⟨g, 2, none⟩ = some (.int .i64 x.who) := ⟨HB4.out.blk.cell 1, HB4.out.blk.cell 2⟩
            refine Ordl.take (i := 0) (v := .pointer (some ⟨h.d, 0, none⟩)) rfl (by kernel_rfl) (by kernel_rfl) (by kernel_rfl) (by kernel_rfl) (fun _ _ _ h => h) (.inl ⟨by kernel_rfl, fun w _ => by as_aux_lemma => kernel_rfl⟩) X0 ?_
            simp only [List.getElem_toArray, List.getElem_cons_succ, List.getElem_cons_zero, Act.put, Act.eval, List.setIfInBounds_toArray, List.set_cons_zero, List.set_cons_succ, Nat.reduceAdd, Array.getD_eq_getD_getElem?, List.getElem?_toArray, List.getElem?_cons_succ, List.getElem?_cons_zero, Option.getD_some]
            refine Ordl.take (i := 1) (v := .pointer (some ⟨g, 1, none⟩)) rfl (by kernel_rfl) (by kernel_rfl) (by kernel_rfl) (by kernel_rfl) (fun _ _ _ h => h) (.inl ⟨by kernel_rfl, fun w _ => by as_aux_lemma => kernel_rfl⟩) X0 ?_
            simp only [List.getElem_toArray, List.getElem_cons_succ, List.getElem_cons_zero, Act.put, Act.eval, List.setIfInBounds_toArray, List.set_cons_zero, List.set_cons_succ, Nat.reduceAdd, Array.getD_eq_getD_getElem?, List.getElem?_toArray, List.getElem?_cons_succ, List.getElem?_cons_zero, Option.getD_some]
            refine Ordl.take (i := 2) (v := .int .i64 x.n) rfl (by kernel_rfl) (by kernel_rfl) (by kernel_rfl) (by kernel_rfl) (fun _ _ _ h => h) (yields_load1 (by kernel_rfl) 3 (.tmp 66) rfl ⟨g, 1, none⟩ (by kernel_rfl) (.int .i64 x.n) _ Try.underlying3 rfl (fun w h => h.1)) X0 ?_
            simp only [List.getElem_toArray, List.getElem_cons_succ, List.getElem_cons_zero, Act.put, Act.eval, List.setIfInBounds_toArray, List.set_cons_zero, List.set_cons_succ, Nat.reduceAdd, Array.getD_eq_getD_getElem?, List.getElem?_toArray, List.getElem?_cons_succ, List.getElem?_cons_zero, Option.getD_some]
            refine Ordl.take (i := 4) (v := .pointer (some ⟨g, 2, none⟩)) rfl (by kernel_rfl) (by kernel_rfl) (by kernel_rfl) (by kernel_rfl) (fun _ _ _ h => h) (.inl ⟨by kernel_rfl, fun w _ => by as_aux_lemma => kernel_rfl⟩) X0 ?_
            simp only [List.getElem_toArray, List.getElem_cons_succ, List.getElem_cons_zero, Act.put, Act.eval, List.setIfInBounds_toArray, List.set_cons_zero, List.set_cons_succ, Nat.reduceAdd, Array.getD_eq_getD_getElem?, List.getElem?_toArray, List.getElem?_cons_succ, List.getElem?_cons_zero, Option.getD_some]
            refine Ordl.take (i := 5) (v := .int .i64 x.who) rfl (by kernel_rfl) (by kernel_rfl) (by kernel_rfl) (by kernel_rfl) (fun _ _ _ h => h) (yields_load1 (by kernel_rfl) 3 (.tmp 69) rfl ⟨g, 2, none⟩ (by kernel_rfl) (.int .i64 x.who) _ Try.underlying3 rfl (fun w h => h.2)) X0 ?_
            simp only [List.getElem_toArray, List.getElem_cons_succ, List.getElem_cons_zero, Act.put, Act.eval, List.setIfInBounds_toArray, List.set_cons_zero, List.set_cons_succ, Nat.reduceAdd, Array.getD_eq_getD_getElem?, List.getElem?_toArray, List.getElem?_cons_succ, List.getElem?_cons_zero, Option.getD_some]
            refine Ordl.one (i := 3) (by kernel_rfl) rfl ?_
            refine ⟨?_⟩
            repeat go_step
            refine (key_any x.n w4).mono ?_
            rintro e w5 ⟨rfl, hx5⟩
            have HL5 := Lib.hid (HL4.out.ext hx5)
            have HB5 := Lib.hid (HB4.out.ext hx5)
            have X1 : w5.cell? ⟨g, 1, none⟩ = some (.int .i64 x.n) ∧ w5.cell? ⟨g, 2, none⟩ = some (.int .i64 x.who) := ⟨HB5.out.blk.cell 1, HB5.out.blk.cell 2⟩
            clear hx5 HL4 HB4 X0
            rename_i hK
            refine hK _ _ ?_
            clear hK
            refine Ordl.Bx.out (?_ : Ordl.Bx _)
            refine Ordl.fin X1 ?_
            clear X1
            refine Ordl.one (i := 6) (by kernel_rfl) rfl ?_
            refine ⟨?_⟩
            repeat go_step
            refine (HJ.out _ _ HL5.out).mono ?_
            rintro e w7 ⟨rfl, es7, hl7, ht7⟩
            have HL7 := Lib.hid hl7
            have HB7 := Lib.hid (HB5.out.turn ht7)
            have X0 : w7.cell? ⟨g, 1, none⟩ = some (.int .i64 x.n) ∧ w7.cell? ⟨g, 2, none⟩ = some (.int .i64 x.who) := ⟨HB7.out.blk.cell 1, HB7.out.blk.cell 2⟩
            clear hl7 ht7 HL5 HB5 HJ
            rename_i hK
            refine hK _ _ ?_
            clear hK
            refine Ordl.Bx.out (?_ : Ordl.Bx _)
            refine Ordl.fin X0 ?_
            refine Ordl.take (i := 7) (v := .tuple #[.int .i64 id1, .bool fi, .int .i64 er]) rfl (by kernel_rfl) (by kernel_rfl) (by kernel_rfl) (by kernel_rfl) (fun _ _ _ h => h) (.inl ⟨by kernel_rfl, fun w _ => by as_aux_lemma => kernel_rfl⟩) X0 ?_
            simp only [List.getElem_toArray, List.getElem_cons_succ, List.getElem_cons_zero, Act.put, Act.eval, List.setIfInBounds_toArray, List.set_cons_zero, List.set_cons_succ, Nat.reduceAdd, Array.getD_eq_getD_getElem?, List.getElem?_toArray, List.getElem?_cons_succ, List.getElem?_cons_zero, Option.getD_some]
            refine Ordl.take (i := 8) (v := .int .i64 id1) rfl (by kernel_rfl) (by kernel_rfl) (by kernel_rfl) (by kernel_rfl) (fun _ _ _ h => h) (.inl ⟨by kernel_rfl, fun w _ => by as_aux_lemma => kernel_rfl⟩) X0 ?_
            simp only [List.getElem_toArray, List.getElem_cons_succ, List.getElem_cons_zero, Act.put, Act.eval, List.setIfInBounds_toArray, List.set_cons_zero, List.set_cons_succ, Nat.reduceAdd, Array.getD_eq_getD_getElem?, List.getElem?_toArray, List.getElem?_cons_succ, List.getElem?_cons_zero, Option.getD_some]
            refine Ordl.take (i := 9) (v := .bool fi) rfl (by kernel_rfl) (by kernel_rfl) (by kernel_rfl) (by kernel_rfl) (fun _ _ _ h => h) (.inl ⟨by kernel_rfl, fun w _ => by as_aux_lemma => kernel_rfl⟩) X0 ?_
            simp only [List.getElem_toArray, List.getElem_cons_succ, List.getElem_cons_zero, Act.put, Act.eval, List.setIfInBounds_toArray, List.set_cons_zero, List.set_cons_succ, Nat.reduceAdd, Array.getD_eq_getD_getElem?, List.getElem?_toArray, List.getElem?_cons_succ, List.getElem?_cons_zero, Option.getD_some]
            refine Ordl.take (i := 10) (v := .int .i64 er) rfl (by kernel_rfl) (by kernel_rfl) (by kernel_rfl) (by kernel_rfl) (fun _ _ _ h => h) (.inl ⟨by kernel_rfl, fun w _ => by as_aux_lemma => kernel_rfl⟩) X0 ?_
            simp only [List.getElem_toArray, List.getElem_cons_succ, List.getElem_cons_zero, Act.put, Act.eval, List.setIfInBounds_toArray, List.set_cons_zero, List.set_cons_succ, Nat.reduceAdd, Array.getD_eq_getD_getElem?, List.getElem?_toArray, List.getElem?_cons_succ, List.getElem?_cons_zero, Option.getD_some]
            refine Ordl.take (i := 11) (v := .int .i64 id1) rfl (by kernel_rfl) (by kernel_rfl) (by kernel_rfl) (by kernel_rfl) (fun _ _ _ h => h) (.inl ⟨by kernel_rfl, fun w _ => by as_aux_lemma => kernel_rfl⟩) X0 ?_
            simp only [List.getElem_toArray, List.getElem_cons_succ, List.getElem_cons_zero, Act.put, Act.eval, List.setIfInBounds_toArray, List.set_cons_zero, List.set_cons_succ, Nat.reduceAdd, Array.getD_eq_getD_getElem?, List.getElem?_toArray, List.getElem?_cons_succ, List.getElem?_cons_zero, Option.getD_some]
            refine Ordl.take (i := 12) (v := .bool fi) rfl (by kernel_rfl) (by kernel_rfl) (by kernel_rfl) (by kernel_rfl) (fun _ _ _ h => h) (.inl ⟨by kernel_rfl, fun w _ => by as_aux_lemma => kernel_rfl⟩) X0 ?_
            simp only [List.getElem_toArray, List.getElem_cons_succ, List.getElem_cons_zero, Act.put, Act.eval, List.setIfInBounds_toArray, List.set_cons_zero, List.set_cons_succ, Nat.reduceAdd, Array.getD_eq_getD_getElem?, List.getElem?_toArray, List.getElem?_cons_succ, List.getElem?_cons_zero, Option.getD_some]
            refine Ordl.take (i := 13) (v := .int .i64 er) rfl (by kernel_rfl) (by kernel_rfl) (by kernel_rfl) (by kernel_rfl) (fun _ _ _ h => h) (.inl ⟨by kernel_rfl, fun w _ => by as_aux_lemma => kernel_rfl⟩) X0 ?_
            simp only [List.getElem_toArray, List.getElem_cons_succ, List.getElem_cons_zero, Act.put, Act.eval, List.setIfInBounds_toArray, List.set_cons_zero, List.set_cons_succ, Nat.reduceAdd, Array.getD_eq_getD_getElem?, List.getElem?_toArray, List.getElem?_cons_succ, List.getElem?_cons_zero, Option.getD_some]
            refine Ordl.done (by kernel_rfl) ?_ _
            clear X0 HB7
            have hqe : (er == 0) = true ∨ (er == 0) = false := by cases (er == 0) <;> simp
            rcases HT.out with ⟨rfl, qa⟩ | ⟨rfl, qa⟩ | ⟨rfl, qa, qb⟩ <;> clear HT
            · rcases hqe with qe | qe
              · skip
                go_wp2_with fail
                go_meet
                exact ⟨p2, by rw [← HM2.out.1], HM2.out.2, Lib.hid ⟨es7, ⟨HL7.out.pn.more (by omega), HL7.out.base⟩⟩⟩
              · skip
                go_wp2_with fail
                go_meet
                exact ⟨p2, by rw [← HM2.out.1], HM2.out.2, Lib.hid ⟨es7, ⟨HL7.out.pn.more (by omega), HL7.out.base⟩⟩⟩
            · clear hqe
              go_wp2_with fail
              go_meet
              exact ⟨p2, by rw [← HM2.out.1], HM2.out.2, Lib.hid ⟨es7, ⟨HL7.out.pn.more (by omega), HL7.out.base⟩⟩⟩
            · clear hqe
              go_wp2_with fail
              go_meet
              exact ⟨p2, by rw [← HM2.out.1], HM2.out.2, Lib.hid ⟨es7, ⟨HL7.out.pn.more (by omega), HL7.out.base⟩⟩⟩
            -- K1}
          have q1 : (x.k == 1) = false := beq_eq_false_iff_ne.2 k1
          by_cases k2 : x.k = 2
          · as_aux_lemma =>
            -- {K2
            have q2 : (x.k == 2) = true := beq_iff_eq.2 k2
            have hlo := leave_once p x.who
            have HLV := Lib.hid (HL6.out.leave x.who HW2.out (by omega) (show p.leave x.who = (((p.leave x.who).1.1, (p.leave x.who).1.2), (p.leave x.who).2) from rfl))
            have HM2 : Hid ((p.leave x.who).2.last = p.last ∧ (p.leave x.who).2.most = n0) := Lib.hid ⟨hlo.1, hlo.2.trans hmost⟩
            clear k1 k2 hlo
            go_wp2_with (go_at_call 10; refine (HLV.out).mono ?_; rintro e w7 ⟨rfl, es7, hl7, ht7⟩)
            go_meet
            exact ⟨(p.leave x.who).2, by rw [HM2.out.1], HM2.out.2, Lib.hid ⟨es7, ⟨hl7.pn.more (by omega), hl7.base⟩⟩⟩
            -- K2}
          · as_aux_lemma =>
            -- {K3
            have q2 : (x.k == 2) = false := beq_eq_false_iff_ne.2 k2
            have hlo := end_once p x.who
            have HLV := Lib.hid (HL6.out.end_ x.who HW2.out (by omega) (show p.end_ x.who = ((p.end_ x.who).1, (p.end_ x.who).2) from rfl))
            have HM2 : Hid ((p.end_ x.who).2.last = p.last ∧ (p.end_ x.who).2.most = n0) := Lib.hid ⟨hlo.1, hlo.2.trans hmost⟩
            clear k1 k2 hlo
            go_wp2_with (go_at_call 11; refine (HLV.out).mono ?_; rintro e w7 ⟨v7, rfl, hr7, es7, hl7, ht7⟩)
            go_meet
            exact ⟨(p.end_ x.who).2, by rw [HM2.out.1], HM2.out.2, Lib.hid ⟨es7, ⟨hl7.pn.more (by omega), hl7.base⟩⟩⟩
            -- K3}
        case rest =>
          obtain ⟨p1, rfl, hm1, HS1⟩ := hcut
          obtain ⟨es1, hl1⟩ := HS1.out
          have HL1 := Lib.hid hl1
          have hlen : (p1.fs.length : Int) ≤ n0 := by rw [← hm1]; exact hl1.pn.good.most
          have HLI := Lib.hid (list_any hl1.pn (by omega))
          have HLE := Lib.hid (fun w (hl : Lw W w h es1 p1 (3 * (j + 1))) => hl.len)
          obtain ⟨N, hN⟩ : ∃ N, p1.fs.length = N := ⟨_, rfl⟩
          rw [hN] at hlen
          have HNN := Lib.hid hN
          have qA : decide (n0 < (N : Int)) = false := decide_eq_false (by omega)
          have qB : ((N : Int) != (N : Int)) = false := bne_self_eq_false _
          rw [hN] at HLE
          clear hl1 HS1 HL6 HB6 hN
          go_upto_region 24 with (first
            | (go_at_call 16; refine (HLI.out).mono ?_; rintro e w8 ⟨v8, rfl, hr8, hx8⟩; obtain ⟨lA, lc, rfl, -, -⟩ := own_rd hr8; have HL8 := Lib.hid (HL1.out.ext hx8); have HR8 := Lib.hid hr8; have HX8 := Lib.hid hx8; rw [List.length_map, HNN.out]; clear hr8 hx8 HL1 HLI)
            | (go_at_call 13; refine (HLE.out _ HL8.out).mono ?_; rintro e w9 ⟨rfl, rfl⟩))
          have HR9 : Hid (RowI 0 w9 (.slice lA N lc) (p1.fs.map Fl.id)) := Lib.hid (by
            have h1 := HR8.out
            rw [List.length_map, HNN.out] at h1
            exact ⟨h1.1, h1.2.imp id fun ⟨g, cap, cur, e, _, hh⟩ => ⟨g, cap, cur, e, Nat.zero_le _, hh⟩⟩)
          clear HR8 HLE qA qB HX8
          go_wp2_with fail
          go_loopw [15, 16, 17, 18, 19, 20, 21, 22, 23] (fun a _ _ _ _ _ _ _ _ wr => ∃ m : Nat, a = .int .i64 (m : Int) ∧ m ≤ N ∧ Hid (Lw W wr h es1 p1 (3 * (j + 1))) ∧ Hid (RowI 0 wr (.slice lA N lc) (p1.fs.map Fl.id))) (fun a _ _ _ _ _ _ _ _ _ => N - (intOf a).toNat)
          case atStart => exact ⟨0, rfl, Nat.zero_le _, HL8, HR9⟩
          clear HL8 HR9
          case round =>
            obtain ⟨m, rfl, hm3, HLm, HRm⟩ := hrel
            by_cases hml : m < N
            · have hlen1 : es1.length = N := by rw [HLm.out.pn.length]; exact HNN.out
              have hme : m < es1.length := by omega
              have he := List.getElem_mem hme
              have hid : (p1.fs.map Fl.id)[m]? = some es1[m].f.id := by
                rw [← show es1.map E.f = p1.fs from HLm.out.pn.fs]
                simp [hme]
              have hne : p1.fs.map Fl.id ≠ [] := fun e => by rw [e] at hid; cases hid
              obtain ⟨g2, cap2, hf, -⟩ := HRm.out.form hne
              injection hf with hf1 hf2 hf3
              clear hf2
              subst hf1 hf3
              have y0 := World.ownsRow.cells (g := g2) HRm.out rfl m (.int .i64 es1[m].f.id) (by rw [List.getElem?_map, hid]; rfl)
              rw [Addr.add_mid, Nat.zero_add] at y0
              generalize es1[m] = e at he hid y0
              have HE := Lib.hid he
              have HWT := Lib.hid (waiters_some HLm.out.pn he (by omega))
              clear hlen1 hme he hid hne
              go_upto_region 28 with (go_at_call 17; refine (HWT.out).mono ?_; rintro e9 w10 ⟨v10, rfl, hr10, hx10⟩; obtain ⟨g3, cap3, rfl, -⟩ := RowI.form hr10 (HLm.out.pn.good.who _ (HLm.out.pn.mem HE.out)); have HLw := Lib.hid (HLm.out.ext hx10); have HRw := Lib.hid (RowI.ext HRm.out hx10); have y1 := hx10.at_ y0; have HR10 := Lib.hid hr10; clear hr10 hx10 y0 HLm HRm HWT)
              -- {Z
              have HKY := Lib.hid (key_at HLw.out.pn HE.out (by omega))
              refine wp_region_lit ?_
              repeat go_step
              refine (HKY.out).mono ?_
              rintro ek w11 ⟨rfl, hx11⟩
              have HL11 := Lib.hid (HLw.out.ext hx11)
              have HI11 := Lib.hid (RowI.ext HRw.out hx11)
              have HW11 := Lib.hid (RowI.ext HR10.out hx11)
              have y2 := hx11.at_ y1
              clear hx11 HLw HRw HR10 y1 HKY
              rename_i hK
              refine hK _ _ ?_
              clear hK
              iterate 12 go_step
              rw [z36]
              have HED := Lib.hid (HL11.out.pn.fine e.f (HL11.out.pn.mem HE.out))
              have HKF : Hid (kfOf p1.fs e.f.key = some e.f.id) := Lib.hid ((kf_iff HL11.out.pn.good.keys).2 ⟨e.f, HL11.out.pn.mem HE.out, rfl, rfl⟩)
              have HWF : Hid (∀ x ∈ e.f.who, wfI x ∧ wfOf p1.fs x = some e.f.id) := Lib.hid fun x hx => ⟨(HL11.out.pn.len e.f (HL11.out.pn.mem HE.out)).2 x hx, (wf_iff HL11.out.pn.good.one).2 ⟨e.f, HL11.out.pn.mem HE.out, rfl, hx⟩⟩
              have hwl : e.f.who.length ≤ 603 := by have := (HL11.out.pn.len e.f (HL11.out.pn.mem HE.out)).1; omega
              have qw : ((e.f.who.length : Int) == 0) = false := beq_eq_false_iff_ne.2 fun e1 => HL11.out.pn.good.who _ (HL11.out.pn.mem HE.out) (List.eq_nil_of_length_eq_zero (by omega))
              have qi : (e.f.id != e.f.id) = false := bne_self_eq_false _
              obtain ⟨bx, hbx⟩ : ∃ b, w11.heap.size = b := ⟨_, rfl⟩
              have hb0 := boxK w11 zK
              have hx0 := Reg.Ext.alloc w11 (Obj.cells zK.cells.toArray 33)
              rw [hbx] at hb0 ⊢
              generalize w11.alloc (Obj.cells zK.cells.toArray 33) = w12 at *
              refine wpList_store_mid rfl 33 _ _ rfl bx 0 (e.f.key.cells).toArray rfl ?_ (hb0.there _ (by rw [List.size_toArray, e.f.key.len HED.out.dig]; exact Nat.le_refl _)) (by rw [List.size_toArray, e.f.key.len HED.out.dig]; exact sizeK) (all_oneCell_toArray (Ky.one _)) ?_
              · rfl
              simp only [List.toList_toArray]
              simp only [Act.put, Act.eval, List.setIfInBounds_toArray, List.set_cons_zero, List.set_cons_succ, Nat.reduceAdd, Array.getD_eq_getD_getElem?, List.getElem?_toArray, List.getElem?_cons_succ, List.getElem?_cons_zero, Option.getD_some]
              have hxb := hx0.trans_but (But.setCells bx e.f.key.cells 0 w12) (by omega)
              have HL13 := Lib.hid (HL11.out.ext hxb)
              have HI13 := Lib.hid (RowI.ext HI11.out hxb)
              have HW13 := Lib.hid (RowI.ext HW11.out hxb)
              have HBX := Lib.hid (hb0.setAll e.f.key.cells (by rw [e.f.key.len HED.out.dig]; rfl))
              have y3 := hxb.at_ y2
              clear hb0 hx0 hxb hbx y2 HL11 HI11 HW11
              generalize w12.setCells bx 0 e.f.key.cells = w13 at *
              have HFI : Hid (Calls Try.prog 15 #[.pointer (some ⟨h.d, 0, none⟩), .agg e.f.key.cells.toArray] w13 fun e1 w' => e1 = .returned (.tuple #[.int .i64 e.f.id, .bool true]) ∧ Reg.Ext w13 w') := Lib.hid (by
                have h1 := find_any HL13.out.pn.pt e.f.key HED.out
                rw [HKF.out] at h1
                exact h1)
              go_upto_region 31 with (fail)
              refine wp_region_lit ?_
              iterate 3 go_step
              refine wpList_ldm rfl 33 (.tmp 17) rfl bx 0 rfl e.f.key.cells _ (Lib.hid (blk_rng HBX.out)) undK (by rw [e.f.key.len HED.out.dig]; exact sizeK) ?_
              simp only [Act.put, Act.eval, List.setIfInBounds_toArray, List.set_cons_zero, List.set_cons_succ, Nat.reduceAdd, Array.getD_eq_getD_getElem?, List.getElem?_toArray, List.getElem?_cons_succ, List.getElem?_cons_zero, Option.getD_some]
              repeat go_step
              refine (HFI.out).mono ?_
              rintro ef w14 ⟨rfl, hx14⟩
              have HL14 := Lib.hid (HL13.out.ext hx14)
              have HI14 := Lib.hid (RowI.ext HI13.out hx14)
              have HW14 := Lib.hid (RowI.ext HW13.out hx14)
              have y4 := hx14.at_ y3
              clear hx14 HL13 HI13 HW13 HBX y3 HFI HKF
              rename_i hK
              refine hK _ _ ?_
              clear hK
              go_wp2_with fail
              go_loopw [21, 22, 23] (fun b _ _ wq => ∃ nb : Nat, b = .int .i64 (nb : Int) ∧ nb ≤ e.f.who.length ∧ wq = w14) (fun b _ _ _ => e.f.who.length - (intOf b).toNat)
              case atStart => exact ⟨0, rfl, Nat.zero_le _, rfl⟩
              case round =>
                obtain ⟨nb, rfl, hnb, rfl⟩ := hrel
                by_cases hnl : nb < e.f.who.length
                · have y5 := World.ownsRow.cells (g := g3) HW14.out rfl nb (.int .i64 e.f.who[nb]) (by rw [List.getElem?_map, List.getElem?_eq_getElem hnl]; rfl)
                  rw [Addr.add_mid, Nat.zero_add] at y5
                  have HWH : Hid (Calls Try.prog 14 #[.pointer (some ⟨h.d, 0, none⟩), .int .i64 e.f.who[nb]] wr fun e1 w' => e1 = .returned (.tuple #[.int .i64 e.f.id, .bool true]) ∧ w' = wr) := Lib.hid (by
                    have h0 := HWF.out _ (List.getElem_mem hnl)
                    have h1 := HL14.out.where_ e.f.who[nb] h0.1
                    rw [h0.2] at h1
                    exact h1)
                  generalize e.f.who[nb] = z at *
                  go_wp2_with (go_at_call 14; refine (HWH.out).mono ?_; rintro e1 wz ⟨rfl, rfl⟩)
                  go_roundw
                  case rel => exact ⟨nb + 1, by go_num, by omega, trivial⟩
                  case measure => simp [intOf]; omega
                · have hne : nb = e.f.who.length := by omega
                  subst hne
                  go_wp2_with fail
                  go_roundw
                  case rel => exact ⟨m + 1, by go_num, by omega, HL14, HI14⟩
                  case measure => simp [intOf]; omega
              -- Z}
            · have hme : m = N := by omega
              subst hme
              go_wp2_with fail
              go_roundw
              case rel => exact ⟨j + 1, p1, by go_num, by omega, by omega, rfl, hm1, Lib.hid ⟨es1, HLm.out⟩⟩
              case measure => simp [intOf]; omega
      · have hje : j = 200 := by omega
        subst hje
        obtain ⟨es, hl⟩ := HS.out
        have HX := Lib.hid hl.base.1
        clear hl HS
        go_wp2_with fail
        go_ret
        exact ⟨rfl, HX.out⟩
    · have hje : j = us.length := by omega
      subst hje
      obtain ⟨es, hl⟩ := HS.out
      have HX := Lib.hid hl.base.1
      clear hl HS
      go_wp2_with fail
      go_ret
      exact ⟨rfl, HX.out⟩
end Py
end Go.Proofs.Ytjkhfnfimicffaa

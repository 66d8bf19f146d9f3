/- Each tag is known once: the law's walk. -/
import Derived.Test.YtcfdlfedmbmidaaDoorTkNil
import Derived.Test.YtcfdlfedmbmidaaDoorWords
import Derived.Deep.CutBlock
import Derived.Deep.DeepCutAuto
import Derived.BigQuiet
set_option linter.unusedSimpArgs false
set_option linter.unusedVariables false
set_option linter.unusedSectionVars false
namespace Go.Proofs.YtcfdlfedmbmidaaDoor
open Go Go.RowKit
namespace Tk


/-- two rows' neighbours, as > is reckoned -/
theorem near2 {l : List T} (h : Nmd.Up nm l) {k : Nat} (hk : k + 1 < l.length) :
    (Op.bytesLess l[k].repo l[k + 1].repo = true ∧ (l[k].repo == l[k + 1].repo) = false) ∨ (l[k].repo = l[k + 1].repo ∧ Op.bytesLess l[k].repo l[k].repo = false ∧ Op.bytesLess l[k].tag l[k + 1].tag = true) := by
  rcases up_lt h hk with h1 | ⟨h1, h2⟩
  · refine .inl ⟨(bytesLess_eq _ _).trans (decide_eq_true h1), beq_eq_false_iff_ne.2 fun e => ?_⟩
    rw [e] at h1
    exact List.lt_irrefl _ h1
  · exact .inr ⟨h1, (bytesLess_eq _ _).trans (decide_eq_false (List.lt_irrefl _)), (bytesLess_eq _ _).trans (decide_eq_true h2)⟩
set_option maxRecDepth 100000 in
set_option maxHeartbeats 8000000 in
theorem once_law (most : Int) (q : Option Addr) (c : Nat) (us : List TA) (W : World) (hm : us.length ≤ maxLen) (hA : TActs W q us) :
    Calls Tryd.prog 6 #[.int .i64 most, .slice q us.length c] W fun e w' => e = .returned (.bool true) ∧ Reg.Ext W w' := by
  have HA := Lib.hid hA
  clear hA
  unfold maxLen at hm
  go_enter Tryd.func6, Tryd.ntmps6
  go_upto_region 4 with (go_at_call 7; refine (awake_any _).mono ?_; rintro e w1 ⟨rfl, hx1⟩)
  obtain ⟨kk, hkk, e1⟩ := umod most 63 (by decide)
  have e1' : wrap64 ((IntKind.u64.wrap most).tmod 64) = (kk : Int) := e1
  have e2 : wrap64 (1 + (kk : Int)) = 1 + kk := by unfold wrap64; omega
  rw [e1', e2]
  obtain ⟨n0, hn0⟩ : ∃ n : Int, 1 + (kk : Int) = n := ⟨_, rfl⟩
  rw [hn0]
  have hn1 : 1 ≤ n0 := by omega
  have hn2 : n0 ≤ 64 := by omega
  have HN := Lib.hid (new_law hx1 n0 hn1 hn2)
  clear e1 e1' e2 hn0 hkk hx1
  go_wp2_with (go_at_call 14; refine (HN.out).mono ?_; rintro e w2 ⟨b, rfl, hl2, -⟩; have HL2 := Lib.hid hl2; clear hl2 HN)
  have HS0 : Hid (∃ v, Lw 62 W w2 b v ⟨[], n0⟩) := Lib.hid ⟨_, HL2.out⟩
  clear HL2
  go_loopw [8, 9, 10, 11, 12, 13, 14, 15, 16, 17, 18, 19] (fun i _ _ _ _ _ _ _ _ _ _ _ wr => ∃ (j : Nat) (p : P), i = .int .i64 (j : Int) ∧ j ≤ us.length ∧ j ≤ 150 ∧ p.most = n0 ∧ Hid (∃ v, Lw 62 W wr b v p)) (fun i _ _ _ _ _ _ _ _ _ _ _ _ => us.length - (intOf i).toNat)
  case atStart => exact ⟨0, ⟨[], n0⟩, rfl, Nat.zero_le _, Nat.zero_le _, rfl, HS0⟩
  clear HS0
  case round =>
    obtain ⟨j, p, rfl, hj, hj2, hmost, HS⟩ := hrel
    by_cases hjs : j < us.length
    · by_cases hj7 : j < 150
      · obtain ⟨ga, oa, rfl, hlt, hcl, hfx⟩ := HA.out j hjs
        have HFX := Lib.hid hfx.dig
        have HCL := Lib.hid hcl
        clear hcl hfx hlt
        generalize us[j] = u at HFX HCL
        obtain ⟨ak, x⟩ := u
        obtain ⟨v, hl⟩ := HS.out
        have HL := Lib.hid hl
        clear hl HS
        have HXC : Hid (wr.rangeAt ga (oa + j * 39 + 1) x.cells) := Lib.hid (rng_ext (TA.tail HCL.out) HL.out.base)
        dsimp only at HFX
        go_upto_region 10 with (fail)
        refine wp_region_lit ?_
        iterate 12 go_step
        refine wpList_ldm rfl 25 (.tmp 57) rfl ga (oa + j * 39 + 1) rfl x.cells _ HXC undT (by rw [x.len HFX.out]; exact sizeT) ?_
        simp only [Act.put, Act.eval, List.setIfInBounds_toArray, List.set_cons_zero, List.set_cons_succ, Nat.reduceAdd, Array.getD_eq_getD_getElem?, List.getElem?_toArray, List.getElem?_cons_succ, List.getElem?_cons_zero, Option.getD_some]
        iterate 3 go_step
        rw [z38]
        obtain ⟨g9, hg9⟩ : ∃ g, (wr).heap.size = g := ⟨_, rfl⟩
        have hb0 := boxT wr zT
        have hx0 := Reg.Ext.alloc wr (Obj.cells zT.cells.toArray 25)
        rw [hg9] at hb0 ⊢
        generalize (wr).alloc (Obj.cells zT.cells.toArray 25) = wn at *
        refine wpList_store_mid rfl 25 _ _ rfl g9 0 (x).cells.toArray rfl ?_ (hb0.there _ (by have e1 := (x).len HFX.out; have e2 := zT.len rfl; rw [List.size_toArray]; omega)) (by rw [List.size_toArray, (x).len HFX.out]; exact sizeT) (all_oneCell_toArray (T.one _)) ?_
        · rfl
        simp only [List.toList_toArray]
        simp only [Act.put, Act.eval, List.setIfInBounds_toArray, List.set_cons_zero, List.set_cons_succ, Nat.reduceAdd, Array.getD_eq_getD_getElem?, List.getElem?_toArray, List.getElem?_cons_succ, List.getElem?_cons_zero, Option.getD_some]
        have hb1 := hb0.setAll (x).cells (by have e1 := (x).len HFX.out; have e2 := zT.len rfl; omega)
        have hx1 := hx0.trans_but (But.setCells g9 (x).cells 0 wn) (by omega)
        clear hb0 hx0
        generalize wn.setCells g9 0 (x).cells = w5 at *
        have HL5 := Lib.hid (HL.out.ext hx1)
        have HB5 : Hid (Bo w5 b v g9 _ x.cells) := Lib.hid ⟨hb1, fun o => by have := HL.out.tb.lt o; omega⟩
        clear hb1 hx1 hg9 HL HXC
        go_upto_region 11 with (fail)
        refine wp_region_lit ?_
        refine wpList_ldm rfl 25 (.tmp 9) rfl g9 0 rfl (x).cells _ (Lib.hid (blk_rng HB5.out.1)) undT (by rw [(x).len HFX.out]; exact sizeT) ?_
        simp only [Act.put, Act.eval, List.setIfInBounds_toArray, List.set_cons_zero, List.set_cons_succ, Nat.reduceAdd, Array.getD_eq_getD_getElem?, List.getElem?_toArray, List.getElem?_cons_succ, List.getElem?_cons_zero, Option.getD_some]
        repeat go_step
        refine (great_any x HFX.out _).mono ?_
        rintro e w6 ⟨⟨q3, rfl⟩, hx6⟩
        have HL6 := Lib.hid (HL5.out.ext hx6)
        have HB6 := Lib.hid (HB5.out.ext hx6)
        clear hx6 HL5 HB5
        rename_i hK
        refine hK _ _ ?_
        clear hK
        cases q3 with
        | true =>
          go_wp2_with fail
          go_ret
          exact ⟨rfl, HL6.out.base⟩
        | false =>
          have HLI := Lib.hid (HL6.out.list (by omega))
          go_upto_region 14 with (go_at_call 23; refine (HLI.out).mono ?_; rintro e w7 ⟨v10, rfl, hr7, hx7⟩; obtain ⟨A10, c10, rfl⟩ := hr7.slice; have HL7 := Lib.hid (HL6.out.ext hx7); have HB7 := Lib.hid (HB6.out.ext hx7); clear hr7 hx7 HL6 HB6 HLI)
          refine wp_region_lit ?_
          iterate 3 go_step
          refine wpList_ldm rfl 25 (.tmp 9) rfl g9 0 rfl (x).cells _ (Lib.hid (blk_rng HB7.out.1)) undT (by rw [(x).len HFX.out]; exact sizeT) ?_
          simp only [Act.put, Act.eval, List.setIfInBounds_toArray, List.set_cons_zero, List.set_cons_succ, Nat.reduceAdd, Array.getD_eq_getD_getElem?, List.getElem?_toArray, List.getElem?_cons_succ, List.getElem?_cons_zero, Option.getD_some]
          repeat go_step
          cases hgood : goodT x with
          | false =>
            -- {B
            as_aux_lemma =>
              refine (put_bad HL7.out.tb x HFX.out hgood).mono ?_
              rintro e w8 ⟨rfl, hx8⟩
              have HL8 := Lib.hid (HL7.out.ext hx8)
              clear hx8 HL7 HB7 hgood
              rename_i hK
              refine hK _ _ ?_
              clear hK
              iterate 15 go_step
              rw [z38]
              obtain ⟨g11, hg11⟩ : ∃ g, (w8).heap.size = g := ⟨_, rfl⟩
              have hb0 := boxT w8 zT
              have hx0 := Reg.Ext.alloc w8 (Obj.cells zT.cells.toArray 25)
              rw [hg11] at hb0 ⊢
              generalize (w8).alloc (Obj.cells zT.cells.toArray 25) = wn at *
              refine wpList_store_mid rfl 25 _ _ rfl g11 0 (zT).cells.toArray rfl ?_ (hb0.there _ (by have e1 := (zT).len rfl; have e2 := zT.len rfl; rw [List.size_toArray]; omega)) (by rw [List.size_toArray, (zT).len rfl]; exact sizeT) (all_oneCell_toArray (T.one _)) ?_
              · rfl
              simp only [List.toList_toArray]
              simp only [Act.put, Act.eval, List.setIfInBounds_toArray, List.set_cons_zero, List.set_cons_succ, Nat.reduceAdd, Array.getD_eq_getD_getElem?, List.getElem?_toArray, List.getElem?_cons_succ, List.getElem?_cons_zero, Option.getD_some]
              have hb1 := hb0.setAll (zT).cells (by have e1 := (zT).len rfl; have e2 := zT.len rfl; omega)
              have hx1 := hx0.trans_but (But.setCells g11 (zT).cells 0 wn) (by omega)
              clear hb0 hx0
              generalize wn.setCells g11 0 (zT).cells = w9 at *
              have HL9 := Lib.hid (HL8.out.ext hx1)
              have HLI := Lib.hid (HL9.out.list (by omega))
              have qB : ((p.l.length : Int) != (p.l.length : Int)) = false := bne_self_eq_false _
              clear hb1 hx1 hg11 HL8
              go_upto_region 16 with (go_at_call 23; refine (HLI.out).mono ?_; rintro e w10 ⟨v14, rfl, hr10, hx10⟩; obtain ⟨A14, c14, rfl⟩ := hr10.slice; have HL10 := Lib.hid (HL9.out.ext hx10); clear hr10 hx10 HL9 HLI)
              go_wp2_with fail
              go_roundw
              case rel => exact ⟨j + 1, p, by go_num, by omega, by omega, hmost, Lib.hid ⟨v, HL10.out⟩⟩
              case measure => simp [intOf]; omega
              -- B}
          | true =>
            -- {G
            have HGOT := Lib.hid (put_got HL7.out.good x)
            have HGONE := Lib.hid (fun g (hg : (p.put x).1 = some g) => put_gone HL7.out.good hg)
            have HGD := Lib.hid (put_fit (x := x) HL7.out.tb.fit)
            have hM : (p.put x).2.most = n0 := (put_most p x).trans hmost
            have HP := Lib.hid (HL7.out.put (by omega) x HFX.out hgood)
            generalize p.put x = pr at *
            obtain ⟨o, p2⟩ := pr
            dsimp only at HP HGOT HGONE HGD hM
            have HG2 : Hid (o.isSome = true → (∀ y ∈ p2.l, y ≠ x → (o.getD zT).at_ ≤ y.at_) ∧ p2.get (nm (o.getD zT)) = none ∧ (p.l.length : Int) = n0 ∧ (p2.l.length : Int) = n0) := Lib.hid fun ho => by
              cases o with
              | none => cases ho
              | some g =>
                have := HGONE.out g rfl
                exact ⟨this.1, this.2.1, this.2.2.1.trans hmost, this.2.2.2.trans hmost⟩
            obtain ⟨qo, hqo⟩ : ∃ q, o.isSome = q := ⟨_, rfl⟩
            obtain ⟨gz, hgz⟩ : ∃ g, o.getD zT = g := ⟨_, rfl⟩
            rw [hqo, hgz] at HG2 HP
            rw [hgz] at HGD
            clear hqo hgz HGONE hgood
            refine (HP.out).mono ?_
            rintro e w8 ⟨rfl, v8, hl8, ht8⟩
            have HL8 := Lib.hid hl8
            have HB8 := Lib.hid (HB7.out.turn ht8)
            clear hl8 ht8 HL7 HB7 HP
            rename_i hK
            refine hK _ _ ?_
            clear hK
            iterate 15 go_step
            rw [z38]
            obtain ⟨g11, hg11⟩ : ∃ g, (w8).heap.size = g := ⟨_, rfl⟩
            have hb0 := boxT w8 zT
            have hx0 := Reg.Ext.alloc w8 (Obj.cells zT.cells.toArray 25)
            rw [hg11] at hb0 ⊢
            generalize (w8).alloc (Obj.cells zT.cells.toArray 25) = wn at *
            refine wpList_store_mid rfl 25 _ _ rfl g11 0 (gz).cells.toArray rfl ?_ (hb0.there _ (by have e1 := (gz).len HGD.out; have e2 := zT.len rfl; rw [List.size_toArray]; omega)) (by rw [List.size_toArray, (gz).len HGD.out]; exact sizeT) (all_oneCell_toArray (T.one _)) ?_
            · rfl
            simp only [List.toList_toArray]
            simp only [Act.put, Act.eval, List.setIfInBounds_toArray, List.set_cons_zero, List.set_cons_succ, Nat.reduceAdd, Array.getD_eq_getD_getElem?, List.getElem?_toArray, List.getElem?_cons_succ, List.getElem?_cons_zero, Option.getD_some]
            have hb1 := hb0.setAll (gz).cells (by have e1 := (gz).len HGD.out; have e2 := zT.len rfl; omega)
            have hx1 := hx0.trans_but (But.setCells g11 (gz).cells 0 wn) (by omega)
            clear hb0 hx0
            generalize wn.setCells g11 0 (gz).cells = w9 at *
            have HL9 := Lib.hid (HL8.out.ext hx1)
            have HB9 := Lib.hid (HB8.out.ext hx1)
            have HG9 := Lib.hid hb1
            have HLI := Lib.hid (HL9.out.list (by omega))
            clear hb1 hx1 hg11 HL8 HB8
            go_upto_region 16 with (go_at_call 23; refine (HLI.out).mono ?_; rintro e w10 ⟨v14, rfl, hr10, hx10⟩; have HV10 : Hid (Aft W w10 b v8 p2 g9 x g11 gz v14) := Lib.hid ⟨HL9.out.ext hx10, HB9.out.ext hx10, HG9.out.ext hx10, hr10.weak⟩; obtain ⟨A14, c14, rfl⟩ := hr10.slice; clear hr10 hx10 HL9 HB9 HG9 HLI)
            go_upto_region 19 with (fail)
            have c90 : w10.cell? ⟨g9, 0, none⟩ = some (.string ⟨x.repo.toArray⟩) := HV10.out.bx.1.cell 0
            have c91 : w10.cell? ⟨g9, 1, none⟩ = some (.string ⟨x.tag.toArray⟩) := HV10.out.bx.1.cell 1
            have HGE := Lib.hid (HV10.out.lw.get (by omega) x.repo x.tag)
            rw [show p2.get (pair x.repo x.tag) = some x from HGOT.out] at HGE
            dsimp only [Option.getD, Option.isSome] at HGE
            refine wp_region_lit ?_
            repeat go_step
            refine (HGE.out).mono ?_
            rintro e w11 ⟨rfl, hx11⟩
            have HV11 := Lib.hid (HV10.out.ext hx11)
            clear hx11 HV10 c90 c91 HGE
            rename_i hK
            refine hK _ _ ?_
            clear hK
            iterate 12 go_step
            rw [z38]
            obtain ⟨g15, hg15⟩ : ∃ g, (w11).heap.size = g := ⟨_, rfl⟩
            have hb0 := boxT w11 zT
            have hx0 := Reg.Ext.alloc w11 (Obj.cells zT.cells.toArray 25)
            rw [hg15] at hb0 ⊢
            generalize (w11).alloc (Obj.cells zT.cells.toArray 25) = wn at *
            refine wpList_store_mid rfl 25 _ _ rfl g15 0 (x).cells.toArray rfl ?_ (hb0.there _ (by have e1 := (x).len HFX.out; have e2 := zT.len rfl; rw [List.size_toArray]; omega)) (by rw [List.size_toArray, (x).len HFX.out]; exact sizeT) (all_oneCell_toArray (T.one _)) ?_
            · rfl
            simp only [List.toList_toArray]
            simp only [Act.put, Act.eval, List.setIfInBounds_toArray, List.set_cons_zero, List.set_cons_succ, Nat.reduceAdd, Array.getD_eq_getD_getElem?, List.getElem?_toArray, List.getElem?_cons_succ, List.getElem?_cons_zero, Option.getD_some]
            have hb1 := hb0.setAll (x).cells (by have e1 := (x).len HFX.out; have e2 := zT.len rfl; omega)
            have hx1 := hx0.trans_but (But.setCells g15 (x).cells 0 wn) (by omega)
            clear hb0 hx0
            generalize wn.setCells g15 0 (x).cells = w12 at *
            have HV12 := Lib.hid (HV11.out.ext hx1)
            have HY12 := Lib.hid hb1
            clear hb1 hx1 hg15 HV11
            have qx : decide (x = x) = true := decide_eq_true rfl
            have qA : decide (n0 < (p2.l.length : Int)) = false := decide_eq_false (by have := HV12.out.lw.good.most; omega)
            have qB : ((p2.l.length : Int) != (p2.l.length : Int)) = false := bne_self_eq_false _
            have HLE := Lib.hid (len_any HV12.out.lw.tb)
            go_upto_region 20 with (fail)
            refine wp_region_lit ?_
            iterate 9 go_step
            refine wpList_ldm rfl 25 (.tmp 15) rfl g15 0 rfl (x).cells _ (Lib.hid (blk_rng HY12.out)) undT (by rw [(x).len HFX.out]; exact sizeT) ?_
            simp only [Act.put, Act.eval, List.setIfInBounds_toArray, List.set_cons_zero, List.set_cons_succ, Nat.reduceAdd, Array.getD_eq_getD_getElem?, List.getElem?_toArray, List.getElem?_cons_succ, List.getElem?_cons_zero, Option.getD_some]
            refine wpList_ldm rfl 25 (.tmp 9) rfl g9 0 rfl (x).cells _ (Lib.hid (blk_rng HV12.out.bx.1)) undT (by rw [(x).len HFX.out]; exact sizeT) ?_
            simp only [Act.put, Act.eval, List.setIfInBounds_toArray, List.set_cons_zero, List.set_cons_succ, Nat.reduceAdd, Array.getD_eq_getD_getElem?, List.getElem?_toArray, List.getElem?_cons_succ, List.getElem?_cons_zero, Option.getD_some]
            refine wpList_any rfl (.bool (!decide (x = x))) w12 (exec_neqT x x HFX.out HFX.out (.tmp 94) (.tmp 95) rfl rfl rfl) ?_
            simp only [Act.put, Act.eval, List.setIfInBounds_toArray, List.set_cons_zero, List.set_cons_succ, Nat.reduceAdd, Array.getD_eq_getD_getElem?, List.getElem?_toArray, List.getElem?_cons_succ, List.getElem?_cons_zero, Option.getD_some]
            first | rw [qx] | skip
            repeat go_step
            refine (HLE.out).mono ?_
            rintro e wl ⟨rfl, rfl⟩
            rename_i hK
            refine hK _ _ ?_
            clear hK
            clear HLE HY12 qx
            go_upto_region 22 with (fail)
            clear qA qB
            have HV := HV12
            clear HV12
            go_wp2_with fail
            go_loopw [17] (fun i wr => ∃ m : Nat, i = .int .i64 (m : Int) ∧ m ≤ p2.l.length ∧ Hid (Reg.Ext wl wr)) (fun i _ => p2.l.length - (intOf i).toNat)
            case atStart => exact ⟨0, rfl, Nat.zero_le _, Lib.hid (Reg.Ext.refl _)⟩
            case round =>
              obtain ⟨m, rfl, hm3, HX⟩ := hrel
              by_cases hml : m < p2.l.length
              · rcases HV.out.li.form with ⟨_, e1⟩ | ⟨g14, cap1, e1, _, _, _, _⟩
                · rw [e1] at hml; exact absurd hml (Nat.not_lt_zero _)
                injection e1 with e1 hh e2
                clear hh
                subst e1 e2
                have HYM := Lib.hid (List.getElem_mem hml)
                have HYD := Lib.hid (HV.out.lw.tb.fit _ HYM.out)
                have HRG := Lib.hid (HV.out.li.range HV.out.lw.tb.fit m hml)
                have f0 : wr.cell? ⟨g14, m * 38, none⟩ = some (.string ⟨p2.l[m].repo.toArray⟩) := HX.out.at_ (HRG.out 0 _ rfl)
                have f1 : wr.cell? ⟨g14, m * 38 + 1, none⟩ = some (.string ⟨p2.l[m].tag.toArray⟩) := HX.out.at_ (HRG.out 1 _ rfl)
                have hl64 : p2.l.length ≤ 64 := by have := HV.out.lw.good.most; omega
                by_cases hm0 : m = 0
                · as_aux_lemma =>
                    have qm : decide (0 < (m : Int)) = false := decide_eq_false (by omega)
                    have qn : decide (0 < m) = false := decide_eq_false (by omega)
                    clear hm0 f0 f1
                    generalize p2.l[m] = y at *
                    go_wp2_with fail
                    go_quiet (fail)
                    have HX := Lib.hid (HX.out.trans (Reg.Ext.drewN wr nq))
                    generalize wr.drewN nq = wv at *
                    cases qo with
                    | false =>
                      go_upto_region 27 with (fail)
                      go_quiet (fail)
                      have HX := Lib.hid (HX.out.trans (Reg.Ext.drewN wv nq))
                      generalize (wv).drewN nq = wu at *
                      go_wp2_with fail
                      go_roundw
                      case rel => exact ⟨m + 1, by go_num, by omega, HX⟩
                      case measure => simp [intOf]; omega
                    | true =>
                      have hle := (HG2.out rfl).1 y HYM.out
                      by_cases hyx : y = x
                      · have qe : decide (y = x) = true := decide_eq_true hyx
                        clear hyx hle
                        go_upto_region 27 with (fail)
                        have HV3 := Lib.hid (HV.out.ext (HX.out.trans (Reg.Ext.drew wv)))
                        have HX3 := Lib.hid (HX.out.trans (Reg.Ext.drew wv))
                        refine Ordl.begins (S := fun w' => Reg.Ext (wv).drew w') (z := 99) (by kernel_rfl) ?_
                        refine Ordl.Bx.out (?_ : Ordl.Bx (Ordl.Any _ _ _ _ _ _ _ _ _ _))
                        have X0 : Reg.Ext (wv).drew (wv).drew := Reg.Ext.refl _
                        generalize (wv).drew = wu at *
                        have HRu := Lib.hid (rng_ext HRG.out HX3.out)
                        refine Ordl.take (i := 0) (v := .bool true) rfl (by kernel_rfl) (by kernel_rfl) (by kernel_rfl) (by kernel_rfl) (fun _ _ _ h => h) (.inl ⟨by kernel_rfl, fun w _ => by as_aux_lemma => kernel_rfl⟩) X0 ?_
                        simp only [List.getElem_toArray, List.getElem_cons_succ, List.getElem_cons_zero, Act.put, Act.eval, List.setIfInBounds_toArray, List.set_cons_zero, List.set_cons_succ, Nat.reduceAdd, Array.getD_eq_getD_getElem?, List.getElem?_toArray, List.getElem?_cons_succ, List.getElem?_cons_zero, Option.getD_some]
                        refine Ordl.take (i := 1) (v := .bool true) rfl (by kernel_rfl) (by kernel_rfl) (by kernel_rfl) (by kernel_rfl) (fun _ _ _ h => h) (.inl ⟨by kernel_rfl, fun w _ => by as_aux_lemma => kernel_rfl⟩) X0 ?_
                        simp only [List.getElem_toArray, List.getElem_cons_succ, List.getElem_cons_zero, Act.put, Act.eval, List.setIfInBounds_toArray, List.set_cons_zero, List.set_cons_succ, Nat.reduceAdd, Array.getD_eq_getD_getElem?, List.getElem?_toArray, List.getElem?_cons_succ, List.getElem?_cons_zero, Option.getD_some]
                        refine Ordl.take (i := 2) (v := .slice (some ⟨g14, 0, none⟩) p2.l.length c14) rfl (by kernel_rfl) (by kernel_rfl) (by kernel_rfl) (by kernel_rfl) (fun _ _ _ h => h) (.inl ⟨by kernel_rfl, fun w _ => by as_aux_lemma => kernel_rfl⟩) X0 ?_
                        simp only [List.getElem_toArray, List.getElem_cons_succ, List.getElem_cons_zero, Act.put, Act.eval, List.setIfInBounds_toArray, List.set_cons_zero, List.set_cons_succ, Nat.reduceAdd, Array.getD_eq_getD_getElem?, List.getElem?_toArray, List.getElem?_cons_succ, List.getElem?_cons_zero, Option.getD_some]
                        refine Ordl.take (i := 3) (v := .int .i64 (m : Int)) rfl (by kernel_rfl) (by kernel_rfl) (by kernel_rfl) (by kernel_rfl) (fun _ _ _ h => h) (.inl ⟨by kernel_rfl, fun w _ => by as_aux_lemma => kernel_rfl⟩) X0 ?_
                        simp only [List.getElem_toArray, List.getElem_cons_succ, List.getElem_cons_zero, Act.put, Act.eval, List.setIfInBounds_toArray, List.set_cons_zero, List.set_cons_succ, Nat.reduceAdd, Array.getD_eq_getD_getElem?, List.getElem?_toArray, List.getElem?_cons_succ, List.getElem?_cons_zero, Option.getD_some]
                        refine Ordl.take (i := 4) (v := .pointer (some ⟨g14, m * 38, none⟩)) rfl (by kernel_rfl) (by kernel_rfl) (by kernel_rfl) (by kernel_rfl) (fun _ _ _ h => h) (.inl ⟨by kernel_rfl, fun w hS => exec_idxT (cap := c14) (.tmp 163) (.tmp 164) rfl (by kernel_rfl) (by kernel_rfl) hml w⟩) X0 ?_
                        simp only [List.getElem_toArray, List.getElem_cons_succ, List.getElem_cons_zero, Act.put, Act.eval, List.setIfInBounds_toArray, List.set_cons_zero, List.set_cons_succ, Nat.reduceAdd, Array.getD_eq_getD_getElem?, List.getElem?_toArray, List.getElem?_cons_succ, List.getElem?_cons_zero, Option.getD_some]
                        refine Ordl.take (i := 5) (v := .agg (y).cells.toArray) rfl (by kernel_rfl) (by kernel_rfl) (by kernel_rfl) (by kernel_rfl) (fun _ _ _ h => h) (yieldsIf_load_mid (by kernel_rfl) 25 (.tmp 165) rfl g14 (m * 38) (by kernel_rfl) (y).cells _ (fun w h => rng_ext HRu.out h) undT rfl (by rw [(y).len HYD.out]; exact sizeT)) X0 ?_
                        simp only [List.getElem_toArray, List.getElem_cons_succ, List.getElem_cons_zero, Act.put, Act.eval, List.setIfInBounds_toArray, List.set_cons_zero, List.set_cons_succ, Nat.reduceAdd, Array.getD_eq_getD_getElem?, List.getElem?_toArray, List.getElem?_cons_succ, List.getElem?_cons_zero, Option.getD_some]
                        refine Ordl.take (i := 6) (v := .agg (x).cells.toArray) rfl (by kernel_rfl) (by kernel_rfl) (by kernel_rfl) (by kernel_rfl) (fun _ _ _ h => h) (yieldsIf_load_mid (by kernel_rfl) 25 (.tmp 9) rfl g9 (0) (by kernel_rfl) (x).cells _ (fun w h => rng_ext (blk_rng HV3.out.bx.1) h) undT rfl (by rw [(x).len HFX.out]; exact sizeT)) X0 ?_
                        simp only [List.getElem_toArray, List.getElem_cons_succ, List.getElem_cons_zero, Act.put, Act.eval, List.setIfInBounds_toArray, List.set_cons_zero, List.set_cons_succ, Nat.reduceAdd, Array.getD_eq_getD_getElem?, List.getElem?_toArray, List.getElem?_cons_succ, List.getElem?_cons_zero, Option.getD_some]
                        refine Ordl.take (i := 7) (v := .bool (!decide (y = x))) rfl (by kernel_rfl) (by kernel_rfl) (by kernel_rfl) (by kernel_rfl) (fun _ _ _ h => h) (.inl ⟨by kernel_rfl, fun w hS => exec_neqT y x HYD.out HFX.out (.tmp 166) (.tmp 167) rfl (by kernel_rfl) (by kernel_rfl)⟩) X0 ?_
                        simp only [List.getElem_toArray, List.getElem_cons_succ, List.getElem_cons_zero, Act.put, Act.eval, List.setIfInBounds_toArray, List.set_cons_zero, List.set_cons_succ, Nat.reduceAdd, Array.getD_eq_getD_getElem?, List.getElem?_toArray, List.getElem?_cons_succ, List.getElem?_cons_zero, Option.getD_some]
                        rw [qe]
                        refine Ordl.take (i := 8) (v := .bool false) rfl (by kernel_rfl) (by kernel_rfl) (by kernel_rfl) (by kernel_rfl) (fun _ _ _ h => h) (.inl ⟨by kernel_rfl, fun w _ => by as_aux_lemma => kernel_rfl⟩) X0 ?_
                        simp only [List.getElem_toArray, List.getElem_cons_succ, List.getElem_cons_zero, Act.put, Act.eval, List.setIfInBounds_toArray, List.set_cons_zero, List.set_cons_succ, Nat.reduceAdd, Array.getD_eq_getD_getElem?, List.getElem?_toArray, List.getElem?_cons_succ, List.getElem?_cons_zero, Option.getD_some]
                        refine Ordl.take (i := 9) (v := .bool false) rfl (by kernel_rfl) (by kernel_rfl) (by kernel_rfl) (by kernel_rfl) (fun _ _ _ h => h) (.inl ⟨by kernel_rfl, fun w _ => by as_aux_lemma => kernel_rfl⟩) X0 ?_
                        simp only [List.getElem_toArray, List.getElem_cons_succ, List.getElem_cons_zero, Act.put, Act.eval, List.setIfInBounds_toArray, List.set_cons_zero, List.set_cons_succ, Nat.reduceAdd, Array.getD_eq_getD_getElem?, List.getElem?_toArray, List.getElem?_cons_succ, List.getElem?_cons_zero, Option.getD_some]
                        refine Ordl.take (i := 10) (v := undef) rfl (by kernel_rfl) (by kernel_rfl) (by kernel_rfl) (by kernel_rfl) (fun _ _ _ h => h) (.inr ⟨by kernel_rfl, rfl⟩) X0 ?_
                        simp only [List.getElem_toArray, List.getElem_cons_succ, List.getElem_cons_zero, Act.put, Act.eval, List.setIfInBounds_toArray, List.set_cons_zero, List.set_cons_succ, Nat.reduceAdd, Array.getD_eq_getD_getElem?, List.getElem?_toArray, List.getElem?_cons_succ, List.getElem?_cons_zero, Option.getD_some]
                        refine Ordl.take (i := 11) (v := undef) rfl (by kernel_rfl) (by kernel_rfl) (by kernel_rfl) (by kernel_rfl) (fun _ _ _ h => h) (.inr ⟨by kernel_rfl, rfl⟩) X0 ?_
                        simp only [List.getElem_toArray, List.getElem_cons_succ, List.getElem_cons_zero, Act.put, Act.eval, List.setIfInBounds_toArray, List.set_cons_zero, List.set_cons_succ, Nat.reduceAdd, Array.getD_eq_getD_getElem?, List.getElem?_toArray, List.getElem?_cons_succ, List.getElem?_cons_zero, Option.getD_some]
                        refine Ordl.take (i := 12) (v := undef) rfl (by kernel_rfl) (by kernel_rfl) (by kernel_rfl) (by kernel_rfl) (fun _ _ _ h => h) (.inr ⟨by kernel_rfl, rfl⟩) X0 ?_
                        simp only [List.getElem_toArray, List.getElem_cons_succ, List.getElem_cons_zero, Act.put, Act.eval, List.setIfInBounds_toArray, List.set_cons_zero, List.set_cons_succ, Nat.reduceAdd, Array.getD_eq_getD_getElem?, List.getElem?_toArray, List.getElem?_cons_succ, List.getElem?_cons_zero, Option.getD_some]
                        refine Ordl.take (i := 13) (v := undef) rfl (by kernel_rfl) (by kernel_rfl) (by kernel_rfl) (by kernel_rfl) (fun _ _ _ h => h) (.inr ⟨by kernel_rfl, rfl⟩) X0 ?_
                        simp only [List.getElem_toArray, List.getElem_cons_succ, List.getElem_cons_zero, Act.put, Act.eval, List.setIfInBounds_toArray, List.set_cons_zero, List.set_cons_succ, Nat.reduceAdd, Array.getD_eq_getD_getElem?, List.getElem?_toArray, List.getElem?_cons_succ, List.getElem?_cons_zero, Option.getD_some]
                        refine Ordl.take (i := 14) (v := undef) rfl (by kernel_rfl) (by kernel_rfl) (by kernel_rfl) (by kernel_rfl) (fun _ _ _ h => h) (.inr ⟨by kernel_rfl, rfl⟩) X0 ?_
                        simp only [List.getElem_toArray, List.getElem_cons_succ, List.getElem_cons_zero, Act.put, Act.eval, List.setIfInBounds_toArray, List.set_cons_zero, List.set_cons_succ, Nat.reduceAdd, Array.getD_eq_getD_getElem?, List.getElem?_toArray, List.getElem?_cons_succ, List.getElem?_cons_zero, Option.getD_some]
                        refine Ordl.take (i := 15) (v := undef) rfl (by kernel_rfl) (by kernel_rfl) (by kernel_rfl) (by kernel_rfl) (fun _ _ _ h => h) (.inr ⟨by kernel_rfl, rfl⟩) X0 ?_
                        simp only [List.getElem_toArray, List.getElem_cons_succ, List.getElem_cons_zero, Act.put, Act.eval, List.setIfInBounds_toArray, List.set_cons_zero, List.set_cons_succ, Nat.reduceAdd, Array.getD_eq_getD_getElem?, List.getElem?_toArray, List.getElem?_cons_succ, List.getElem?_cons_zero, Option.getD_some]
                        refine Ordl.take (i := 16) (v := undef) rfl (by kernel_rfl) (by kernel_rfl) (by kernel_rfl) (by kernel_rfl) (fun _ _ _ h => h) (.inr ⟨by kernel_rfl, rfl⟩) X0 ?_
                        simp only [List.getElem_toArray, List.getElem_cons_succ, List.getElem_cons_zero, Act.put, Act.eval, List.setIfInBounds_toArray, List.set_cons_zero, List.set_cons_succ, Nat.reduceAdd, Array.getD_eq_getD_getElem?, List.getElem?_toArray, List.getElem?_cons_succ, List.getElem?_cons_zero, Option.getD_some]
                        refine Ordl.take (i := 17) (v := undef) rfl (by kernel_rfl) (by kernel_rfl) (by kernel_rfl) (by kernel_rfl) (fun _ _ _ h => h) (.inr ⟨by kernel_rfl, rfl⟩) X0 ?_
                        simp only [List.getElem_toArray, List.getElem_cons_succ, List.getElem_cons_zero, Act.put, Act.eval, List.setIfInBounds_toArray, List.set_cons_zero, List.set_cons_succ, Nat.reduceAdd, Array.getD_eq_getD_getElem?, List.getElem?_toArray, List.getElem?_cons_succ, List.getElem?_cons_zero, Option.getD_some]
                        refine Ordl.take (i := 18) (v := .bool false) rfl (by kernel_rfl) (by kernel_rfl) (by kernel_rfl) (by kernel_rfl) (fun _ _ _ h => h) (.inl ⟨by kernel_rfl, fun w _ => by as_aux_lemma => kernel_rfl⟩) X0 ?_
                        simp only [List.getElem_toArray, List.getElem_cons_succ, List.getElem_cons_zero, Act.put, Act.eval, List.setIfInBounds_toArray, List.set_cons_zero, List.set_cons_succ, Nat.reduceAdd, Array.getD_eq_getD_getElem?, List.getElem?_toArray, List.getElem?_cons_succ, List.getElem?_cons_zero, Option.getD_some]
                        refine Ordl.done (by kernel_rfl) ?_ _
                        clear X0 qe
                        go_wp2_with fail
                        go_roundw
                        case rel => exact ⟨m + 1, by go_num, by omega, HX3⟩
                        case measure => simp [intOf]; omega
                      · have qe : decide (y = x) = false := decide_eq_false hyx
                        have ql : decide (y.at_ < gz.at_) = false := decide_eq_false (by have := hle hyx; omega)
                        clear hyx hle
                        go_upto_region 27 with (fail)
                        have HV3 := Lib.hid (HV.out.ext (HX.out.trans (Reg.Ext.drew wv)))
                        have HX3 := Lib.hid (HX.out.trans (Reg.Ext.drew wv))
                        refine Ordl.begins (S := fun w' => Reg.Ext (wv).drew w') (z := 99) (by kernel_rfl) ?_
                        refine Ordl.Bx.out (?_ : Ordl.Bx (Ordl.Any _ _ _ _ _ _ _ _ _ _))
                        have X0 : Reg.Ext (wv).drew (wv).drew := Reg.Ext.refl _
                        generalize (wv).drew = wu at *
                        have HRu := Lib.hid (rng_ext HRG.out HX3.out)
                        refine Ordl.take (i := 0) (v := .bool true) rfl (by kernel_rfl) (by kernel_rfl) (by kernel_rfl) (by kernel_rfl) (fun _ _ _ h => h) (.inl ⟨by kernel_rfl, fun w _ => by as_aux_lemma => kernel_rfl⟩) X0 ?_
                        simp only [List.getElem_toArray, List.getElem_cons_succ, List.getElem_cons_zero, Act.put, Act.eval, List.setIfInBounds_toArray, List.set_cons_zero, List.set_cons_succ, Nat.reduceAdd, Array.getD_eq_getD_getElem?, List.getElem?_toArray, List.getElem?_cons_succ, List.getElem?_cons_zero, Option.getD_some]
                        refine Ordl.take (i := 1) (v := .bool true) rfl (by kernel_rfl) (by kernel_rfl) (by kernel_rfl) (by kernel_rfl) (fun _ _ _ h => h) (.inl ⟨by kernel_rfl, fun w _ => by as_aux_lemma => kernel_rfl⟩) X0 ?_
                        simp only [List.getElem_toArray, List.getElem_cons_succ, List.getElem_cons_zero, Act.put, Act.eval, List.setIfInBounds_toArray, List.set_cons_zero, List.set_cons_succ, Nat.reduceAdd, Array.getD_eq_getD_getElem?, List.getElem?_toArray, List.getElem?_cons_succ, List.getElem?_cons_zero, Option.getD_some]
                        refine Ordl.take (i := 2) (v := .slice (some ⟨g14, 0, none⟩) p2.l.length c14) rfl (by kernel_rfl) (by kernel_rfl) (by kernel_rfl) (by kernel_rfl) (fun _ _ _ h => h) (.inl ⟨by kernel_rfl, fun w _ => by as_aux_lemma => kernel_rfl⟩) X0 ?_
                        simp only [List.getElem_toArray, List.getElem_cons_succ, List.getElem_cons_zero, Act.put, Act.eval, List.setIfInBounds_toArray, List.set_cons_zero, List.set_cons_succ, Nat.reduceAdd, Array.getD_eq_getD_getElem?, List.getElem?_toArray, List.getElem?_cons_succ, List.getElem?_cons_zero, Option.getD_some]
                        refine Ordl.take (i := 3) (v := .int .i64 (m : Int)) rfl (by kernel_rfl) (by kernel_rfl) (by kernel_rfl) (by kernel_rfl) (fun _ _ _ h => h) (.inl ⟨by kernel_rfl, fun w _ => by as_aux_lemma => kernel_rfl⟩) X0 ?_
                        simp only [List.getElem_toArray, List.getElem_cons_succ, List.getElem_cons_zero, Act.put, Act.eval, List.setIfInBounds_toArray, List.set_cons_zero, List.set_cons_succ, Nat.reduceAdd, Array.getD_eq_getD_getElem?, List.getElem?_toArray, List.getElem?_cons_succ, List.getElem?_cons_zero, Option.getD_some]
                        refine Ordl.take (i := 4) (v := .pointer (some ⟨g14, m * 38, none⟩)) rfl (by kernel_rfl) (by kernel_rfl) (by kernel_rfl) (by kernel_rfl) (fun _ _ _ h => h) (.inl ⟨by kernel_rfl, fun w hS => exec_idxT (cap := c14) (.tmp 163) (.tmp 164) rfl (by kernel_rfl) (by kernel_rfl) hml w⟩) X0 ?_
                        simp only [List.getElem_toArray, List.getElem_cons_succ, List.getElem_cons_zero, Act.put, Act.eval, List.setIfInBounds_toArray, List.set_cons_zero, List.set_cons_succ, Nat.reduceAdd, Array.getD_eq_getD_getElem?, List.getElem?_toArray, List.getElem?_cons_succ, List.getElem?_cons_zero, Option.getD_some]
                        refine Ordl.take (i := 5) (v := .agg (y).cells.toArray) rfl (by kernel_rfl) (by kernel_rfl) (by kernel_rfl) (by kernel_rfl) (fun _ _ _ h => h) (yieldsIf_load_mid (by kernel_rfl) 25 (.tmp 165) rfl g14 (m * 38) (by kernel_rfl) (y).cells _ (fun w h => rng_ext HRu.out h) undT rfl (by rw [(y).len HYD.out]; exact sizeT)) X0 ?_
                        simp only [List.getElem_toArray, List.getElem_cons_succ, List.getElem_cons_zero, Act.put, Act.eval, List.setIfInBounds_toArray, List.set_cons_zero, List.set_cons_succ, Nat.reduceAdd, Array.getD_eq_getD_getElem?, List.getElem?_toArray, List.getElem?_cons_succ, List.getElem?_cons_zero, Option.getD_some]
                        refine Ordl.take (i := 6) (v := .agg (x).cells.toArray) rfl (by kernel_rfl) (by kernel_rfl) (by kernel_rfl) (by kernel_rfl) (fun _ _ _ h => h) (yieldsIf_load_mid (by kernel_rfl) 25 (.tmp 9) rfl g9 (0) (by kernel_rfl) (x).cells _ (fun w h => rng_ext (blk_rng HV3.out.bx.1) h) undT rfl (by rw [(x).len HFX.out]; exact sizeT)) X0 ?_
                        simp only [List.getElem_toArray, List.getElem_cons_succ, List.getElem_cons_zero, Act.put, Act.eval, List.setIfInBounds_toArray, List.set_cons_zero, List.set_cons_succ, Nat.reduceAdd, Array.getD_eq_getD_getElem?, List.getElem?_toArray, List.getElem?_cons_succ, List.getElem?_cons_zero, Option.getD_some]
                        refine Ordl.take (i := 7) (v := .bool (!decide (y = x))) rfl (by kernel_rfl) (by kernel_rfl) (by kernel_rfl) (by kernel_rfl) (fun _ _ _ h => h) (.inl ⟨by kernel_rfl, fun w hS => exec_neqT y x HYD.out HFX.out (.tmp 166) (.tmp 167) rfl (by kernel_rfl) (by kernel_rfl)⟩) X0 ?_
                        simp only [List.getElem_toArray, List.getElem_cons_succ, List.getElem_cons_zero, Act.put, Act.eval, List.setIfInBounds_toArray, List.set_cons_zero, List.set_cons_succ, Nat.reduceAdd, Array.getD_eq_getD_getElem?, List.getElem?_toArray, List.getElem?_cons_succ, List.getElem?_cons_zero, Option.getD_some]
                        rw [qe]
                        have f37 : wu.cell? ⟨g14, m * 38 + 37, none⟩ = some (.int .i64 y.at_) := (HRu.out 37 _ (at37 y HYD.out))
                        have f11 : wu.cell? ⟨g11, 37, none⟩ = some (.int .i64 gz.at_) := (HV3.out.bg.cell 37).trans (at37 gz HGD.out)
                        refine Ordl.take (i := 8) (v := .bool true) rfl (by kernel_rfl) (by kernel_rfl) (by kernel_rfl) (by kernel_rfl) (fun _ _ _ h => h) (.inl ⟨by kernel_rfl, fun w _ => by as_aux_lemma => kernel_rfl⟩) X0 ?_
                        simp only [List.getElem_toArray, List.getElem_cons_succ, List.getElem_cons_zero, Act.put, Act.eval, List.setIfInBounds_toArray, List.set_cons_zero, List.set_cons_succ, Nat.reduceAdd, Array.getD_eq_getD_getElem?, List.getElem?_toArray, List.getElem?_cons_succ, List.getElem?_cons_zero, Option.getD_some]
                        refine Ordl.take (i := 9) (v := .bool true) rfl (by kernel_rfl) (by kernel_rfl) (by kernel_rfl) (by kernel_rfl) (fun _ _ _ h => h) (.inl ⟨by kernel_rfl, fun w _ => by as_aux_lemma => kernel_rfl⟩) X0 ?_
                        simp only [List.getElem_toArray, List.getElem_cons_succ, List.getElem_cons_zero, Act.put, Act.eval, List.setIfInBounds_toArray, List.set_cons_zero, List.set_cons_succ, Nat.reduceAdd, Array.getD_eq_getD_getElem?, List.getElem?_toArray, List.getElem?_cons_succ, List.getElem?_cons_zero, Option.getD_some]
                        refine Ordl.take (i := 10) (v := .slice (some ⟨g14, 0, none⟩) p2.l.length c14) rfl (by kernel_rfl) (by kernel_rfl) (by kernel_rfl) (by kernel_rfl) (fun _ _ _ h => h) (.inl ⟨by kernel_rfl, fun w _ => by as_aux_lemma => kernel_rfl⟩) X0 ?_
                        simp only [List.getElem_toArray, List.getElem_cons_succ, List.getElem_cons_zero, Act.put, Act.eval, List.setIfInBounds_toArray, List.set_cons_zero, List.set_cons_succ, Nat.reduceAdd, Array.getD_eq_getD_getElem?, List.getElem?_toArray, List.getElem?_cons_succ, List.getElem?_cons_zero, Option.getD_some]
                        refine Ordl.take (i := 11) (v := .int .i64 (m : Int)) rfl (by kernel_rfl) (by kernel_rfl) (by kernel_rfl) (by kernel_rfl) (fun _ _ _ h => h) (.inl ⟨by kernel_rfl, fun w _ => by as_aux_lemma => kernel_rfl⟩) X0 ?_
                        simp only [List.getElem_toArray, List.getElem_cons_succ, List.getElem_cons_zero, Act.put, Act.eval, List.setIfInBounds_toArray, List.set_cons_zero, List.set_cons_succ, Nat.reduceAdd, Array.getD_eq_getD_getElem?, List.getElem?_toArray, List.getElem?_cons_succ, List.getElem?_cons_zero, Option.getD_some]
                        refine Ordl.take (i := 12) (v := .pointer (some ⟨g14, m * 38, none⟩)) rfl (by kernel_rfl) (by kernel_rfl) (by kernel_rfl) (by kernel_rfl) (fun _ _ _ h => h) (.inl ⟨by kernel_rfl, fun w hS => exec_idxT (cap := c14) (.tmp 171) (.tmp 172) rfl (by kernel_rfl) (by kernel_rfl) hml w⟩) X0 ?_
                        simp only [List.getElem_toArray, List.getElem_cons_succ, List.getElem_cons_zero, Act.put, Act.eval, List.setIfInBounds_toArray, List.set_cons_zero, List.set_cons_succ, Nat.reduceAdd, Array.getD_eq_getD_getElem?, List.getElem?_toArray, List.getElem?_cons_succ, List.getElem?_cons_zero, Option.getD_some]
                        refine Ordl.take (i := 13) (v := .pointer (some ⟨g14, m * 38 + 37, none⟩)) rfl (by kernel_rfl) (by kernel_rfl) (by kernel_rfl) (by kernel_rfl) (fun _ _ _ h => h) (.inl ⟨by kernel_rfl, fun w _ => by as_aux_lemma => kernel_rfl⟩) X0 ?_
                        simp only [List.getElem_toArray, List.getElem_cons_succ, List.getElem_cons_zero, Act.put, Act.eval, List.setIfInBounds_toArray, List.set_cons_zero, List.set_cons_succ, Nat.reduceAdd, Array.getD_eq_getD_getElem?, List.getElem?_toArray, List.getElem?_cons_succ, List.getElem?_cons_zero, Option.getD_some]
                        refine Ordl.take (i := 14) (v := .int .i64 y.at_) rfl (by kernel_rfl) (by kernel_rfl) (by kernel_rfl) (by kernel_rfl) (fun _ _ _ h => h) (yields_load1 (by kernel_rfl) 3 (.tmp 174) rfl ⟨g14, m * 38 + 37, none⟩ (by kernel_rfl) (.int .i64 y.at_) _ Tryd.underlying3 rfl (fun w h => h.at_ f37)) X0 ?_
                        simp only [List.getElem_toArray, List.getElem_cons_succ, List.getElem_cons_zero, Act.put, Act.eval, List.setIfInBounds_toArray, List.set_cons_zero, List.set_cons_succ, Nat.reduceAdd, Array.getD_eq_getD_getElem?, List.getElem?_toArray, List.getElem?_cons_succ, List.getElem?_cons_zero, Option.getD_some]
                        refine Ordl.take (i := 15) (v := .pointer (some ⟨g11, 37, none⟩)) rfl (by kernel_rfl) (by kernel_rfl) (by kernel_rfl) (by kernel_rfl) (fun _ _ _ h => h) (.inl ⟨by kernel_rfl, fun w _ => by as_aux_lemma => kernel_rfl⟩) X0 ?_
                        simp only [List.getElem_toArray, List.getElem_cons_succ, List.getElem_cons_zero, Act.put, Act.eval, List.setIfInBounds_toArray, List.set_cons_zero, List.set_cons_succ, Nat.reduceAdd, Array.getD_eq_getD_getElem?, List.getElem?_toArray, List.getElem?_cons_succ, List.getElem?_cons_zero, Option.getD_some]
                        refine Ordl.take (i := 16) (v := .int .i64 gz.at_) rfl (by kernel_rfl) (by kernel_rfl) (by kernel_rfl) (by kernel_rfl) (fun _ _ _ h => h) (yields_load1 (by kernel_rfl) 3 (.tmp 176) rfl ⟨g11, 37, none⟩ (by kernel_rfl) (.int .i64 gz.at_) _ Tryd.underlying3 rfl (fun w h => h.at_ f11)) X0 ?_
                        simp only [List.getElem_toArray, List.getElem_cons_succ, List.getElem_cons_zero, Act.put, Act.eval, List.setIfInBounds_toArray, List.set_cons_zero, List.set_cons_succ, Nat.reduceAdd, Array.getD_eq_getD_getElem?, List.getElem?_toArray, List.getElem?_cons_succ, List.getElem?_cons_zero, Option.getD_some]
                        refine Ordl.take (i := 17) (v := .bool (decide (y.at_ < gz.at_))) rfl (by kernel_rfl) (by kernel_rfl) (by kernel_rfl) (by kernel_rfl) (fun _ _ _ h => h) (.inl ⟨by kernel_rfl, fun w _ => by as_aux_lemma => kernel_rfl⟩) X0 ?_
                        simp only [List.getElem_toArray, List.getElem_cons_succ, List.getElem_cons_zero, Act.put, Act.eval, List.setIfInBounds_toArray, List.set_cons_zero, List.set_cons_succ, Nat.reduceAdd, Array.getD_eq_getD_getElem?, List.getElem?_toArray, List.getElem?_cons_succ, List.getElem?_cons_zero, Option.getD_some]
                        rw [ql]
                        refine Ordl.take (i := 18) (v := .bool false) rfl (by kernel_rfl) (by kernel_rfl) (by kernel_rfl) (by kernel_rfl) (fun _ _ _ h => h) (.inl ⟨by kernel_rfl, fun w _ => by as_aux_lemma => kernel_rfl⟩) X0 ?_
                        simp only [List.getElem_toArray, List.getElem_cons_succ, List.getElem_cons_zero, Act.put, Act.eval, List.setIfInBounds_toArray, List.set_cons_zero, List.set_cons_succ, Nat.reduceAdd, Array.getD_eq_getD_getElem?, List.getElem?_toArray, List.getElem?_cons_succ, List.getElem?_cons_zero, Option.getD_some]
                        refine Ordl.done (by kernel_rfl) ?_ _
                        clear X0 qe ql f37 f11
                        go_wp2_with fail
                        go_roundw
                        case rel => exact ⟨m + 1, by go_num, by omega, HX3⟩
                        case measure => simp [intOf]; omega
                · obtain ⟨m', hm'⟩ : ∃ m', m = m' + 1 := ⟨m - 1, by omega⟩
                  have hml' : m' + 1 < p2.l.length := by omega
                  have hmm : m' < p2.l.length := by omega
                  have ey : p2.l[m' + 1]'hml' = p2.l[m] := by subst hm'; rfl
                  have near := near2 HV.out.lw.good.up hml'
                  rw [ey] at near
                  have qm : decide (0 < (m : Int)) = true := decide_eq_true (by omega)
                  have qn : decide (0 < m) = true := decide_eq_true (by omega)
                  have hge : 1 ≤ (m : Int) := by omega
                  have hlt' : (m : Int) - 1 < (p2.l.length : Int) := by omega
                  have hr' := HV.out.li.range HV.out.lw.tb.fit m' (by omega)
                  have em : m' = m - 1 := by omega
                  have d0 : wr.cell? ⟨g14, (m - 1) * 38, none⟩ = some (.string ⟨(p2.l[m']'hmm).repo.toArray⟩) := em ▸ HX.out.at_ (hr' 0 _ rfl)
                  have d1 : wr.cell? ⟨g14, (m - 1) * 38 + 1, none⟩ = some (.string ⟨(p2.l[m']'hmm).tag.toArray⟩) := em ▸ HX.out.at_ (hr' 1 _ rfl)
                  clear ey hr' hm0 em
                  generalize p2.l[m']'hmm = z at *
                  generalize p2.l[m] = y at *
                  clear hm' hml' hmm
                  rcases near with ⟨n1, n2⟩ | ⟨n1, n2, n3⟩
                  · as_aux_lemma =>
                      go_wp2_with fail
                      go_quiet (fail)
                      have HX := Lib.hid (HX.out.trans (Reg.Ext.drewN wr nq))
                      generalize wr.drewN nq = wv at *
                      cases qo with
                      | false =>
                        go_upto_region 27 with (fail)
                        go_quiet (fail)
                        have HX := Lib.hid (HX.out.trans (Reg.Ext.drewN wv nq))
                        generalize (wv).drewN nq = wu at *
                        go_wp2_with fail
                        go_roundw
                        case rel => exact ⟨m + 1, by go_num, by omega, HX⟩
                        case measure => simp [intOf]; omega
                      | true =>
                        have hle := (HG2.out rfl).1 y HYM.out
                        by_cases hyx : y = x
                        · have qe : decide (y = x) = true := decide_eq_true hyx
                          clear hyx hle
                          go_upto_region 27 with (fail)
                          have HV3 := Lib.hid (HV.out.ext (HX.out.trans (Reg.Ext.drew wv)))
                          have HX3 := Lib.hid (HX.out.trans (Reg.Ext.drew wv))
                          refine Ordl.begins (S := fun w' => Reg.Ext (wv).drew w') (z := 99) (by kernel_rfl) ?_
                          refine Ordl.Bx.out (?_ : Ordl.Bx (Ordl.Any _ _ _ _ _ _ _ _ _ _))
                          have X0 : Reg.Ext (wv).drew (wv).drew := Reg.Ext.refl _
                          generalize (wv).drew = wu at *
                          have HRu := Lib.hid (rng_ext HRG.out HX3.out)
                          refine Ordl.take (i := 0) (v := .bool true) rfl (by kernel_rfl) (by kernel_rfl) (by kernel_rfl) (by kernel_rfl) (fun _ _ _ h => h) (.inl ⟨by kernel_rfl, fun w _ => by as_aux_lemma => kernel_rfl⟩) X0 ?_
                          simp only [List.getElem_toArray, List.getElem_cons_succ, List.getElem_cons_zero, Act.put, Act.eval, List.setIfInBounds_toArray, List.set_cons_zero, List.set_cons_succ, Nat.reduceAdd, Array.getD_eq_getD_getElem?, List.getElem?_toArray, List.getElem?_cons_succ, List.getElem?_cons_zero, Option.getD_some]
                          refine Ordl.take (i := 1) (v := .bool true) rfl (by kernel_rfl) (by kernel_rfl) (by kernel_rfl) (by kernel_rfl) (fun _ _ _ h => h) (.inl ⟨by kernel_rfl, fun w _ => by as_aux_lemma => kernel_rfl⟩) X0 ?_
                          simp only [List.getElem_toArray, List.getElem_cons_succ, List.getElem_cons_zero, Act.put, Act.eval, List.setIfInBounds_toArray, List.set_cons_zero, List.set_cons_succ, Nat.reduceAdd, Array.getD_eq_getD_getElem?, List.getElem?_toArray, List.getElem?_cons_succ, List.getElem?_cons_zero, Option.getD_some]
                          refine Ordl.take (i := 2) (v := .slice (some ⟨g14, 0, none⟩) p2.l.length c14) rfl (by kernel_rfl) (by kernel_rfl) (by kernel_rfl) (by kernel_rfl) (fun _ _ _ h => h) (.inl ⟨by kernel_rfl, fun w _ => by as_aux_lemma => kernel_rfl⟩) X0 ?_
                          simp only [List.getElem_toArray, List.getElem_cons_succ, List.getElem_cons_zero, Act.put, Act.eval, List.setIfInBounds_toArray, List.set_cons_zero, List.set_cons_succ, Nat.reduceAdd, Array.getD_eq_getD_getElem?, List.getElem?_toArray, List.getElem?_cons_succ, List.getElem?_cons_zero, Option.getD_some]
                          refine Ordl.take (i := 3) (v := .int .i64 (m : Int)) rfl (by kernel_rfl) (by kernel_rfl) (by kernel_rfl) (by kernel_rfl) (fun _ _ _ h => h) (.inl ⟨by kernel_rfl, fun w _ => by as_aux_lemma => kernel_rfl⟩) X0 ?_
                          simp only [List.getElem_toArray, List.getElem_cons_succ, List.getElem_cons_zero, Act.put, Act.eval, List.setIfInBounds_toArray, List.set_cons_zero, List.set_cons_succ, Nat.reduceAdd, Array.getD_eq_getD_getElem?, List.getElem?_toArray, List.getElem?_cons_succ, List.getElem?_cons_zero, Option.getD_some]
                          refine Ordl.take (i := 4) (v := .pointer (some ⟨g14, m * 38, none⟩)) rfl (by kernel_rfl) (by kernel_rfl) (by kernel_rfl) (by kernel_rfl) (fun _ _ _ h => h) (.inl ⟨by kernel_rfl, fun w hS => exec_idxT (cap := c14) (.tmp 163) (.tmp 164) rfl (by kernel_rfl) (by kernel_rfl) hml w⟩) X0 ?_
                          simp only [List.getElem_toArray, List.getElem_cons_succ, List.getElem_cons_zero, Act.put, Act.eval, List.setIfInBounds_toArray, List.set_cons_zero, List.set_cons_succ, Nat.reduceAdd, Array.getD_eq_getD_getElem?, List.getElem?_toArray, List.getElem?_cons_succ, List.getElem?_cons_zero, Option.getD_some]
                          refine Ordl.take (i := 5) (v := .agg (y).cells.toArray) rfl (by kernel_rfl) (by kernel_rfl) (by kernel_rfl) (by kernel_rfl) (fun _ _ _ h => h) (yieldsIf_load_mid (by kernel_rfl) 25 (.tmp 165) rfl g14 (m * 38) (by kernel_rfl) (y).cells _ (fun w h => rng_ext HRu.out h) undT rfl (by rw [(y).len HYD.out]; exact sizeT)) X0 ?_
                          simp only [List.getElem_toArray, List.getElem_cons_succ, List.getElem_cons_zero, Act.put, Act.eval, List.setIfInBounds_toArray, List.set_cons_zero, List.set_cons_succ, Nat.reduceAdd, Array.getD_eq_getD_getElem?, List.getElem?_toArray, List.getElem?_cons_succ, List.getElem?_cons_zero, Option.getD_some]
                          refine Ordl.take (i := 6) (v := .agg (x).cells.toArray) rfl (by kernel_rfl) (by kernel_rfl) (by kernel_rfl) (by kernel_rfl) (fun _ _ _ h => h) (yieldsIf_load_mid (by kernel_rfl) 25 (.tmp 9) rfl g9 (0) (by kernel_rfl) (x).cells _ (fun w h => rng_ext (blk_rng HV3.out.bx.1) h) undT rfl (by rw [(x).len HFX.out]; exact sizeT)) X0 ?_
                          simp only [List.getElem_toArray, List.getElem_cons_succ, List.getElem_cons_zero, Act.put, Act.eval, List.setIfInBounds_toArray, List.set_cons_zero, List.set_cons_succ, Nat.reduceAdd, Array.getD_eq_getD_getElem?, List.getElem?_toArray, List.getElem?_cons_succ, List.getElem?_cons_zero, Option.getD_some]
                          refine Ordl.take (i := 7) (v := .bool (!decide (y = x))) rfl (by kernel_rfl) (by kernel_rfl) (by kernel_rfl) (by kernel_rfl) (fun _ _ _ h => h) (.inl ⟨by kernel_rfl, fun w hS => exec_neqT y x HYD.out HFX.out (.tmp 166) (.tmp 167) rfl (by kernel_rfl) (by kernel_rfl)⟩) X0 ?_
                          simp only [List.getElem_toArray, List.getElem_cons_succ, List.getElem_cons_zero, Act.put, Act.eval, List.setIfInBounds_toArray, List.set_cons_zero, List.set_cons_succ, Nat.reduceAdd, Array.getD_eq_getD_getElem?, List.getElem?_toArray, List.getElem?_cons_succ, List.getElem?_cons_zero, Option.getD_some]
                          rw [qe]
                          refine Ordl.take (i := 8) (v := .bool false) rfl (by kernel_rfl) (by kernel_rfl) (by kernel_rfl) (by kernel_rfl) (fun _ _ _ h => h) (.inl ⟨by kernel_rfl, fun w _ => by as_aux_lemma => kernel_rfl⟩) X0 ?_
                          simp only [List.getElem_toArray, List.getElem_cons_succ, List.getElem_cons_zero, Act.put, Act.eval, List.setIfInBounds_toArray, List.set_cons_zero, List.set_cons_succ, Nat.reduceAdd, Array.getD_eq_getD_getElem?, List.getElem?_toArray, List.getElem?_cons_succ, List.getElem?_cons_zero, Option.getD_some]
                          refine Ordl.take (i := 9) (v := .bool false) rfl (by kernel_rfl) (by kernel_rfl) (by kernel_rfl) (by kernel_rfl) (fun _ _ _ h => h) (.inl ⟨by kernel_rfl, fun w _ => by as_aux_lemma => kernel_rfl⟩) X0 ?_
                          simp only [List.getElem_toArray, List.getElem_cons_succ, List.getElem_cons_zero, Act.put, Act.eval, List.setIfInBounds_toArray, List.set_cons_zero, List.set_cons_succ, Nat.reduceAdd, Array.getD_eq_getD_getElem?, List.getElem?_toArray, List.getElem?_cons_succ, List.getElem?_cons_zero, Option.getD_some]
                          refine Ordl.take (i := 10) (v := undef) rfl (by kernel_rfl) (by kernel_rfl) (by kernel_rfl) (by kernel_rfl) (fun _ _ _ h => h) (.inr ⟨by kernel_rfl, rfl⟩) X0 ?_
                          simp only [List.getElem_toArray, List.getElem_cons_succ, List.getElem_cons_zero, Act.put, Act.eval, List.setIfInBounds_toArray, List.set_cons_zero, List.set_cons_succ, Nat.reduceAdd, Array.getD_eq_getD_getElem?, List.getElem?_toArray, List.getElem?_cons_succ, List.getElem?_cons_zero, Option.getD_some]
                          refine Ordl.take (i := 11) (v := undef) rfl (by kernel_rfl) (by kernel_rfl) (by kernel_rfl) (by kernel_rfl) (fun _ _ _ h => h) (.inr ⟨by kernel_rfl, rfl⟩) X0 ?_
                          simp only [List.getElem_toArray, List.getElem_cons_succ, List.getElem_cons_zero, Act.put, Act.eval, List.setIfInBounds_toArray, List.set_cons_zero, List.set_cons_succ, Nat.reduceAdd, Array.getD_eq_getD_getElem?, List.getElem?_toArray, List.getElem?_cons_succ, List.getElem?_cons_zero, Option.getD_some]
                          refine Ordl.take (i := 12) (v := undef) rfl (by kernel_rfl) (by kernel_rfl) (by kernel_rfl) (by kernel_rfl) (fun _ _ _ h => h) (.inr ⟨by kernel_rfl, rfl⟩) X0 ?_
                          simp only [List.getElem_toArray, List.getElem_cons_succ, List.getElem_cons_zero, Act.put, Act.eval, List.setIfInBounds_toArray, List.set_cons_zero, List.set_cons_succ, Nat.reduceAdd, Array.getD_eq_getD_getElem?, List.getElem?_toArray, List.getElem?_cons_succ, List.getElem?_cons_zero, Option.getD_some]
                          refine Ordl.take (i := 13) (v := undef) rfl (by kernel_rfl) (by kernel_rfl) (by kernel_rfl) (by kernel_rfl) (fun _ _ _ h => h) (.inr ⟨by kernel_rfl, rfl⟩) X0 ?_
                          simp only [List.getElem_toArray, List.getElem_cons_succ, List.getElem_cons_zero, Act.put, Act.eval, List.setIfInBounds_toArray, List.set_cons_zero, List.set_cons_succ, Nat.reduceAdd, Array.getD_eq_getD_getElem?, List.getElem?_toArray, List.getElem?_cons_succ, List.getElem?_cons_zero, Option.getD_some]
                          refine Ordl.take (i := 14) (v := undef) rfl (by kernel_rfl) (by kernel_rfl) (by kernel_rfl) (by kernel_rfl) (fun _ _ _ h => h) (.inr ⟨by kernel_rfl, rfl⟩) X0 ?_
                          simp only [List.getElem_toArray, List.getElem_cons_succ, List.getElem_cons_zero, Act.put, Act.eval, List.setIfInBounds_toArray, List.set_cons_zero, List.set_cons_succ, Nat.reduceAdd, Array.getD_eq_getD_getElem?, List.getElem?_toArray, List.getElem?_cons_succ, List.getElem?_cons_zero, Option.getD_some]
                          refine Ordl.take (i := 15) (v := undef) rfl (by kernel_rfl) (by kernel_rfl) (by kernel_rfl) (by kernel_rfl) (fun _ _ _ h => h) (.inr ⟨by kernel_rfl, rfl⟩) X0 ?_
                          simp only [List.getElem_toArray, List.getElem_cons_succ, List.getElem_cons_zero, Act.put, Act.eval, List.setIfInBounds_toArray, List.set_cons_zero, List.set_cons_succ, Nat.reduceAdd, Array.getD_eq_getD_getElem?, List.getElem?_toArray, List.getElem?_cons_succ, List.getElem?_cons_zero, Option.getD_some]
                          refine Ordl.take (i := 16) (v := undef) rfl (by kernel_rfl) (by kernel_rfl) (by kernel_rfl) (by kernel_rfl) (fun _ _ _ h => h) (.inr ⟨by kernel_rfl, rfl⟩) X0 ?_
                          simp only [List.getElem_toArray, List.getElem_cons_succ, List.getElem_cons_zero, Act.put, Act.eval, List.setIfInBounds_toArray, List.set_cons_zero, List.set_cons_succ, Nat.reduceAdd, Array.getD_eq_getD_getElem?, List.getElem?_toArray, List.getElem?_cons_succ, List.getElem?_cons_zero, Option.getD_some]
                          refine Ordl.take (i := 17) (v := undef) rfl (by kernel_rfl) (by kernel_rfl) (by kernel_rfl) (by kernel_rfl) (fun _ _ _ h => h) (.inr ⟨by kernel_rfl, rfl⟩) X0 ?_
                          simp only [List.getElem_toArray, List.getElem_cons_succ, List.getElem_cons_zero, Act.put, Act.eval, List.setIfInBounds_toArray, List.set_cons_zero, List.set_cons_succ, Nat.reduceAdd, Array.getD_eq_getD_getElem?, List.getElem?_toArray, List.getElem?_cons_succ, List.getElem?_cons_zero, Option.getD_some]
                          refine Ordl.take (i := 18) (v := .bool false) rfl (by kernel_rfl) (by kernel_rfl) (by kernel_rfl) (by kernel_rfl) (fun _ _ _ h => h) (.inl ⟨by kernel_rfl, fun w _ => by as_aux_lemma => kernel_rfl⟩) X0 ?_
                          simp only [List.getElem_toArray, List.getElem_cons_succ, List.getElem_cons_zero, Act.put, Act.eval, List.setIfInBounds_toArray, List.set_cons_zero, List.set_cons_succ, Nat.reduceAdd, Array.getD_eq_getD_getElem?, List.getElem?_toArray, List.getElem?_cons_succ, List.getElem?_cons_zero, Option.getD_some]
                          refine Ordl.done (by kernel_rfl) ?_ _
                          clear X0 qe
                          go_wp2_with fail
                          go_roundw
                          case rel => exact ⟨m + 1, by go_num, by omega, HX3⟩
                          case measure => simp [intOf]; omega
                        · have qe : decide (y = x) = false := decide_eq_false hyx
                          have ql : decide (y.at_ < gz.at_) = false := decide_eq_false (by have := hle hyx; omega)
                          clear hyx hle
                          go_upto_region 27 with (fail)
                          have HV3 := Lib.hid (HV.out.ext (HX.out.trans (Reg.Ext.drew wv)))
                          have HX3 := Lib.hid (HX.out.trans (Reg.Ext.drew wv))
                          refine Ordl.begins (S := fun w' => Reg.Ext (wv).drew w') (z := 99) (by kernel_rfl) ?_
                          refine Ordl.Bx.out (?_ : Ordl.Bx (Ordl.Any _ _ _ _ _ _ _ _ _ _))
                          have X0 : Reg.Ext (wv).drew (wv).drew := Reg.Ext.refl _
                          generalize (wv).drew = wu at *
                          have HRu := Lib.hid (rng_ext HRG.out HX3.out)
                          refine Ordl.take (i := 0) (v := .bool true) rfl (by kernel_rfl) (by kernel_rfl) (by kernel_rfl) (by kernel_rfl) (fun _ _ _ h => h) (.inl ⟨by kernel_rfl, fun w _ => by as_aux_lemma => kernel_rfl⟩) X0 ?_
                          simp only [List.getElem_toArray, List.getElem_cons_succ, List.getElem_cons_zero, Act.put, Act.eval, List.setIfInBounds_toArray, List.set_cons_zero, List.set_cons_succ, Nat.reduceAdd, Array.getD_eq_getD_getElem?, List.getElem?_toArray, List.getElem?_cons_succ, List.getElem?_cons_zero, Option.getD_some]
                          refine Ordl.take (i := 1) (v := .bool true) rfl (by kernel_rfl) (by kernel_rfl) (by kernel_rfl) (by kernel_rfl) (fun _ _ _ h => h) (.inl ⟨by kernel_rfl, fun w _ => by as_aux_lemma => kernel_rfl⟩) X0 ?_
                          simp only [List.getElem_toArray, List.getElem_cons_succ, List.getElem_cons_zero, Act.put, Act.eval, List.setIfInBounds_toArray, List.set_cons_zero, List.set_cons_succ, Nat.reduceAdd, Array.getD_eq_getD_getElem?, List.getElem?_toArray, List.getElem?_cons_succ, List.getElem?_cons_zero, Option.getD_some]
                          refine Ordl.take (i := 2) (v := .slice (some ⟨g14, 0, none⟩) p2.l.length c14) rfl (by kernel_rfl) (by kernel_rfl) (by kernel_rfl) (by kernel_rfl) (fun _ _ _ h => h) (.inl ⟨by kernel_rfl, fun w _ => by as_aux_lemma => kernel_rfl⟩) X0 ?_
                          simp only [List.getElem_toArray, List.getElem_cons_succ, List.getElem_cons_zero, Act.put, Act.eval, List.setIfInBounds_toArray, List.set_cons_zero, List.set_cons_succ, Nat.reduceAdd, Array.getD_eq_getD_getElem?, List.getElem?_toArray, List.getElem?_cons_succ, List.getElem?_cons_zero, Option.getD_some]
                          refine Ordl.take (i := 3) (v := .int .i64 (m : Int)) rfl (by kernel_rfl) (by kernel_rfl) (by kernel_rfl) (by kernel_rfl) (fun _ _ _ h => h) (.inl ⟨by kernel_rfl, fun w _ => by as_aux_lemma => kernel_rfl⟩) X0 ?_
                          simp only [List.getElem_toArray, List.getElem_cons_succ, List.getElem_cons_zero, Act.put, Act.eval, List.setIfInBounds_toArray, List.set_cons_zero, List.set_cons_succ, Nat.reduceAdd, Array.getD_eq_getD_getElem?, List.getElem?_toArray, List.getElem?_cons_succ, List.getElem?_cons_zero, Option.getD_some]
                          refine Ordl.take (i := 4) (v := .pointer (some ⟨g14, m * 38, none⟩)) rfl (by kernel_rfl) (by kernel_rfl) (by kernel_rfl) (by kernel_rfl) (fun _ _ _ h => h) (.inl ⟨by kernel_rfl, fun w hS => exec_idxT (cap := c14) (.tmp 163) (.tmp 164) rfl (by kernel_rfl) (by kernel_rfl) hml w⟩) X0 ?_
                          simp only [List.getElem_toArray, List.getElem_cons_succ, List.getElem_cons_zero, Act.put, Act.eval, List.setIfInBounds_toArray, List.set_cons_zero, List.set_cons_succ, Nat.reduceAdd, Array.getD_eq_getD_getElem?, List.getElem?_toArray, List.getElem?_cons_succ, List.getElem?_cons_zero, Option.getD_some]
                          refine Ordl.take (i := 5) (v := .agg (y).cells.toArray) rfl (by kernel_rfl) (by kernel_rfl) (by kernel_rfl) (by kernel_rfl) (fun _ _ _ h => h) (yieldsIf_load_mid (by kernel_rfl) 25 (.tmp 165) rfl g14 (m * 38) (by kernel_rfl) (y).cells _ (fun w h => rng_ext HRu.out h) undT rfl (by rw [(y).len HYD.out]; exact sizeT)) X0 ?_
                          simp only [List.getElem_toArray, List.getElem_cons_succ, List.getElem_cons_zero, Act.put, Act.eval, List.setIfInBounds_toArray, List.set_cons_zero, List.set_cons_succ, Nat.reduceAdd, Array.getD_eq_getD_getElem?, List.getElem?_toArray, List.getElem?_cons_succ, List.getElem?_cons_zero, Option.getD_some]
                          refine Ordl.take (i := 6) (v := .agg (x).cells.toArray) rfl (by kernel_rfl) (by kernel_rfl) (by kernel_rfl) (by kernel_rfl) (fun _ _ _ h => h) (yieldsIf_load_mid (by kernel_rfl) 25 (.tmp 9) rfl g9 (0) (by kernel_rfl) (x).cells _ (fun w h => rng_ext (blk_rng HV3.out.bx.1) h) undT rfl (by rw [(x).len HFX.out]; exact sizeT)) X0 ?_
                          simp only [List.getElem_toArray, List.getElem_cons_succ, List.getElem_cons_zero, Act.put, Act.eval, List.setIfInBounds_toArray, List.set_cons_zero, List.set_cons_succ, Nat.reduceAdd, Array.getD_eq_getD_getElem?, List.getElem?_toArray, List.getElem?_cons_succ, List.getElem?_cons_zero, Option.getD_some]
                          refine Ordl.take (i := 7) (v := .bool (!decide (y = x))) rfl (by kernel_rfl) (by kernel_rfl) (by kernel_rfl) (by kernel_rfl) (fun _ _ _ h => h) (.inl ⟨by kernel_rfl, fun w hS => exec_neqT y x HYD.out HFX.out (.tmp 166) (.tmp 167) rfl (by kernel_rfl) (by kernel_rfl)⟩) X0 ?_
                          simp only [List.getElem_toArray, List.getElem_cons_succ, List.getElem_cons_zero, Act.put, Act.eval, List.setIfInBounds_toArray, List.set_cons_zero, List.set_cons_succ, Nat.reduceAdd, Array.getD_eq_getD_getElem?, List.getElem?_toArray, List.getElem?_cons_succ, List.getElem?_cons_zero, Option.getD_some]
                          rw [qe]
                          have f37 : wu.cell? ⟨g14, m * 38 + 37, none⟩ = some (.int .i64 y.at_) := (HRu.out 37 _ (at37 y HYD.out))
                          have f11 : wu.cell? ⟨g11, 37, none⟩ = some (.int .i64 gz.at_) := (HV3.out.bg.cell 37).trans (at37 gz HGD.out)
                          refine Ordl.take (i := 8) (v := .bool true) rfl (by kernel_rfl) (by kernel_rfl) (by kernel_rfl) (by kernel_rfl) (fun _ _ _ h => h) (.inl ⟨by kernel_rfl, fun w _ => by as_aux_lemma => kernel_rfl⟩) X0 ?_
                          simp only [List.getElem_toArray, List.getElem_cons_succ, List.getElem_cons_zero, Act.put, Act.eval, List.setIfInBounds_toArray, List.set_cons_zero, List.set_cons_succ, Nat.reduceAdd, Array.getD_eq_getD_getElem?, List.getElem?_toArray, List.getElem?_cons_succ, List.getElem?_cons_zero, Option.getD_some]
                          refine Ordl.take (i := 9) (v := .bool true) rfl (by kernel_rfl) (by kernel_rfl) (by kernel_rfl) (by kernel_rfl) (fun _ _ _ h => h) (.inl ⟨by kernel_rfl, fun w _ => by as_aux_lemma => kernel_rfl⟩) X0 ?_
                          simp only [List.getElem_toArray, List.getElem_cons_succ, List.getElem_cons_zero, Act.put, Act.eval, List.setIfInBounds_toArray, List.set_cons_zero, List.set_cons_succ, Nat.reduceAdd, Array.getD_eq_getD_getElem?, List.getElem?_toArray, List.getElem?_cons_succ, List.getElem?_cons_zero, Option.getD_some]
                          refine Ordl.take (i := 10) (v := .slice (some ⟨g14, 0, none⟩) p2.l.length c14) rfl (by kernel_rfl) (by kernel_rfl) (by kernel_rfl) (by kernel_rfl) (fun _ _ _ h => h) (.inl ⟨by kernel_rfl, fun w _ => by as_aux_lemma => kernel_rfl⟩) X0 ?_
                          simp only [List.getElem_toArray, List.getElem_cons_succ, List.getElem_cons_zero, Act.put, Act.eval, List.setIfInBounds_toArray, List.set_cons_zero, List.set_cons_succ, Nat.reduceAdd, Array.getD_eq_getD_getElem?, List.getElem?_toArray, List.getElem?_cons_succ, List.getElem?_cons_zero, Option.getD_some]
                          refine Ordl.take (i := 11) (v := .int .i64 (m : Int)) rfl (by kernel_rfl) (by kernel_rfl) (by kernel_rfl) (by kernel_rfl) (fun _ _ _ h => h) (.inl ⟨by kernel_rfl, fun w _ => by as_aux_lemma => kernel_rfl⟩) X0 ?_
                          simp only [List.getElem_toArray, List.getElem_cons_succ, List.getElem_cons_zero, Act.put, Act.eval, List.setIfInBounds_toArray, List.set_cons_zero, List.set_cons_succ, Nat.reduceAdd, Array.getD_eq_getD_getElem?, List.getElem?_toArray, List.getElem?_cons_succ, List.getElem?_cons_zero, Option.getD_some]
                          refine Ordl.take (i := 12) (v := .pointer (some ⟨g14, m * 38, none⟩)) rfl (by kernel_rfl) (by kernel_rfl) (by kernel_rfl) (by kernel_rfl) (fun _ _ _ h => h) (.inl ⟨by kernel_rfl, fun w hS => exec_idxT (cap := c14) (.tmp 171) (.tmp 172) rfl (by kernel_rfl) (by kernel_rfl) hml w⟩) X0 ?_
                          simp only [List.getElem_toArray, List.getElem_cons_succ, List.getElem_cons_zero, Act.put, Act.eval, List.setIfInBounds_toArray, List.set_cons_zero, List.set_cons_succ, Nat.reduceAdd, Array.getD_eq_getD_getElem?, List.getElem?_toArray, List.getElem?_cons_succ, List.getElem?_cons_zero, Option.getD_some]
                          refine Ordl.take (i := 13) (v := .pointer (some ⟨g14, m * 38 + 37, none⟩)) rfl (by kernel_rfl) (by kernel_rfl) (by kernel_rfl) (by kernel_rfl) (fun _ _ _ h => h) (.inl ⟨by kernel_rfl, fun w _ => by as_aux_lemma => kernel_rfl⟩) X0 ?_
                          simp only [List.getElem_toArray, List.getElem_cons_succ, List.getElem_cons_zero, Act.put, Act.eval, List.setIfInBounds_toArray, List.set_cons_zero, List.set_cons_succ, Nat.reduceAdd, Array.getD_eq_getD_getElem?, List.getElem?_toArray, List.getElem?_cons_succ, List.getElem?_cons_zero, Option.getD_some]
                          refine Ordl.take (i := 14) (v := .int .i64 y.at_) rfl (by kernel_rfl) (by kernel_rfl) (by kernel_rfl) (by kernel_rfl) (fun _ _ _ h => h) (yields_load1 (by kernel_rfl) 3 (.tmp 174) rfl ⟨g14, m * 38 + 37, none⟩ (by kernel_rfl) (.int .i64 y.at_) _ Tryd.underlying3 rfl (fun w h => h.at_ f37)) X0 ?_
                          simp only [List.getElem_toArray, List.getElem_cons_succ, List.getElem_cons_zero, Act.put, Act.eval, List.setIfInBounds_toArray, List.set_cons_zero, List.set_cons_succ, Nat.reduceAdd, Array.getD_eq_getD_getElem?, List.getElem?_toArray, List.getElem?_cons_succ, List.getElem?_cons_zero, Option.getD_some]
                          refine Ordl.take (i := 15) (v := .pointer (some ⟨g11, 37, none⟩)) rfl (by kernel_rfl) (by kernel_rfl) (by kernel_rfl) (by kernel_rfl) (fun _ _ _ h => h) (.inl ⟨by kernel_rfl, fun w _ => by as_aux_lemma => kernel_rfl⟩) X0 ?_
                          simp only [List.getElem_toArray, List.getElem_cons_succ, List.getElem_cons_zero, Act.put, Act.eval, List.setIfInBounds_toArray, List.set_cons_zero, List.set_cons_succ, Nat.reduceAdd, Array.getD_eq_getD_getElem?, List.getElem?_toArray, List.getElem?_cons_succ, List.getElem?_cons_zero, Option.getD_some]
                          refine Ordl.take (i := 16) (v := .int .i64 gz.at_) rfl (by kernel_rfl) (by kernel_rfl) (by kernel_rfl) (by kernel_rfl) (fun _ _ _ h => h) (yields_load1 (by kernel_rfl) 3 (.tmp 176) rfl ⟨g11, 37, none⟩ (by kernel_rfl) (.int .i64 gz.at_) _ Tryd.underlying3 rfl (fun w h => h.at_ f11)) X0 ?_
                          simp only [List.getElem_toArray, List.getElem_cons_succ, List.getElem_cons_zero, Act.put, Act.eval, List.setIfInBounds_toArray, List.set_cons_zero, List.set_cons_succ, Nat.reduceAdd, Array.getD_eq_getD_getElem?, List.getElem?_toArray, List.getElem?_cons_succ, List.getElem?_cons_zero, Option.getD_some]
                          refine Ordl.take (i := 17) (v := .bool (decide (y.at_ < gz.at_))) rfl (by kernel_rfl) (by kernel_rfl) (by kernel_rfl) (by kernel_rfl) (fun _ _ _ h => h) (.inl ⟨by kernel_rfl, fun w _ => by as_aux_lemma => kernel_rfl⟩) X0 ?_
                          simp only [List.getElem_toArray, List.getElem_cons_succ, List.getElem_cons_zero, Act.put, Act.eval, List.setIfInBounds_toArray, List.set_cons_zero, List.set_cons_succ, Nat.reduceAdd, Array.getD_eq_getD_getElem?, List.getElem?_toArray, List.getElem?_cons_succ, List.getElem?_cons_zero, Option.getD_some]
                          rw [ql]
                          refine Ordl.take (i := 18) (v := .bool false) rfl (by kernel_rfl) (by kernel_rfl) (by kernel_rfl) (by kernel_rfl) (fun _ _ _ h => h) (.inl ⟨by kernel_rfl, fun w _ => by as_aux_lemma => kernel_rfl⟩) X0 ?_
                          simp only [List.getElem_toArray, List.getElem_cons_succ, List.getElem_cons_zero, Act.put, Act.eval, List.setIfInBounds_toArray, List.set_cons_zero, List.set_cons_succ, Nat.reduceAdd, Array.getD_eq_getD_getElem?, List.getElem?_toArray, List.getElem?_cons_succ, List.getElem?_cons_zero, Option.getD_some]
                          refine Ordl.done (by kernel_rfl) ?_ _
                          clear X0 qe ql f37 f11
                          go_wp2_with fail
                          go_roundw
                          case rel => exact ⟨m + 1, by go_num, by omega, HX3⟩
                          case measure => simp [intOf]; omega
                  · as_aux_lemma =>
                      rw [n1] at d0 n2
                      clear n1
                      go_wp2_with fail
                      go_quiet (fail)
                      have HX := Lib.hid (HX.out.trans (Reg.Ext.drewN wr nq))
                      generalize wr.drewN nq = wv at *
                      cases qo with
                      | false =>
                        go_upto_region 27 with (fail)
                        go_quiet (fail)
                        have HX := Lib.hid (HX.out.trans (Reg.Ext.drewN wv nq))
                        generalize (wv).drewN nq = wu at *
                        go_wp2_with fail
                        go_roundw
                        case rel => exact ⟨m + 1, by go_num, by omega, HX⟩
                        case measure => simp [intOf]; omega
                      | true =>
                        have hle := (HG2.out rfl).1 y HYM.out
                        by_cases hyx : y = x
                        · have qe : decide (y = x) = true := decide_eq_true hyx
                          clear hyx hle
                          go_upto_region 27 with (fail)
                          have HV3 := Lib.hid (HV.out.ext (HX.out.trans (Reg.Ext.drew wv)))
                          have HX3 := Lib.hid (HX.out.trans (Reg.Ext.drew wv))
                          refine Ordl.begins (S := fun w' => Reg.Ext (wv).drew w') (z := 99) (by kernel_rfl) ?_
                          refine Ordl.Bx.out (?_ : Ordl.Bx (Ordl.Any _ _ _ _ _ _ _ _ _ _))
                          have X0 : Reg.Ext (wv).drew (wv).drew := Reg.Ext.refl _
                          generalize (wv).drew = wu at *
                          have HRu := Lib.hid (rng_ext HRG.out HX3.out)
                          refine Ordl.take (i := 0) (v := .bool true) rfl (by kernel_rfl) (by kernel_rfl) (by kernel_rfl) (by kernel_rfl) (fun _ _ _ h => h) (.inl ⟨by kernel_rfl, fun w _ => by as_aux_lemma => kernel_rfl⟩) X0 ?_
                          simp only [List.getElem_toArray, List.getElem_cons_succ, List.getElem_cons_zero, Act.put, Act.eval, List.setIfInBounds_toArray, List.set_cons_zero, List.set_cons_succ, Nat.reduceAdd, Array.getD_eq_getD_getElem?, List.getElem?_toArray, List.getElem?_cons_succ, List.getElem?_cons_zero, Option.getD_some]
                          refine Ordl.take (i := 1) (v := .bool true) rfl (by kernel_rfl) (by kernel_rfl) (by kernel_rfl) (by kernel_rfl) (fun _ _ _ h => h) (.inl ⟨by kernel_rfl, fun w _ => by as_aux_lemma => kernel_rfl⟩) X0 ?_
                          simp only [List.getElem_toArray, List.getElem_cons_succ, List.getElem_cons_zero, Act.put, Act.eval, List.setIfInBounds_toArray, List.set_cons_zero, List.set_cons_succ, Nat.reduceAdd, Array.getD_eq_getD_getElem?, List.getElem?_toArray, List.getElem?_cons_succ, List.getElem?_cons_zero, Option.getD_some]
                          refine Ordl.take (i := 2) (v := .slice (some ⟨g14, 0, none⟩) p2.l.length c14) rfl (by kernel_rfl) (by kernel_rfl) (by kernel_rfl) (by kernel_rfl) (fun _ _ _ h => h) (.inl ⟨by kernel_rfl, fun w _ => by as_aux_lemma => kernel_rfl⟩) X0 ?_
                          simp only [List.getElem_toArray, List.getElem_cons_succ, List.getElem_cons_zero, Act.put, Act.eval, List.setIfInBounds_toArray, List.set_cons_zero, List.set_cons_succ, Nat.reduceAdd, Array.getD_eq_getD_getElem?, List.getElem?_toArray, List.getElem?_cons_succ, List.getElem?_cons_zero, Option.getD_some]
                          refine Ordl.take (i := 3) (v := .int .i64 (m : Int)) rfl (by kernel_rfl) (by kernel_rfl) (by kernel_rfl) (by kernel_rfl) (fun _ _ _ h => h) (.inl ⟨by kernel_rfl, fun w _ => by as_aux_lemma => kernel_rfl⟩) X0 ?_
                          simp only [List.getElem_toArray, List.getElem_cons_succ, List.getElem_cons_zero, Act.put, Act.eval, List.setIfInBounds_toArray, List.set_cons_zero, List.set_cons_succ, Nat.reduceAdd, Array.getD_eq_getD_getElem?, List.getElem?_toArray, List.getElem?_cons_succ, List.getElem?_cons_zero, Option.getD_some]
                          refine Ordl.take (i := 4) (v := .pointer (some ⟨g14, m * 38, none⟩)) rfl (by kernel_rfl) (by kernel_rfl) (by kernel_rfl) (by kernel_rfl) (fun _ _ _ h => h) (.inl ⟨by kernel_rfl, fun w hS => exec_idxT (cap := c14) (.tmp 163) (.tmp 164) rfl (by kernel_rfl) (by kernel_rfl) hml w⟩) X0 ?_
                          simp only [List.getElem_toArray, List.getElem_cons_succ, List.getElem_cons_zero, Act.put, Act.eval, List.setIfInBounds_toArray, List.set_cons_zero, List.set_cons_succ, Nat.reduceAdd, Array.getD_eq_getD_getElem?, List.getElem?_toArray, List.getElem?_cons_succ, List.getElem?_cons_zero, Option.getD_some]
                          refine Ordl.take (i := 5) (v := .agg (y).cells.toArray) rfl (by kernel_rfl) (by kernel_rfl) (by kernel_rfl) (by kernel_rfl) (fun _ _ _ h => h) (yieldsIf_load_mid (by kernel_rfl) 25 (.tmp 165) rfl g14 (m * 38) (by kernel_rfl) (y).cells _ (fun w h => rng_ext HRu.out h) undT rfl (by rw [(y).len HYD.out]; exact sizeT)) X0 ?_
                          simp only [List.getElem_toArray, List.getElem_cons_succ, List.getElem_cons_zero, Act.put, Act.eval, List.setIfInBounds_toArray, List.set_cons_zero, List.set_cons_succ, Nat.reduceAdd, Array.getD_eq_getD_getElem?, List.getElem?_toArray, List.getElem?_cons_succ, List.getElem?_cons_zero, Option.getD_some]
                          refine Ordl.take (i := 6) (v := .agg (x).cells.toArray) rfl (by kernel_rfl) (by kernel_rfl) (by kernel_rfl) (by kernel_rfl) (fun _ _ _ h => h) (yieldsIf_load_mid (by kernel_rfl) 25 (.tmp 9) rfl g9 (0) (by kernel_rfl) (x).cells _ (fun w h => rng_ext (blk_rng HV3.out.bx.1) h) undT rfl (by rw [(x).len HFX.out]; exact sizeT)) X0 ?_
                          simp only [List.getElem_toArray, List.getElem_cons_succ, List.getElem_cons_zero, Act.put, Act.eval, List.setIfInBounds_toArray, List.set_cons_zero, List.set_cons_succ, Nat.reduceAdd, Array.getD_eq_getD_getElem?, List.getElem?_toArray, List.getElem?_cons_succ, List.getElem?_cons_zero, Option.getD_some]
                          refine Ordl.take (i := 7) (v := .bool (!decide (y = x))) rfl (by kernel_rfl) (by kernel_rfl) (by kernel_rfl) (by kernel_rfl) (fun _ _ _ h => h) (.inl ⟨by kernel_rfl, fun w hS => exec_neqT y x HYD.out HFX.out (.tmp 166) (.tmp 167) rfl (by kernel_rfl) (by kernel_rfl)⟩) X0 ?_
                          simp only [List.getElem_toArray, List.getElem_cons_succ, List.getElem_cons_zero, Act.put, Act.eval, List.setIfInBounds_toArray, List.set_cons_zero, List.set_cons_succ, Nat.reduceAdd, Array.getD_eq_getD_getElem?, List.getElem?_toArray, List.getElem?_cons_succ, List.getElem?_cons_zero, Option.getD_some]
                          rw [qe]
                          refine Ordl.take (i := 8) (v := .bool false) rfl (by kernel_rfl) (by kernel_rfl) (by kernel_rfl) (by kernel_rfl) (fun _ _ _ h => h) (.inl ⟨by kernel_rfl, fun w _ => by as_aux_lemma => kernel_rfl⟩) X0 ?_
                          simp only [List.getElem_toArray, List.getElem_cons_succ, List.getElem_cons_zero, Act.put, Act.eval, List.setIfInBounds_toArray, List.set_cons_zero, List.set_cons_succ, Nat.reduceAdd, Array.getD_eq_getD_getElem?, List.getElem?_toArray, List.getElem?_cons_succ, List.getElem?_cons_zero, Option.getD_some]
                          refine Ordl.take (i := 9) (v := .bool false) rfl (by kernel_rfl) (by kernel_rfl) (by kernel_rfl) (by kernel_rfl) (fun _ _ _ h => h) (.inl ⟨by kernel_rfl, fun w _ => by as_aux_lemma => kernel_rfl⟩) X0 ?_
                          simp only [List.getElem_toArray, List.getElem_cons_succ, List.getElem_cons_zero, Act.put, Act.eval, List.setIfInBounds_toArray, List.set_cons_zero, List.set_cons_succ, Nat.reduceAdd, Array.getD_eq_getD_getElem?, List.getElem?_toArray, List.getElem?_cons_succ, List.getElem?_cons_zero, Option.getD_some]
                          refine Ordl.take (i := 10) (v := undef) rfl (by kernel_rfl) (by kernel_rfl) (by kernel_rfl) (by kernel_rfl) (fun _ _ _ h => h) (.inr ⟨by kernel_rfl, rfl⟩) X0 ?_
                          simp only [List.getElem_toArray, List.getElem_cons_succ, List.getElem_cons_zero, Act.put, Act.eval, List.setIfInBounds_toArray, List.set_cons_zero, List.set_cons_succ, Nat.reduceAdd, Array.getD_eq_getD_getElem?, List.getElem?_toArray, List.getElem?_cons_succ, List.getElem?_cons_zero, Option.getD_some]
                          refine Ordl.take (i := 11) (v := undef) rfl (by kernel_rfl) (by kernel_rfl) (by kernel_rfl) (by kernel_rfl) (fun _ _ _ h => h) (.inr ⟨by kernel_rfl, rfl⟩) X0 ?_
                          simp only [List.getElem_toArray, List.getElem_cons_succ, List.getElem_cons_zero, Act.put, Act.eval, List.setIfInBounds_toArray, List.set_cons_zero, List.set_cons_succ, Nat.reduceAdd, Array.getD_eq_getD_getElem?, List.getElem?_toArray, List.getElem?_cons_succ, List.getElem?_cons_zero, Option.getD_some]
                          refine Ordl.take (i := 12) (v := undef) rfl (by kernel_rfl) (by kernel_rfl) (by kernel_rfl) (by kernel_rfl) (fun _ _ _ h => h) (.inr ⟨by kernel_rfl, rfl⟩) X0 ?_
                          simp only [List.getElem_toArray, List.getElem_cons_succ, List.getElem_cons_zero, Act.put, Act.eval, List.setIfInBounds_toArray, List.set_cons_zero, List.set_cons_succ, Nat.reduceAdd, Array.getD_eq_getD_getElem?, List.getElem?_toArray, List.getElem?_cons_succ, List.getElem?_cons_zero, Option.getD_some]
                          refine Ordl.take (i := 13) (v := undef) rfl (by kernel_rfl) (by kernel_rfl) (by kernel_rfl) (by kernel_rfl) (fun _ _ _ h => h) (.inr ⟨by kernel_rfl, rfl⟩) X0 ?_
                          simp only [List.getElem_toArray, List.getElem_cons_succ, List.getElem_cons_zero, Act.put, Act.eval, List.setIfInBounds_toArray, List.set_cons_zero, List.set_cons_succ, Nat.reduceAdd, Array.getD_eq_getD_getElem?, List.getElem?_toArray, List.getElem?_cons_succ, List.getElem?_cons_zero, Option.getD_some]
                          refine Ordl.take (i := 14) (v := undef) rfl (by kernel_rfl) (by kernel_rfl) (by kernel_rfl) (by kernel_rfl) (fun _ _ _ h => h) (.inr ⟨by kernel_rfl, rfl⟩) X0 ?_
                          simp only [List.getElem_toArray, List.getElem_cons_succ, List.getElem_cons_zero, Act.put, Act.eval, List.setIfInBounds_toArray, List.set_cons_zero, List.set_cons_succ, Nat.reduceAdd, Array.getD_eq_getD_getElem?, List.getElem?_toArray, List.getElem?_cons_succ, List.getElem?_cons_zero, Option.getD_some]
                          refine Ordl.take (i := 15) (v := undef) rfl (by kernel_rfl) (by kernel_rfl) (by kernel_rfl) (by kernel_rfl) (fun _ _ _ h => h) (.inr ⟨by kernel_rfl, rfl⟩) X0 ?_
                          simp only [List.getElem_toArray, List.getElem_cons_succ, List.getElem_cons_zero, Act.put, Act.eval, List.setIfInBounds_toArray, List.set_cons_zero, List.set_cons_succ, Nat.reduceAdd, Array.getD_eq_getD_getElem?, List.getElem?_toArray, List.getElem?_cons_succ, List.getElem?_cons_zero, Option.getD_some]
                          refine Ordl.take (i := 16) (v := undef) rfl (by kernel_rfl) (by kernel_rfl) (by kernel_rfl) (by kernel_rfl) (fun _ _ _ h => h) (.inr ⟨by kernel_rfl, rfl⟩) X0 ?_
                          simp only [List.getElem_toArray, List.getElem_cons_succ, List.getElem_cons_zero, Act.put, Act.eval, List.setIfInBounds_toArray, List.set_cons_zero, List.set_cons_succ, Nat.reduceAdd, Array.getD_eq_getD_getElem?, List.getElem?_toArray, List.getElem?_cons_succ, List.getElem?_cons_zero, Option.getD_some]
                          refine Ordl.take (i := 17) (v := undef) rfl (by kernel_rfl) (by kernel_rfl) (by kernel_rfl) (by kernel_rfl) (fun _ _ _ h => h) (.inr ⟨by kernel_rfl, rfl⟩) X0 ?_
                          simp only [List.getElem_toArray, List.getElem_cons_succ, List.getElem_cons_zero, Act.put, Act.eval, List.setIfInBounds_toArray, List.set_cons_zero, List.set_cons_succ, Nat.reduceAdd, Array.getD_eq_getD_getElem?, List.getElem?_toArray, List.getElem?_cons_succ, List.getElem?_cons_zero, Option.getD_some]
                          refine Ordl.take (i := 18) (v := .bool false) rfl (by kernel_rfl) (by kernel_rfl) (by kernel_rfl) (by kernel_rfl) (fun _ _ _ h => h) (.inl ⟨by kernel_rfl, fun w _ => by as_aux_lemma => kernel_rfl⟩) X0 ?_
                          simp only [List.getElem_toArray, List.getElem_cons_succ, List.getElem_cons_zero, Act.put, Act.eval, List.setIfInBounds_toArray, List.set_cons_zero, List.set_cons_succ, Nat.reduceAdd, Array.getD_eq_getD_getElem?, List.getElem?_toArray, List.getElem?_cons_succ, List.getElem?_cons_zero, Option.getD_some]
                          refine Ordl.done (by kernel_rfl) ?_ _
                          clear X0 qe
                          go_wp2_with fail
                          go_roundw
                          case rel => exact ⟨m + 1, by go_num, by omega, HX3⟩
                          case measure => simp [intOf]; omega
                        · have qe : decide (y = x) = false := decide_eq_false hyx
                          have ql : decide (y.at_ < gz.at_) = false := decide_eq_false (by have := hle hyx; omega)
                          clear hyx hle
                          go_upto_region 27 with (fail)
                          have HV3 := Lib.hid (HV.out.ext (HX.out.trans (Reg.Ext.drew wv)))
                          have HX3 := Lib.hid (HX.out.trans (Reg.Ext.drew wv))
                          refine Ordl.begins (S := fun w' => Reg.Ext (wv).drew w') (z := 99) (by kernel_rfl) ?_
                          refine Ordl.Bx.out (?_ : Ordl.Bx (Ordl.Any _ _ _ _ _ _ _ _ _ _))
                          have X0 : Reg.Ext (wv).drew (wv).drew := Reg.Ext.refl _
                          generalize (wv).drew = wu at *
                          have HRu := Lib.hid (rng_ext HRG.out HX3.out)
                          refine Ordl.take (i := 0) (v := .bool true) rfl (by kernel_rfl) (by kernel_rfl) (by kernel_rfl) (by kernel_rfl) (fun _ _ _ h => h) (.inl ⟨by kernel_rfl, fun w _ => by as_aux_lemma => kernel_rfl⟩) X0 ?_
                          simp only [List.getElem_toArray, List.getElem_cons_succ, List.getElem_cons_zero, Act.put, Act.eval, List.setIfInBounds_toArray, List.set_cons_zero, List.set_cons_succ, Nat.reduceAdd, Array.getD_eq_getD_getElem?, List.getElem?_toArray, List.getElem?_cons_succ, List.getElem?_cons_zero, Option.getD_some]
                          refine Ordl.take (i := 1) (v := .bool true) rfl (by kernel_rfl) (by kernel_rfl) (by kernel_rfl) (by kernel_rfl) (fun _ _ _ h => h) (.inl ⟨by kernel_rfl, fun w _ => by as_aux_lemma => kernel_rfl⟩) X0 ?_
                          simp only [List.getElem_toArray, List.getElem_cons_succ, List.getElem_cons_zero, Act.put, Act.eval, List.setIfInBounds_toArray, List.set_cons_zero, List.set_cons_succ, Nat.reduceAdd, Array.getD_eq_getD_getElem?, List.getElem?_toArray, List.getElem?_cons_succ, List.getElem?_cons_zero, Option.getD_some]
                          refine Ordl.take (i := 2) (v := .slice (some ⟨g14, 0, none⟩) p2.l.length c14) rfl (by kernel_rfl) (by kernel_rfl) (by kernel_rfl) (by kernel_rfl) (fun _ _ _ h => h) (.inl ⟨by kernel_rfl, fun w _ => by as_aux_lemma => kernel_rfl⟩) X0 ?_
                          simp only [List.getElem_toArray, List.getElem_cons_succ, List.getElem_cons_zero, Act.put, Act.eval, List.setIfInBounds_toArray, List.set_cons_zero, List.set_cons_succ, Nat.reduceAdd, Array.getD_eq_getD_getElem?, List.getElem?_toArray, List.getElem?_cons_succ, List.getElem?_cons_zero, Option.getD_some]
                          refine Ordl.take (i := 3) (v := .int .i64 (m : Int)) rfl (by kernel_rfl) (by kernel_rfl) (by kernel_rfl) (by kernel_rfl) (fun _ _ _ h => h) (.inl ⟨by kernel_rfl, fun w _ => by as_aux_lemma => kernel_rfl⟩) X0 ?_
                          simp only [List.getElem_toArray, List.getElem_cons_succ, List.getElem_cons_zero, Act.put, Act.eval, List.setIfInBounds_toArray, List.set_cons_zero, List.set_cons_succ, Nat.reduceAdd, Array.getD_eq_getD_getElem?, List.getElem?_toArray, List.getElem?_cons_succ, List.getElem?_cons_zero, Option.getD_some]
                          refine Ordl.take (i := 4) (v := .pointer (some ⟨g14, m * 38, none⟩)) rfl (by kernel_rfl) (by kernel_rfl) (by kernel_rfl) (by kernel_rfl) (fun _ _ _ h => h) (.inl ⟨by kernel_rfl, fun w hS => exec_idxT (cap := c14) (.tmp 163) (.tmp 164) rfl (by kernel_rfl) (by kernel_rfl) hml w⟩) X0 ?_
                          simp only [List.getElem_toArray, List.getElem_cons_succ, List.getElem_cons_zero, Act.put, Act.eval, List.setIfInBounds_toArray, List.set_cons_zero, List.set_cons_succ, Nat.reduceAdd, Array.getD_eq_getD_getElem?, List.getElem?_toArray, List.getElem?_cons_succ, List.getElem?_cons_zero, Option.getD_some]
                          refine Ordl.take (i := 5) (v := .agg (y).cells.toArray) rfl (by kernel_rfl) (by kernel_rfl) (by kernel_rfl) (by kernel_rfl) (fun _ _ _ h => h) (yieldsIf_load_mid (by kernel_rfl) 25 (.tmp 165) rfl g14 (m * 38) (by kernel_rfl) (y).cells _ (fun w h => rng_ext HRu.out h) undT rfl (by rw [(y).len HYD.out]; exact sizeT)) X0 ?_
                          simp only [List.getElem_toArray, List.getElem_cons_succ, List.getElem_cons_zero, Act.put, Act.eval, List.setIfInBounds_toArray, List.set_cons_zero, List.set_cons_succ, Nat.reduceAdd, Array.getD_eq_getD_getElem?, List.getElem?_toArray, List.getElem?_cons_succ, List.getElem?_cons_zero, Option.getD_some]
                          refine Ordl.take (i := 6) (v := .agg (x).cells.toArray) rfl (by kernel_rfl) (by kernel_rfl) (by kernel_rfl) (by kernel_rfl) (fun _ _ _ h => h) (yieldsIf_load_mid (by kernel_rfl) 25 (.tmp 9) rfl g9 (0) (by kernel_rfl) (x).cells _ (fun w h => rng_ext (blk_rng HV3.out.bx.1) h) undT rfl (by rw [(x).len HFX.out]; exact sizeT)) X0 ?_
                          simp only [List.getElem_toArray, List.getElem_cons_succ, List.getElem_cons_zero, Act.put, Act.eval, List.setIfInBounds_toArray, List.set_cons_zero, List.set_cons_succ, Nat.reduceAdd, Array.getD_eq_getD_getElem?, List.getElem?_toArray, List.getElem?_cons_succ, List.getElem?_cons_zero, Option.getD_some]
                          refine Ordl.take (i := 7) (v := .bool (!decide (y = x))) rfl (by kernel_rfl) (by kernel_rfl) (by kernel_rfl) (by kernel_rfl) (fun _ _ _ h => h) (.inl ⟨by kernel_rfl, fun w hS => exec_neqT y x HYD.out HFX.out (.tmp 166) (.tmp 167) rfl (by kernel_rfl) (by kernel_rfl)⟩) X0 ?_
                          simp only [List.getElem_toArray, List.getElem_cons_succ, List.getElem_cons_zero, Act.put, Act.eval, List.setIfInBounds_toArray, List.set_cons_zero, List.set_cons_succ, Nat.reduceAdd, Array.getD_eq_getD_getElem?, List.getElem?_toArray, List.getElem?_cons_succ, List.getElem?_cons_zero, Option.getD_some]
                          rw [qe]
                          have f37 : wu.cell? ⟨g14, m * 38 + 37, none⟩ = some (.int .i64 y.at_) := (HRu.out 37 _ (at37 y HYD.out))
                          have f11 : wu.cell? ⟨g11, 37, none⟩ = some (.int .i64 gz.at_) := (HV3.out.bg.cell 37).trans (at37 gz HGD.out)
                          refine Ordl.take (i := 8) (v := .bool true) rfl (by kernel_rfl) (by kernel_rfl) (by kernel_rfl) (by kernel_rfl) (fun _ _ _ h => h) (.inl ⟨by kernel_rfl, fun w _ => by as_aux_lemma => kernel_rfl⟩) X0 ?_
                          simp only [List.getElem_toArray, List.getElem_cons_succ, List.getElem_cons_zero, Act.put, Act.eval, List.setIfInBounds_toArray, List.set_cons_zero, List.set_cons_succ, Nat.reduceAdd, Array.getD_eq_getD_getElem?, List.getElem?_toArray, List.getElem?_cons_succ, List.getElem?_cons_zero, Option.getD_some]
                          refine Ordl.take (i := 9) (v := .bool true) rfl (by kernel_rfl) (by kernel_rfl) (by kernel_rfl) (by kernel_rfl) (fun _ _ _ h => h) (.inl ⟨by kernel_rfl, fun w _ => by as_aux_lemma => kernel_rfl⟩) X0 ?_
                          simp only [List.getElem_toArray, List.getElem_cons_succ, List.getElem_cons_zero, Act.put, Act.eval, List.setIfInBounds_toArray, List.set_cons_zero, List.set_cons_succ, Nat.reduceAdd, Array.getD_eq_getD_getElem?, List.getElem?_toArray, List.getElem?_cons_succ, List.getElem?_cons_zero, Option.getD_some]
                          refine Ordl.take (i := 10) (v := .slice (some ⟨g14, 0, none⟩) p2.l.length c14) rfl (by kernel_rfl) (by kernel_rfl) (by kernel_rfl) (by kernel_rfl) (fun _ _ _ h => h) (.inl ⟨by kernel_rfl, fun w _ => by as_aux_lemma => kernel_rfl⟩) X0 ?_
                          simp only [List.getElem_toArray, List.getElem_cons_succ, List.getElem_cons_zero, Act.put, Act.eval, List.setIfInBounds_toArray, List.set_cons_zero, List.set_cons_succ, Nat.reduceAdd, Array.getD_eq_getD_getElem?, List.getElem?_toArray, List.getElem?_cons_succ, List.getElem?_cons_zero, Option.getD_some]
                          refine Ordl.take (i := 11) (v := .int .i64 (m : Int)) rfl (by kernel_rfl) (by kernel_rfl) (by kernel_rfl) (by kernel_rfl) (fun _ _ _ h => h) (.inl ⟨by kernel_rfl, fun w _ => by as_aux_lemma => kernel_rfl⟩) X0 ?_
                          simp only [List.getElem_toArray, List.getElem_cons_succ, List.getElem_cons_zero, Act.put, Act.eval, List.setIfInBounds_toArray, List.set_cons_zero, List.set_cons_succ, Nat.reduceAdd, Array.getD_eq_getD_getElem?, List.getElem?_toArray, List.getElem?_cons_succ, List.getElem?_cons_zero, Option.getD_some]
                          refine Ordl.take (i := 12) (v := .pointer (some ⟨g14, m * 38, none⟩)) rfl (by kernel_rfl) (by kernel_rfl) (by kernel_rfl) (by kernel_rfl) (fun _ _ _ h => h) (.inl ⟨by kernel_rfl, fun w hS => exec_idxT (cap := c14) (.tmp 171) (.tmp 172) rfl (by kernel_rfl) (by kernel_rfl) hml w⟩) X0 ?_
                          simp only [List.getElem_toArray, List.getElem_cons_succ, List.getElem_cons_zero, Act.put, Act.eval, List.setIfInBounds_toArray, List.set_cons_zero, List.set_cons_succ, Nat.reduceAdd, Array.getD_eq_getD_getElem?, List.getElem?_toArray, List.getElem?_cons_succ, List.getElem?_cons_zero, Option.getD_some]
                          refine Ordl.take (i := 13) (v := .pointer (some ⟨g14, m * 38 + 37, none⟩)) rfl (by kernel_rfl) (by kernel_rfl) (by kernel_rfl) (by kernel_rfl) (fun _ _ _ h => h) (.inl ⟨by kernel_rfl, fun w _ => by as_aux_lemma => kernel_rfl⟩) X0 ?_
                          simp only [List.getElem_toArray, List.getElem_cons_succ, List.getElem_cons_zero, Act.put, Act.eval, List.setIfInBounds_toArray, List.set_cons_zero, List.set_cons_succ, Nat.reduceAdd, Array.getD_eq_getD_getElem?, List.getElem?_toArray, List.getElem?_cons_succ, List.getElem?_cons_zero, Option.getD_some]
                          refine Ordl.take (i := 14) (v := .int .i64 y.at_) rfl (by kernel_rfl) (by kernel_rfl) (by kernel_rfl) (by kernel_rfl) (fun _ _ _ h => h) (yields_load1 (by kernel_rfl) 3 (.tmp 174) rfl ⟨g14, m * 38 + 37, none⟩ (by kernel_rfl) (.int .i64 y.at_) _ Tryd.underlying3 rfl (fun w h => h.at_ f37)) X0 ?_
                          simp only [List.getElem_toArray, List.getElem_cons_succ, List.getElem_cons_zero, Act.put, Act.eval, List.setIfInBounds_toArray, List.set_cons_zero, List.set_cons_succ, Nat.reduceAdd, Array.getD_eq_getD_getElem?, List.getElem?_toArray, List.getElem?_cons_succ, List.getElem?_cons_zero, Option.getD_some]
                          refine Ordl.take (i := 15) (v := .pointer (some ⟨g11, 37, none⟩)) rfl (by kernel_rfl) (by kernel_rfl) (by kernel_rfl) (by kernel_rfl) (fun _ _ _ h => h) (.inl ⟨by kernel_rfl, fun w _ => by as_aux_lemma => kernel_rfl⟩) X0 ?_
                          simp only [List.getElem_toArray, List.getElem_cons_succ, List.getElem_cons_zero, Act.put, Act.eval, List.setIfInBounds_toArray, List.set_cons_zero, List.set_cons_succ, Nat.reduceAdd, Array.getD_eq_getD_getElem?, List.getElem?_toArray, List.getElem?_cons_succ, List.getElem?_cons_zero, Option.getD_some]
                          refine Ordl.take (i := 16) (v := .int .i64 gz.at_) rfl (by kernel_rfl) (by kernel_rfl) (by kernel_rfl) (by kernel_rfl) (fun _ _ _ h => h) (yields_load1 (by kernel_rfl) 3 (.tmp 176) rfl ⟨g11, 37, none⟩ (by kernel_rfl) (.int .i64 gz.at_) _ Tryd.underlying3 rfl (fun w h => h.at_ f11)) X0 ?_
                          simp only [List.getElem_toArray, List.getElem_cons_succ, List.getElem_cons_zero, Act.put, Act.eval, List.setIfInBounds_toArray, List.set_cons_zero, List.set_cons_succ, Nat.reduceAdd, Array.getD_eq_getD_getElem?, List.getElem?_toArray, List.getElem?_cons_succ, List.getElem?_cons_zero, Option.getD_some]
                          refine Ordl.take (i := 17) (v := .bool (decide (y.at_ < gz.at_))) rfl (by kernel_rfl) (by kernel_rfl) (by kernel_rfl) (by kernel_rfl) (fun _ _ _ h => h) (.inl ⟨by kernel_rfl, fun w _ => by as_aux_lemma => kernel_rfl⟩) X0 ?_
                          simp only [List.getElem_toArray, List.getElem_cons_succ, List.getElem_cons_zero, Act.put, Act.eval, List.setIfInBounds_toArray, List.set_cons_zero, List.set_cons_succ, Nat.reduceAdd, Array.getD_eq_getD_getElem?, List.getElem?_toArray, List.getElem?_cons_succ, List.getElem?_cons_zero, Option.getD_some]
                          rw [ql]
                          refine Ordl.take (i := 18) (v := .bool false) rfl (by kernel_rfl) (by kernel_rfl) (by kernel_rfl) (by kernel_rfl) (fun _ _ _ h => h) (.inl ⟨by kernel_rfl, fun w _ => by as_aux_lemma => kernel_rfl⟩) X0 ?_
                          simp only [List.getElem_toArray, List.getElem_cons_succ, List.getElem_cons_zero, Act.put, Act.eval, List.setIfInBounds_toArray, List.set_cons_zero, List.set_cons_succ, Nat.reduceAdd, Array.getD_eq_getD_getElem?, List.getElem?_toArray, List.getElem?_cons_succ, List.getElem?_cons_zero, Option.getD_some]
                          refine Ordl.done (by kernel_rfl) ?_ _
                          clear X0 qe ql f37 f11
                          go_wp2_with fail
                          go_roundw
                          case rel => exact ⟨m + 1, by go_num, by omega, HX3⟩
                          case measure => simp [intOf]; omega
              · have hme : m = p2.l.length := by omega
                subst hme
                have HVE := Lib.hid (HV.out.ext HX.out)
                clear HV HX
                cases qo with
                | false =>
                  clear HG2
                  by_cases h3 : ak = 3
                  · have q3 : (ak == 3) = true := beq_iff_eq.2 h3
                    have ck := (HVE).out.lw.base.at_ (TA.head HCL.out)
                    clear h3
                    go_upto_region 34 with (fail)
                    clear ck q3
                    have c90 : (wr).cell? ⟨g9, 0, none⟩ = some (.string ⟨x.repo.toArray⟩) := (HVE).out.bx.1.cell 0
                    have c91 : (wr).cell? ⟨g9, 1, none⟩ = some (.string ⟨x.tag.toArray⟩) := (HVE).out.bx.1.cell 1
                    have HD1 := Lib.hid ((HVE).out.lw.drop (by omega) x.repo x.tag)
                    have HBX := Lib.hid (HVE).out.bx
                    rw [show p2.get (pair x.repo x.tag) = some x from HGOT.out] at HD1
                    dsimp only [Option.isSome] at HD1
                    refine wp_region_lit ?_
                    repeat go_step
                    refine (HD1.out).mono ?_
                    rintro e wp ⟨rfl, v20, hl20, ht20⟩
                    have HL20 := Lib.hid hl20
                    have HBX := Lib.hid (HBX.out.turn ht20)
                    have c90 : wp.cell? ⟨g9, 0, none⟩ = some (.string ⟨x.repo.toArray⟩) := HBX.out.1.cell 0
                    have c91 : wp.cell? ⟨g9, 1, none⟩ = some (.string ⟨x.tag.toArray⟩) := HBX.out.1.cell 1
                    clear hl20 ht20 HD1
                    have HD2 := Lib.hid (HL20.out.drop (show p2.most ≤ 64 by omega) x.repo x.tag)
                    rw [show (p2.drop (pair x.repo x.tag)).2.get (pair x.repo x.tag) = none from drop_gone _ _] at HD2
                    dsimp only [Option.isSome] at HD2
                    rename_i hK
                    refine hK _ _ ?_
                    clear hK
                    repeat go_step
                    refine (HD2.out).mono ?_
                    rintro e wq ⟨rfl, v21, hl21, ht21⟩
                    have HL21 := Lib.hid hl21
                    clear hl21 ht21 HD2 HL20 HBX c90 c91
                    rename_i hK
                    refine hK _ _ ?_
                    clear hK
                    go_wp2_with fail
                    go_roundw
                    case rel => exact ⟨j + 1, ((p2.drop (pair x.repo x.tag)).2.drop (pair x.repo x.tag)).2, by go_num, by omega, by omega, hM, Lib.hid ⟨_, HL21.out⟩⟩
                    case measure => simp [intOf]; omega
                  · have q3 : (ak == 3) = false := beq_eq_false_iff_ne.2 h3
                    have ck := (HVE).out.lw.base.at_ (TA.head HCL.out)
                    clear h3
                    go_wp2_with fail
                    go_roundw
                    case rel => exact ⟨j + 1, p2, by go_num, by omega, by omega, hM, Lib.hid ⟨_, (HVE).out.lw⟩⟩
                    case measure => simp [intOf]; omega
                | true =>
                  obtain ⟨-, hgn, hpl, hpl2⟩ := HG2.out rfl
                  have c90 : wr.cell? ⟨g11, 0, none⟩ = some (.string ⟨gz.repo.toArray⟩) := HVE.out.bg.cell 0
                  have c91 : wr.cell? ⟨g11, 1, none⟩ = some (.string ⟨gz.tag.toArray⟩) := HVE.out.bg.cell 1
                  have HGG := Lib.hid (HVE.out.lw.get (by omega) gz.repo gz.tag)
                  rw [show p2.get (pair gz.repo gz.tag) = none from hgn] at HGG
                  dsimp only [Option.getD, Option.isSome] at HGG
                  have qC : ((p.l.length : Int) != n0) = false := by rw [hpl]; exact bne_self_eq_false _
                  have qD : ((p2.l.length : Int) != n0) = false := by rw [hpl2]; exact bne_self_eq_false _
                  have HPL := Lib.hid hpl
                  clear HG2 hgn hpl hpl2
                  go_upto_region 30 with (fail)
                  refine wp_region_lit ?_
                  repeat go_step
                  refine (HGG.out).mono ?_
                  rintro e wh ⟨rfl, hxh⟩
                  have HV4 := Lib.hid (HVE.out.ext hxh)
                  clear hxh HVE c90 c91 HGG
                  rename_i hK
                  refine hK _ _ ?_
                  clear hK
                  iterate 12 go_step
                  rw [z38]
                  obtain ⟨g18, hg18⟩ : ∃ g, (wh).heap.size = g := ⟨_, rfl⟩
                  have hb0 := boxT wh zT
                  have hx0 := Reg.Ext.alloc wh (Obj.cells zT.cells.toArray 25)
                  rw [hg18] at hb0 ⊢
                  generalize (wh).alloc (Obj.cells zT.cells.toArray 25) = wn at *
                  refine wpList_store_mid rfl 25 _ _ rfl g18 0 (zT).cells.toArray rfl ?_ (hb0.there _ (by have e1 := (zT).len rfl; have e2 := zT.len rfl; rw [List.size_toArray]; omega)) (by rw [List.size_toArray, (zT).len rfl]; exact sizeT) (all_oneCell_toArray (T.one _)) ?_
                  · rfl
                  simp only [List.toList_toArray]
                  simp only [Act.put, Act.eval, List.setIfInBounds_toArray, List.set_cons_zero, List.set_cons_succ, Nat.reduceAdd, Array.getD_eq_getD_getElem?, List.getElem?_toArray, List.getElem?_cons_succ, List.getElem?_cons_zero, Option.getD_some]
                  have hb1 := hb0.setAll (zT).cells (by have e1 := (zT).len rfl; have e2 := zT.len rfl; omega)
                  have hx1 := hx0.trans_but (But.setCells g18 (zT).cells 0 wn) (by omega)
                  clear hb0 hx0
                  generalize wn.setCells g18 0 (zT).cells = wi at *
                  have HV5 := Lib.hid (HV4.out.ext hx1)
                  clear hb1 hx1 hg18 HV4
                  by_cases h3 : ak = 3
                  · have q3 : (ak == 3) = true := beq_iff_eq.2 h3
                    have ck := (HV5).out.lw.base.at_ (TA.head HCL.out)
                    clear h3
                    go_upto_region 34 with (fail)
                    clear ck q3
                    have c90 : (wi).cell? ⟨g9, 0, none⟩ = some (.string ⟨x.repo.toArray⟩) := (HV5).out.bx.1.cell 0
                    have c91 : (wi).cell? ⟨g9, 1, none⟩ = some (.string ⟨x.tag.toArray⟩) := (HV5).out.bx.1.cell 1
                    have HD1 := Lib.hid ((HV5).out.lw.drop (by omega) x.repo x.tag)
                    have HBX := Lib.hid (HV5).out.bx
                    rw [show p2.get (pair x.repo x.tag) = some x from HGOT.out] at HD1
                    dsimp only [Option.isSome] at HD1
                    refine wp_region_lit ?_
                    repeat go_step
                    refine (HD1.out).mono ?_
                    rintro e wp ⟨rfl, v20, hl20, ht20⟩
                    have HL20 := Lib.hid hl20
                    have HBX := Lib.hid (HBX.out.turn ht20)
                    have c90 : wp.cell? ⟨g9, 0, none⟩ = some (.string ⟨x.repo.toArray⟩) := HBX.out.1.cell 0
                    have c91 : wp.cell? ⟨g9, 1, none⟩ = some (.string ⟨x.tag.toArray⟩) := HBX.out.1.cell 1
                    clear hl20 ht20 HD1
                    have HD2 := Lib.hid (HL20.out.drop (show p2.most ≤ 64 by omega) x.repo x.tag)
                    rw [show (p2.drop (pair x.repo x.tag)).2.get (pair x.repo x.tag) = none from drop_gone _ _] at HD2
                    dsimp only [Option.isSome] at HD2
                    rename_i hK
                    refine hK _ _ ?_
                    clear hK
                    repeat go_step
                    refine (HD2.out).mono ?_
                    rintro e wq ⟨rfl, v21, hl21, ht21⟩
                    have HL21 := Lib.hid hl21
                    clear hl21 ht21 HD2 HL20 HBX c90 c91
                    rename_i hK
                    refine hK _ _ ?_
                    clear hK
                    go_wp2_with fail
                    go_roundw
                    case rel => exact ⟨j + 1, ((p2.drop (pair x.repo x.tag)).2.drop (pair x.repo x.tag)).2, by go_num, by omega, by omega, hM, Lib.hid ⟨_, HL21.out⟩⟩
                    case measure => simp [intOf]; omega
                  · have q3 : (ak == 3) = false := beq_eq_false_iff_ne.2 h3
                    have ck := (HV5).out.lw.base.at_ (TA.head HCL.out)
                    clear h3
                    go_wp2_with fail
                    go_roundw
                    case rel => exact ⟨j + 1, p2, by go_num, by omega, by omega, hM, Lib.hid ⟨_, (HV5).out.lw⟩⟩
                    case measure => simp [intOf]; omega
            -- G}
      · as_aux_lemma =>
          have hje : j = 150 := by omega
          subst hje
          obtain ⟨v, hl⟩ := HS.out
          have HX := Lib.hid hl.base
          clear hl HS
          go_upto_region 37 with (fail)
          refine wp_region_lit ?_
          iterate 3 go_step
          refine wpList_val rfl (.agg zT.cells.toArray) (by as_aux_lemma => kernel_rfl) ?_
          simp only [Act.put, Act.eval, List.setIfInBounds_toArray, List.set_cons_zero, List.set_cons_succ, Nat.reduceAdd, Array.getD_eq_getD_getElem?, List.getElem?_toArray, List.getElem?_cons_succ, List.getElem?_cons_zero, Option.getD_some]
          repeat go_step
          refine (put_nil _).mono ?_
          rintro e wa ⟨rfl, hxa⟩
          have HX := Lib.hid (HX.out.trans hxa)
          clear hxa
          rename_i hK
          refine hK _ _ ?_
          clear hK
          iterate 15 go_step
          rw [z38]
          obtain ⟨g21, hg21⟩ : ∃ g, (wa).heap.size = g := ⟨_, rfl⟩
          have hb0 := boxT wa zT
          have hx0 := Reg.Ext.alloc wa (Obj.cells zT.cells.toArray 25)
          rw [hg21] at hb0 ⊢
          generalize (wa).alloc (Obj.cells zT.cells.toArray 25) = wn at *
          refine wpList_store_mid rfl 25 _ _ rfl g21 0 (zT).cells.toArray rfl ?_ (hb0.there _ (by have e1 := (zT).len rfl; have e2 := zT.len rfl; rw [List.size_toArray]; omega)) (by rw [List.size_toArray, (zT).len rfl]; exact sizeT) (all_oneCell_toArray (T.one _)) ?_
          · rfl
          simp only [List.toList_toArray]
          simp only [Act.put, Act.eval, List.setIfInBounds_toArray, List.set_cons_zero, List.set_cons_succ, Nat.reduceAdd, Array.getD_eq_getD_getElem?, List.getElem?_toArray, List.getElem?_cons_succ, List.getElem?_cons_zero, Option.getD_some]
          have hb1 := hb0.setAll (zT).cells (by have e1 := (zT).len rfl; have e2 := zT.len rfl; omega)
          have hx1 := hx0.trans_but (But.setCells g21 (zT).cells 0 wn) (by omega)
          clear hb0 hx0
          generalize wn.setCells g21 0 (zT).cells = wb at *
          have HX := Lib.hid (HX.out.trans hx1)
          clear hb1 hx1 hg21
          go_upto_region 38 with (fail)
          refine wp_region_lit ?_
          repeat go_step
          refine (get_nil _ _ _).mono ?_
          rintro e wc ⟨rfl, hxc⟩
          have HX := Lib.hid (HX.out.trans hxc)
          clear hxc
          rename_i hK
          refine hK _ _ ?_
          clear hK
          iterate 12 go_step
          rw [z38]
          obtain ⟨g24, hg24⟩ : ∃ g, (wc).heap.size = g := ⟨_, rfl⟩
          have hb0 := boxT wc zT
          have hx0 := Reg.Ext.alloc wc (Obj.cells zT.cells.toArray 25)
          rw [hg24] at hb0 ⊢
          generalize (wc).alloc (Obj.cells zT.cells.toArray 25) = wn at *
          refine wpList_store_mid rfl 25 _ _ rfl g24 0 (zT).cells.toArray rfl ?_ (hb0.there _ (by have e1 := (zT).len rfl; have e2 := zT.len rfl; rw [List.size_toArray]; omega)) (by rw [List.size_toArray, (zT).len rfl]; exact sizeT) (all_oneCell_toArray (T.one _)) ?_
          · rfl
          simp only [List.toList_toArray]
          simp only [Act.put, Act.eval, List.setIfInBounds_toArray, List.set_cons_zero, List.set_cons_succ, Nat.reduceAdd, Array.getD_eq_getD_getElem?, List.getElem?_toArray, List.getElem?_cons_succ, List.getElem?_cons_zero, Option.getD_some]
          have hb1 := hb0.setAll (zT).cells (by have e1 := (zT).len rfl; have e2 := zT.len rfl; omega)
          have hx1 := hx0.trans_but (But.setCells g24 (zT).cells 0 wn) (by omega)
          clear hb0 hx0
          generalize wn.setCells g24 0 (zT).cells = wd at *
          have HX := Lib.hid (HX.out.trans hx1)
          clear hb1 hx1 hg24
          go_upto_region 39 with (fail)
          go_wp2_with (first
            | (go_at_call 19; refine (drop_nil _ _ _).mono ?_; rintro e wk ⟨rfl, rfl⟩)
            | (go_at_call 21; refine (len_nil _).mono ?_; rintro e wk ⟨rfl, rfl⟩)
            | (go_at_call 23; refine (list_nil _).mono ?_; rintro e wk ⟨rfl, rfl⟩))
          go_ret
          exact ⟨rfl, HX.out⟩
    · as_aux_lemma =>
        have hje : j = us.length := by omega
        subst hje
        obtain ⟨v, hl⟩ := HS.out
        have HX := Lib.hid hl.base
        clear hl HS
        go_upto_region 37 with (fail)
        refine wp_region_lit ?_
        iterate 3 go_step
        refine wpList_val rfl (.agg zT.cells.toArray) (by as_aux_lemma => kernel_rfl) ?_
        simp only [Act.put, Act.eval, List.setIfInBounds_toArray, List.set_cons_zero, List.set_cons_succ, Nat.reduceAdd, Array.getD_eq_getD_getElem?, List.getElem?_toArray, List.getElem?_cons_succ, List.getElem?_cons_zero, Option.getD_some]
        repeat go_step
        refine (put_nil _).mono ?_
        rintro e wa ⟨rfl, hxa⟩
        have HX := Lib.hid (HX.out.trans hxa)
        clear hxa
        rename_i hK
        refine hK _ _ ?_
        clear hK
        iterate 15 go_step
        rw [z38]
        obtain ⟨g21, hg21⟩ : ∃ g, (wa).heap.size = g := ⟨_, rfl⟩
        have hb0 := boxT wa zT
        have hx0 := Reg.Ext.alloc wa (Obj.cells zT.cells.toArray 25)
        rw [hg21] at hb0 ⊢
        generalize (wa).alloc (Obj.cells zT.cells.toArray 25) = wn at *
        refine wpList_store_mid rfl 25 _ _ rfl g21 0 (zT).cells.toArray rfl ?_ (hb0.there _ (by have e1 := (zT).len rfl; have e2 := zT.len rfl; rw [List.size_toArray]; omega)) (by rw [List.size_toArray, (zT).len rfl]; exact sizeT) (all_oneCell_toArray (T.one _)) ?_
        · rfl
        simp only [List.toList_toArray]
        simp only [Act.put, Act.eval, List.setIfInBounds_toArray, List.set_cons_zero, List.set_cons_succ, Nat.reduceAdd, Array.getD_eq_getD_getElem?, List.getElem?_toArray, List.getElem?_cons_succ, List.getElem?_cons_zero, Option.getD_some]
        have hb1 := hb0.setAll (zT).cells (by have e1 := (zT).len rfl; have e2 := zT.len rfl; omega)
        have hx1 := hx0.trans_but (But.setCells g21 (zT).cells 0 wn) (by omega)
        clear hb0 hx0
        generalize wn.setCells g21 0 (zT).cells = wb at *
        have HX := Lib.hid (HX.out.trans hx1)
        clear hb1 hx1 hg21
        go_upto_region 38 with (fail)
        refine wp_region_lit ?_
        repeat go_step
        refine (get_nil _ _ _).mono ?_
        rintro e wc ⟨rfl, hxc⟩
        have HX := Lib.hid (HX.out.trans hxc)
        clear hxc
        rename_i hK
        refine hK _ _ ?_
        clear hK
        iterate 12 go_step
        rw [z38]
        obtain ⟨g24, hg24⟩ : ∃ g, (wc).heap.size = g := ⟨_, rfl⟩
        have hb0 := boxT wc zT
        have hx0 := Reg.Ext.alloc wc (Obj.cells zT.cells.toArray 25)
        rw [hg24] at hb0 ⊢
        generalize (wc).alloc (Obj.cells zT.cells.toArray 25) = wn at *
        refine wpList_store_mid rfl 25 _ _ rfl g24 0 (zT).cells.toArray rfl ?_ (hb0.there _ (by have e1 := (zT).len rfl; have e2 := zT.len rfl; rw [List.size_toArray]; omega)) (by rw [List.size_toArray, (zT).len rfl]; exact sizeT) (all_oneCell_toArray (T.one _)) ?_
        · rfl
        simp only [List.toList_toArray]
        simp only [Act.put, Act.eval, List.setIfInBounds_toArray, List.set_cons_zero, List.set_cons_succ, Nat.reduceAdd, Array.getD_eq_getD_getElem?, List.getElem?_toArray, List.getElem?_cons_succ, List.getElem?_cons_zero, Option.getD_some]
        have hb1 := hb0.setAll (zT).cells (by have e1 := (zT).len rfl; have e2 := zT.len rfl; omega)
        have hx1 := hx0.trans_but (But.setCells g24 (zT).cells 0 wn) (by omega)
        clear hb0 hx0
        generalize wn.setCells g24 0 (zT).cells = wd at *
        have HX := Lib.hid (HX.out.trans hx1)
        clear hb1 hx1 hg24
        go_upto_region 39 with (fail)
        go_wp2_with (first
          | (go_at_call 19; refine (drop_nil _ _ _).mono ?_; rintro e wk ⟨rfl, rfl⟩)
          | (go_at_call 21; refine (len_nil _).mono ?_; rintro e wk ⟨rfl, rfl⟩)
          | (go_at_call 23; refine (list_nil _).mono ?_; rintro e wk ⟨rfl, rfl⟩))
        go_ret
        exact ⟨rfl, HX.out⟩
end Tk
end Go.Proofs.YtcfdlfedmbmidaaDoor

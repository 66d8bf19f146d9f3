/- Made by merge.py from: TkDu TicketExact. -/
import Derived.Test.YtcfdlfedmbmidaaDoorTkEa
import Derived.Test.YtcfdlfedmbmidaaDoorTkV
import Derived.Test.YtcfdlfedmbmidaaDoorTkS
import Derived.Test.YtcfdlfedmbmidaaDoorTkQ
import Derived.Test.YtcfdlfedmbmidaaDoorWords
import Derived.Deep.CutBlock
import Derived.Deep.DeepCutAuto
import Derived.BigQuiet
set_option linter.unusedSimpArgs false
set_option linter.unusedVariables false
set_option linter.unusedSectionVars false
set_option maxRecDepth 100000
/- Both tables side by side. -/
namespace Go.Proofs.YtcfdlfedmbmidaaDoor
open Go Go.RowKit
namespace Tk
/-- the program's table and the document's, neither in the other's way -/
structure Du (W0 w : World) (b : Nat) (v : Value) (b2 : Nat) (v2 : Value) (p r : P) : Prop where
  lw : Lw 62 W0 w b v p
  rt : Tb 44 w b2 v2 r.l r.most
  own : ∀ i, TO b2 v2 i → W0.heap.size ≤ i
  sep : ∀ i, TO b v i → ¬ TO b2 v2 i
section
variable {W0 w w' : World} {b b2 : Nat} {v v' v2 v2' : Value} {p p' r r' : P} {most : Int}
theorem Du.ext (h : Du W0 w b v b2 v2 p r) (hx : Reg.Ext w w') : Du W0 w' b v b2 v2 p r := ⟨h.lw.ext hx, h.rt.ext hx, h.own, h.sep⟩
theorem Du.left (h : Du W0 w b v b2 v2 p r) (ht : TTurn b w v w' v') (hl : Lw 62 W0 w' b v' p') : Du W0 w' b v' b2 v2 p' r :=
  ⟨hl, h.rt.same fun i hi => ht.kept i (h.rt.lt hi) fun o => h.sep i o hi, h.own, fun i hi o => by
    rcases ht.own i hi with h1 | h1
    · exact h.sep i h1 o
    · have := h.rt.lt o; omega⟩
theorem Du.right (h : Du W0 w b v b2 v2 p r) (ht : TTurn b2 w v2 w' v2') (hb : Tb 44 w' b2 v2' r'.l r'.most) : Du W0 w' b v b2 v2' p r' := by
  obtain ⟨h1, h2⟩ := ht.base h.lw.base h.own
  refine ⟨⟨h.lw.tb.same fun i hi => ht.kept i (h.lw.tb.lt hi) (h.sep i hi), h.lw.good, h1, h.lw.own⟩, hb, h2, fun i hi o => ?_⟩
  rcases ht.own i o with h1 | h1
  · exact h.sep i hi h1
  · have := h.lw.tb.lt hi; omega
/-- and a block that neither owns -/
structure DuB (W0 w : World) (b : Nat) (v : Value) (b2 : Nat) (v2 : Value) (p r : P) (g : Nat) (t : TypeId) (cs : List Value) : Prop where
  du : Du W0 w b v b2 v2 p r
  bq : Blk w g t cs
  n1 : ¬ TO b v g
  n2 : ¬ TO b2 v2 g
variable {g : Nat} {t : TypeId} {cs : List Value}
theorem DuB.ext (h : DuB W0 w b v b2 v2 p r g t cs) (hx : Reg.Ext w w') : DuB W0 w' b v b2 v2 p r g t cs := ⟨h.du.ext hx, h.bq.ext hx, h.n1, h.n2⟩
theorem DuB.left (h : DuB W0 w b v b2 v2 p r g t cs) (ht : TTurn b w v w' v') (hl : Lw 62 W0 w' b v' p') : DuB W0 w' b v' b2 v2 p' r g t cs :=
  ⟨h.du.left ht hl, (ht.kept g h.bq.lt h.n1).trans h.bq, fun o => by rcases ht.own g o with h1 | h1; exact h.n1 h1; have := h.bq.lt; omega, h.n2⟩
theorem DuB.right (h : DuB W0 w b v b2 v2 p r g t cs) (ht : TTurn b2 w v2 w' v2') (hb : Tb 44 w' b2 v2' r'.l r'.most) : DuB W0 w' b v b2 v2' p r' g t cs :=
  ⟨h.du.right ht hb, (ht.kept g h.bq.lt h.n2).trans h.bq, h.n1, fun o => by rcases ht.own g o with h1 | h1; exact h.n2 h1; have := h.bq.lt; omega⟩
theorem Du.start (h : Lw 62 W0 w b v ⟨[], most⟩) : Du W0 (w.alloc (.cells #[.slice none 0 0, .int .i64 most] 44)) b v w.heap.size (.slice none 0 0) ⟨[], most⟩ ⟨[], most⟩ := by
  refine ⟨h.ext (Reg.Ext.alloc _ _), newT _ most w, fun i hi => ?_, fun i hi o => ?_⟩
  · rcases hi with rfl | hi
    · exact h.base.size
    · cases hi
  · rcases o with rfl | o
    · have := h.tb.lt hi; omega
    · cases o
theorem Du.box (h : Du W0 w b v b2 v2 p r) (hg : w.heap.size = g) (hb : Blk w' g t cs) (hx : Reg.Ext w w') : DuB W0 w' b v b2 v2 p r g t cs :=
  ⟨h.ext hx, hb, fun o => by have := h.lw.tb.lt o; omega, fun o => by have := h.rt.lt o; omega⟩
end
theorem boxA (w : World) (u : TA) : Blk (w.alloc (Obj.cells u.cells.toArray 46)) w.heap.size 46 u.cells := by
  have := Blk.new w 46 u.cells.toArray
  simpa using this
theorem z39 : (#[.int .i64 0, .string ⟨#[]⟩, .string ⟨#[]⟩, .bool false, .int .u8 0, .int .u8 0, .int .u8 0, .int .u8 0, .int .u8 0, .int .u8 0, .int .u8 0, .int .u8 0, .int .u8 0, .int .u8 0, .int .u8 0, .int .u8 0, .int .u8 0, .int .u8 0, .int .u8 0, .int .u8 0, .int .u8 0, .int .u8 0, .int .u8 0, .int .u8 0, .int .u8 0, .int .u8 0, .int .u8 0, .int .u8 0, .int .u8 0, .int .u8 0, .int .u8 0, .int .u8 0, .int .u8 0, .int .u8 0, .int .u8 0, .int .u8 0, .string ⟨#[]⟩, .int .i64 0, .int .i64 0] : Array Value) = (⟨0, zT⟩ : TA).cells.toArray := rfl
end Tk
end Go.Proofs.YtcfdlfedmbmidaaDoor
/- Both tables agree: the law's walk. -/
namespace Go.Proofs.YtcfdlfedmbmidaaDoor
open Go Go.RowKit
namespace Tk


/-- the act's ticket, as it lies in the act's box -/
theorem DuB.xr {W0 w : World} {b b2 : Nat} {v v2 : Value} {p r : P} {g : Nat} {t : TypeId} {ak : Int} {x : T} (h : DuB W0 w b v b2 v2 p r g t (⟨ak, x⟩ : TA).cells) : w.rangeAt g 1 x.cells := by
  have := TA.tail (u := ⟨ak, x⟩) (blk_rng h.bq)
  rwa [Nat.zero_add] at this
theorem DuB.c1 {W0 w : World} {b b2 : Nat} {v v2 : Value} {p r : P} {g : Nat} {t : TypeId} {ak : Int} {x : T} (h : DuB W0 w b v b2 v2 p r g t (⟨ak, x⟩ : TA).cells) : w.cell? ⟨g, 1, none⟩ = some (.string ⟨x.repo.toArray⟩) := h.bq.cell 1
theorem DuB.c2 {W0 w : World} {b b2 : Nat} {v v2 : Value} {p r : P} {g : Nat} {t : TypeId} {ak : Int} {x : T} (h : DuB W0 w b v b2 v2 p r g t (⟨ak, x⟩ : TA).cells) : w.cell? ⟨g, 2, none⟩ = some (.string ⟨x.tag.toArray⟩) := h.bq.cell 2
set_option maxRecDepth 100000 in
set_option maxHeartbeats 8000000 in
theorem exact_bad (most : Int) (q : Option Addr) (n c : Nat) (W : World) (hb : most < 1 ∨ 64 < most) :
    Calls Tryd.prog 5 #[.int .i64 most, .slice q n c] W fun e w' => e = .returned (.bool true) ∧ Reg.Ext W w' := by
  have HN := Lib.hid (new_bad most hb)
  by_cases h1 : most < 1
  · have q0 : decide (most < 1) = true := decide_eq_true h1
    clear h1 hb
    go_enter Tryd.func5, Tryd.ntmps5
    go_wp2_with (first
      | (go_at_call 7; refine (awake_any _).mono ?_; rintro e w1 ⟨rfl, hx1⟩; have HX1 := Lib.hid hx1; clear hx1)
      | (go_at_call 14; refine (HN.out _).mono ?_; rintro e w2 ⟨rfl, rfl⟩))
    go_ret
    exact ⟨rfl, HX1.out⟩
  · have q0 : decide (most < 1) = false := decide_eq_false h1
    have q1 : decide (64 < most) = true := decide_eq_true (by omega)
    clear h1 hb
    go_enter Tryd.func5, Tryd.ntmps5
    go_wp2_with (first
      | (go_at_call 7; refine (awake_any _).mono ?_; rintro e w1 ⟨rfl, hx1⟩; have HX1 := Lib.hid hx1; clear hx1)
      | (go_at_call 14; refine (HN.out _).mono ?_; rintro e w2 ⟨rfl, rfl⟩))
    go_ret
    exact ⟨rfl, HX1.out⟩
set_option maxRecDepth 100000 in
set_option maxHeartbeats 8000000 in
theorem exact_law (most : Int) (q : Option Addr) (c : Nat) (us : List TA) (W : World) (hm : us.length ≤ maxLen) (hA : TActs W q us) :
    Calls Tryd.prog 5 #[.int .i64 most, .slice q us.length c] W fun e w' => e = .returned (.bool true) ∧ Reg.Ext W w' := by
  by_cases hb : most < 1 ∨ 64 < most
  · exact exact_bad most q us.length c W hb
  have hb1 : 1 ≤ most := by omega
  have hb2 : most ≤ 64 := by omega
  have q0 : decide (most < 1) = false := decide_eq_false (by omega)
  have q1 : decide (64 < most) = false := decide_eq_false (by omega)
  have HA := Lib.hid hA
  clear hA hb
  unfold maxLen at hm
  go_enter Tryd.func5, Tryd.ntmps5
  go_upto_region 8 with (first
    | (go_at_call 7; refine (awake_any _).mono ?_; rintro e w1 ⟨rfl, hx1⟩; have HN := Lib.hid (new_law hx1 most hb1 hb2); clear hx1)
    | (go_at_call 14; refine (HN.out).mono ?_; rintro e w2 ⟨b, rfl, hl2, -⟩; have HL2 := Lib.hid hl2; clear hl2 HN))
  clear q0 q1
  go_upto_block 0 with fail
  obtain ⟨b2, hbz⟩ : ∃ b, w2.heap.size = b := ⟨_, rfl⟩
  have hd0 := Du.start HL2.out
  rw [hbz] at hd0 ⊢
  have HD0 := Lib.hid hd0
  clear HL2 hbz hd0
  generalize w2.alloc (.cells #[.slice none 0 0, .int .i64 most] 44) = w3 at *
  go_cut [8, 9, 10, 11, 12, 13, 14, 15, 16, 17, 18] (fun _ _ _ _ _ _ _ _ _ _ _ wx => ∃ p : P, p.most = most ∧ Hid (∃ v v2, Du W wx b v b2 v2 p p))
  case first =>
    -- {F
    go_wp2_with fail
    go_loopw [8, 9, 10, 11, 12, 13, 14, 15, 16, 17, 18] (fun i _ _ _ _ _ _ _ _ _ _ wr => ∃ (j : Nat) (p : P), i = .int .i64 (j : Int) ∧ j ≤ us.length ∧ j ≤ 150 ∧ p.most = most ∧ Hid (∃ v v2, Du W wr b v b2 v2 p p)) (fun i _ _ _ _ _ _ _ _ _ _ _ => us.length - (intOf i).toNat)
    case atStart => exact ⟨0, ⟨[], most⟩, rfl, Nat.zero_le _, Nat.zero_le _, rfl, Lib.hid ⟨_, _, HD0.out⟩⟩
    clear HD0
    case round =>
      obtain ⟨j, p, rfl, hj, hj2, hmost, HS⟩ := hrel
      by_cases hjs : j < us.length
      · by_cases hj7 : j < 150
        · obtain ⟨ga, oa, rfl, hlt, hcl, hfx⟩ := HA.out j hjs
          have HFX := Lib.hid hfx.dig
          have HTG := Lib.hid hfx.tag
          have HCL := Lib.hid hcl
          clear hcl hfx hlt
          generalize us[j] = u at HFX HTG HCL
          obtain ⟨v, v2, hl⟩ := HS.out
          have HD := Lib.hid hl
          clear hl HS
          go_upto_region 12 with (fail)
          refine wp_region_lit ?_
          iterate 9 go_step
          refine wpList_ldm rfl 46 (.tmp 59) rfl ga (oa + j * 39) rfl u.cells _ (Lib.hid (rng_ext HCL.out HD.out.lw.base)) undTA (by rw [u.len HFX.out]; exact sizeTA) ?_
          simp only [Act.put, Act.eval, List.setIfInBounds_toArray, List.set_cons_zero, List.set_cons_succ, Nat.reduceAdd, Array.getD_eq_getD_getElem?, List.getElem?_toArray, List.getElem?_cons_succ, List.getElem?_cons_zero, Option.getD_some]
          iterate 3 go_step
          rw [z39]
          obtain ⟨g, hg⟩ : ∃ g, wr.heap.size = g := ⟨_, rfl⟩
          have hb0 := boxA wr ⟨0, zT⟩
          have hx0 := Reg.Ext.alloc wr (Obj.cells (⟨0, zT⟩ : TA).cells.toArray 46)
          rw [hg] at hb0 ⊢
          generalize wr.alloc (Obj.cells (⟨0, zT⟩ : TA).cells.toArray 46) = w5 at *
          refine wpList_store_mid rfl 46 _ _ rfl g 0 (u.cells).toArray rfl ?_ (hb0.there _ (by have e1 := u.len HFX.out; have e2 := (⟨0, zT⟩ : TA).len rfl; rw [List.size_toArray]; omega)) (by rw [List.size_toArray, u.len HFX.out]; exact sizeTA) (all_oneCell_toArray u.one) ?_
          · rfl
          simp only [List.toList_toArray]
          simp only [Act.put, Act.eval, List.setIfInBounds_toArray, List.set_cons_zero, List.set_cons_succ, Nat.reduceAdd, Array.getD_eq_getD_getElem?, List.getElem?_toArray, List.getElem?_cons_succ, List.getElem?_cons_zero, Option.getD_some]
          have HB5 := Lib.hid (HD.out.box hg (hb0.setAll u.cells (by have e1 := u.len HFX.out; have e2 := (⟨0, zT⟩ : TA).len rfl; omega)) (hx0.trans_but (But.setCells g u.cells 0 w5) (by omega)))
          clear hb0 hx0 hg HD
          generalize w5.setCells g 0 u.cells = w6 at *
          obtain ⟨ak, x⟩ := u
          dsimp only at HFX HTG
          go_upto_region 13 with (fail)
          refine wp_region_lit ?_
          iterate 3 go_step
          refine wpList_ldm rfl 25 (.tmp 61) rfl g 1 rfl (x).cells _ (Lib.hid (HB5.out.xr)) undT (by rw [(x).len HFX.out]; exact sizeT) ?_
          simp only [Act.put, Act.eval, List.setIfInBounds_toArray, List.set_cons_zero, List.set_cons_succ, Nat.reduceAdd, Array.getD_eq_getD_getElem?, List.getElem?_toArray, List.getElem?_cons_succ, List.getElem?_cons_zero, Option.getD_some]
          repeat go_step
          refine (great_any x HFX.out _).mono ?_
          rintro e w7 ⟨⟨q3, rfl⟩, hx7⟩
          have HB7 := Lib.hid (HB5.out.ext hx7)
          clear hx7 HB5
          rename_i hK
          refine hK _ _ ?_
          clear hK
          cases q3 with
          | true =>
            go_wp2_with fail
            go_ret
            exact ⟨rfl, HB7.out.du.lw.base⟩
          | false =>
            have c0 : w7.cell? ⟨g, 0, none⟩ = some (.int .i64 ak) := HB7.out.bq.cell 0
            go_upto_block 2 with fail
            clear c0
            go_cut [10, 11, 12, 13, 14, 15, 16, 17, 18] (fun _ _ _ _ _ _ _ _ _ wx => ∃ p1 : P, p1.most = most ∧ Hid (∃ v v2, Du W wx b v b2 v2 p1 p1))
            case first =>
              by_cases k1 : ak = 1
              · as_aux_lemma =>
                -- {K1
                have qk : (ak == 1) = true := beq_iff_eq.2 k1
                clear k1
                go_upto_region 19 with (fail)
                clear qk
                refine wp_region_lit ?_
                iterate 6 go_step
                refine wpList_ldm rfl 25 (.tmp 87) rfl g 1 rfl (x).cells _ (Lib.hid (HB7.out.xr)) undT (by rw [(x).len HFX.out]; exact sizeT) ?_
                simp only [Act.put, Act.eval, List.setIfInBounds_toArray, List.set_cons_zero, List.set_cons_succ, Nat.reduceAdd, Array.getD_eq_getD_getElem?, List.getElem?_toArray, List.getElem?_cons_succ, List.getElem?_cons_zero, Option.getD_some]
                repeat go_step
                have HGR := Lib.hid (fun w => goodR_any x HFX.out HTG.out w)
                cases hgood : goodT x with
                | false =>
                  rw [hgood] at HGR
                  refine (put_bad HB7.out.du.lw.tb x HFX.out hgood).mono ?_
                  rintro e w8 ⟨rfl, hx8⟩
                  have HB8 := Lib.hid (HB7.out.ext hx8)
                  clear hx8 HB7 hgood
                  rename_i hK
                  refine hK _ _ ?_
                  clear hK
                  iterate 15 go_step
                  rw [z38]
                  obtain ⟨g10, hg10⟩ : ∃ g, (w8).heap.size = g := ⟨_, rfl⟩
                  have hb0 := boxT w8 zT
                  have hx0 := Reg.Ext.alloc w8 (Obj.cells zT.cells.toArray 25)
                  rw [hg10] at hb0 ⊢
                  generalize (w8).alloc (Obj.cells zT.cells.toArray 25) = wn at *
                  refine wpList_store_mid rfl 25 _ _ rfl g10 0 (zT).cells.toArray rfl ?_ (hb0.there _ (by have e1 := (zT).len rfl; have e2 := zT.len rfl; rw [List.size_toArray]; omega)) (by rw [List.size_toArray, (zT).len rfl]; exact sizeT) (all_oneCell_toArray (T.one _)) ?_
                  · rfl
                  simp only [List.toList_toArray]
                  simp only [Act.put, Act.eval, List.setIfInBounds_toArray, List.set_cons_zero, List.set_cons_succ, Nat.reduceAdd, Array.getD_eq_getD_getElem?, List.getElem?_toArray, List.getElem?_cons_succ, List.getElem?_cons_zero, Option.getD_some]
                  have hb1 := hb0.setAll (zT).cells (by have e1 := (zT).len rfl; have e2 := zT.len rfl; omega)
                  have hx1 := hx0.trans_but (But.setCells g10 (zT).cells 0 wn) (by omega)
                  clear hb0 hx0
                  generalize wn.setCells g10 0 (zT).cells = w9 at *
                  have HB9 := Lib.hid (HB8.out.ext hx1)
                  have HG9 := Lib.hid hb1
                  clear hb1 hx1 hg10 HB8
                  go_upto_region 20 with (fail)
                  refine wp_region_lit ?_
                  iterate 3 go_step
                  refine wpList_ldm rfl 25 (.tmp 93) rfl g 1 rfl (x).cells _ (Lib.hid (HB9.out.xr)) undT (by rw [(x).len HFX.out]; exact sizeT) ?_
                  simp only [Act.put, Act.eval, List.setIfInBounds_toArray, List.set_cons_zero, List.set_cons_succ, Nat.reduceAdd, Array.getD_eq_getD_getElem?, List.getElem?_toArray, List.getElem?_cons_succ, List.getElem?_cons_zero, Option.getD_some]
                  repeat go_step
                  refine (HGR.out _).mono ?_
                  rintro e w10 ⟨rfl, hx10⟩
                  have HB10 := Lib.hid (HB9.out.ext hx10)
                  have HG10 := Lib.hid (HG9.out.ext hx10)
                  clear hx10 HB9 HG9 HGR
                  rename_i hK
                  refine hK _ _ ?_
                  clear hK
                  have qz : decide (zT = zT) = true := decide_eq_true rfl
                  go_upto_region 21 with (fail)
                  refine wp_region_lit ?_
                  iterate 9 go_step
                  iterate 2 go_step
                  iterate 3 go_step
                  iterate 3 go_step
                  refine wpList_ldm rfl 25 (.tmp 10) rfl g10 0 rfl (zT).cells _ (Lib.hid (blk_rng HG10.out)) undT (by rw [(zT).len rfl]; exact sizeT) ?_
                  simp only [Act.put, Act.eval, List.setIfInBounds_toArray, List.set_cons_zero, List.set_cons_succ, Nat.reduceAdd, Array.getD_eq_getD_getElem?, List.getElem?_toArray, List.getElem?_cons_succ, List.getElem?_cons_zero, Option.getD_some]
                  refine wpList_any rfl (.agg zT.cells.toArray) w10 (by as_aux_lemma => kernel_rfl) ?_
                  simp only [Act.put, Act.eval, List.setIfInBounds_toArray, List.set_cons_zero, List.set_cons_succ, Nat.reduceAdd, Array.getD_eq_getD_getElem?, List.getElem?_toArray, List.getElem?_cons_succ, List.getElem?_cons_zero, Option.getD_some]
                  refine wpList_any rfl (.bool (!decide (zT = zT))) w10 (exec_neqT zT zT rfl rfl (.tmp 103) (.tmp 104) rfl rfl rfl) ?_
                  simp only [Act.put, Act.eval, List.setIfInBounds_toArray, List.set_cons_zero, List.set_cons_succ, Nat.reduceAdd, Array.getD_eq_getD_getElem?, List.getElem?_toArray, List.getElem?_cons_succ, List.getElem?_cons_zero, Option.getD_some]
                  first | rw [qz] | skip
                  clear qz
                  go_wp2_with fail
                  go_roundw
                  case rel => exact ⟨j + 1, p, by go_num, by omega, by omega, hmost, Lib.hid ⟨_, _, HB10.out.du⟩⟩
                  case measure => simp [intOf]; omega
                | true =>
                  rw [hgood] at HGR
                  have HP := Lib.hid (HB7.out.du.lw.put (by omega) x HFX.out hgood)
                  have HPR := Lib.hid (fun w (v2 : Value) (h : Tb 44 w b2 v2 p.l p.most) => putR_any h HB7.out.du.lw.good (by omega) x HFX.out)
                  have HGD := Lib.hid (put_fit (x := x) HB7.out.du.lw.tb.fit)
                  have hM : (p.put x).2.most = most := (put_most p x).trans hmost
                  have HM2 : Hid ((p.put x).2.most = p.most) := Lib.hid (put_most p x)
                  generalize p.put x = pr at *
                  obtain ⟨o, p2⟩ := pr
                  dsimp only at HP HPR HGD hM HM2
                  obtain ⟨qo, hqo⟩ : ∃ q, o.isSome = q := ⟨_, rfl⟩
                  obtain ⟨gz, hgz⟩ : ∃ g, o.getD zT = g := ⟨_, rfl⟩
                  unfold ResU at HPR
                  rw [hqo, hgz] at HP
                  rw [hgz] at HGD
                  simp only [hqo, hgz] at HPR
                  clear hqo hgz hgood
                  refine (HP.out).mono ?_
                  rintro e w8 ⟨rfl, v8, hl8, ht8⟩
                  have HB8 := Lib.hid (HB7.out.left ht8 hl8)
                  clear hl8 ht8 HB7 HP
                  rename_i hK
                  refine hK _ _ ?_
                  clear hK
                  iterate 15 go_step
                  rw [z38]
                  obtain ⟨g10, hg10⟩ : ∃ g, (w8).heap.size = g := ⟨_, rfl⟩
                  have hb0 := boxT w8 zT
                  have hx0 := Reg.Ext.alloc w8 (Obj.cells zT.cells.toArray 25)
                  rw [hg10] at hb0 ⊢
                  generalize (w8).alloc (Obj.cells zT.cells.toArray 25) = wn at *
                  refine wpList_store_mid rfl 25 _ _ rfl g10 0 (gz).cells.toArray rfl ?_ (hb0.there _ (by have e1 := (gz).len HGD.out; have e2 := zT.len rfl; rw [List.size_toArray]; omega)) (by rw [List.size_toArray, (gz).len HGD.out]; exact sizeT) (all_oneCell_toArray (T.one _)) ?_
                  · rfl
                  simp only [List.toList_toArray]
                  simp only [Act.put, Act.eval, List.setIfInBounds_toArray, List.set_cons_zero, List.set_cons_succ, Nat.reduceAdd, Array.getD_eq_getD_getElem?, List.getElem?_toArray, List.getElem?_cons_succ, List.getElem?_cons_zero, Option.getD_some]
                  have hb1 := hb0.setAll (gz).cells (by have e1 := (gz).len HGD.out; have e2 := zT.len rfl; omega)
                  have hx1 := hx0.trans_but (But.setCells g10 (gz).cells 0 wn) (by omega)
                  clear hb0 hx0
                  generalize wn.setCells g10 0 (gz).cells = w9 at *
                  have HB9 := Lib.hid (HB8.out.ext hx1)
                  have HG9 : Hid (Bo w9 b2 v2 g10 _ gz.cells) := Lib.hid ⟨hb1, fun o => by have := HB8.out.du.rt.lt o; omega⟩
                  clear hb1 hx1 hg10 HB8
                  go_upto_region 20 with (fail)
                  refine wp_region_lit ?_
                  iterate 3 go_step
                  refine wpList_ldm rfl 25 (.tmp 93) rfl g 1 rfl (x).cells _ (Lib.hid (HB9.out.xr)) undT (by rw [(x).len HFX.out]; exact sizeT) ?_
                  simp only [Act.put, Act.eval, List.setIfInBounds_toArray, List.set_cons_zero, List.set_cons_succ, Nat.reduceAdd, Array.getD_eq_getD_getElem?, List.getElem?_toArray, List.getElem?_cons_succ, List.getElem?_cons_zero, Option.getD_some]
                  repeat go_step
                  refine (HGR.out _).mono ?_
                  rintro e w10 ⟨rfl, hx10⟩
                  have HB10 := Lib.hid (HB9.out.ext hx10)
                  have HG10 := Lib.hid (HG9.out.ext hx10)
                  clear hx10 HB9 HG9 HGR
                  rename_i hK
                  refine hK _ _ ?_
                  clear hK
                  go_upto_region 23 with (fail)
                  refine wp_region_lit ?_
                  iterate 6 go_step
                  refine wpList_ldm rfl 25 (.tmp 109) rfl g 1 rfl (x).cells _ (Lib.hid (HB10.out.xr)) undT (by rw [(x).len HFX.out]; exact sizeT) ?_
                  simp only [Act.put, Act.eval, List.setIfInBounds_toArray, List.set_cons_zero, List.set_cons_succ, Nat.reduceAdd, Array.getD_eq_getD_getElem?, List.getElem?_toArray, List.getElem?_cons_succ, List.getElem?_cons_zero, Option.getD_some]
                  repeat go_step
                  refine (HPR.out _ _ HB10.out.du.rt).mono ?_
                  rintro e w11 ⟨rfl, v11, hb11, ht11⟩
                  rw [← HM2.out] at hb11
                  have HB11 := Lib.hid (HB10.out.right ht11 hb11)
                  have HG11 := Lib.hid (HG10.out.turn ht11)
                  clear hb11 ht11 HB10 HG10 HPR
                  rename_i hK
                  refine hK _ _ ?_
                  clear hK
                  iterate 12 go_step
                  rw [z38]
                  obtain ⟨g13, hg13⟩ : ∃ g, (w11).heap.size = g := ⟨_, rfl⟩
                  have hb0 := boxT w11 zT
                  have hx0 := Reg.Ext.alloc w11 (Obj.cells zT.cells.toArray 25)
                  rw [hg13] at hb0 ⊢
                  generalize (w11).alloc (Obj.cells zT.cells.toArray 25) = wn at *
                  refine wpList_store_mid rfl 25 _ _ rfl g13 0 (gz).cells.toArray rfl ?_ (hb0.there _ (by have e1 := (gz).len HGD.out; have e2 := zT.len rfl; rw [List.size_toArray]; omega)) (by rw [List.size_toArray, (gz).len HGD.out]; exact sizeT) (all_oneCell_toArray (T.one _)) ?_
                  · rfl
                  simp only [List.toList_toArray]
                  simp only [Act.put, Act.eval, List.setIfInBounds_toArray, List.set_cons_zero, List.set_cons_succ, Nat.reduceAdd, Array.getD_eq_getD_getElem?, List.getElem?_toArray, List.getElem?_cons_succ, List.getElem?_cons_zero, Option.getD_some]
                  have hb1 := hb0.setAll (gz).cells (by have e1 := (gz).len HGD.out; have e2 := zT.len rfl; omega)
                  have hx1 := hx0.trans_but (But.setCells g13 (gz).cells 0 wn) (by omega)
                  clear hb0 hx0
                  generalize wn.setCells g13 0 (gz).cells = w12 at *
                  have HB12 := Lib.hid (HB11.out.ext hx1)
                  have HG12 := Lib.hid (HG11.out.ext hx1)
                  have HH12 := Lib.hid hb1
                  have qz : decide (gz = gz) = true := decide_eq_true rfl
                  clear hb1 hx1 hg13 HB11 HG11
                  go_upto_region 24 with (fail)
                  refine wp_region_lit ?_
                  iterate 9 go_step
                  refine wpList_ldm rfl 25 (.tmp 10) rfl g10 0 rfl (gz).cells _ (Lib.hid (blk_rng HG12.out.1)) undT (by rw [(gz).len HGD.out]; exact sizeT) ?_
                  simp only [Act.put, Act.eval, List.setIfInBounds_toArray, List.set_cons_zero, List.set_cons_succ, Nat.reduceAdd, Array.getD_eq_getD_getElem?, List.getElem?_toArray, List.getElem?_cons_succ, List.getElem?_cons_zero, Option.getD_some]
                  refine wpList_ldm rfl 25 (.tmp 13) rfl g13 0 rfl (gz).cells _ (Lib.hid (blk_rng HH12.out)) undT (by rw [(gz).len HGD.out]; exact sizeT) ?_
                  simp only [Act.put, Act.eval, List.setIfInBounds_toArray, List.set_cons_zero, List.set_cons_succ, Nat.reduceAdd, Array.getD_eq_getD_getElem?, List.getElem?_toArray, List.getElem?_cons_succ, List.getElem?_cons_zero, Option.getD_some]
                  refine wpList_any rfl (.bool (!decide (gz = gz))) w12 (exec_neqT gz gz HGD.out HGD.out (.tmp 117) (.tmp 118) rfl rfl rfl) ?_
                  simp only [Act.put, Act.eval, List.setIfInBounds_toArray, List.set_cons_zero, List.set_cons_succ, Nat.reduceAdd, Array.getD_eq_getD_getElem?, List.getElem?_toArray, List.getElem?_cons_succ, List.getElem?_cons_zero, Option.getD_some]
                  first | rw [qz] | skip
                  cases qo with
                  | true =>
                    go_wp2_with fail
                    go_meet
                    exact ⟨p2, hM, Lib.hid ⟨_, _, HB12.out.du⟩⟩
                  | false =>
                    go_wp2_with fail
                    go_meet
                    exact ⟨p2, hM, Lib.hid ⟨_, _, HB12.out.du⟩⟩
                -- K1}
              have qk : (ak == 1) = false := beq_eq_false_iff_ne.2 k1
              by_cases k2 : ak = 2
              · as_aux_lemma =>
                -- {K2
                have qk2 : (ak == 2) = true := beq_iff_eq.2 k2
                have c1 := HB7.out.c1
                have c2 := HB7.out.c2
                have HGE := Lib.hid (HB7.out.du.lw.get (by omega) x.repo x.tag)
                have hlp : p.l.length ≤ 1000 := by have := HB7.out.du.lw.good.most; omega
                have HGF := Lib.hid (fun w (h : DuB W w b v b2 v2 p p g 46 (⟨ak, x⟩ : TA).cells) => getR_any h.du.rt hlp x.repo x.tag)
                have HGD : Hid (((p.get (pair x.repo x.tag)).getD zT).dig.length = 32) := Lib.hid (by
                  cases hq : p.get (pair x.repo x.tag) with
                  | none => rfl
                  | some y => exact HB7.out.du.lw.tb.fit y (Nmd.get_mem hq).1)
                have HU : Hid (Nmd.get nm (pair x.repo x.tag) p.l = p.get (pair x.repo x.tag)) := Lib.hid rfl
                rw [HU.out] at HGF
                generalize p.get (pair x.repo x.tag) = o at *
                generalize o.getD zT = gz at *
                generalize o.isSome = qo at *
                clear k1 k2 HU
                go_upto_region 27 with (fail)
                clear qk qk2
                refine wp_region_lit ?_
                repeat go_step
                refine (HGE.out).mono ?_
                rintro e w8 ⟨rfl, hx8⟩
                have HB8 := Lib.hid (HB7.out.ext hx8)
                clear hx8 HB7 HGE c1 c2
                rename_i hK
                refine hK _ _ ?_
                clear hK
                iterate 12 go_step
                rw [z38]
                obtain ⟨g15, hg15⟩ : ∃ g, (w8).heap.size = g := ⟨_, rfl⟩
                have hb0 := boxT w8 zT
                have hx0 := Reg.Ext.alloc w8 (Obj.cells zT.cells.toArray 25)
                rw [hg15] at hb0 ⊢
                generalize (w8).alloc (Obj.cells zT.cells.toArray 25) = wn at *
                refine wpList_store_mid rfl 25 _ _ rfl g15 0 (gz).cells.toArray rfl ?_ (hb0.there _ (by have e1 := (gz).len HGD.out; have e2 := zT.len rfl; rw [List.size_toArray]; omega)) (by rw [List.size_toArray, (gz).len HGD.out]; exact sizeT) (all_oneCell_toArray (T.one _)) ?_
                · rfl
                simp only [List.toList_toArray]
                simp only [Act.put, Act.eval, List.setIfInBounds_toArray, List.set_cons_zero, List.set_cons_succ, Nat.reduceAdd, Array.getD_eq_getD_getElem?, List.getElem?_toArray, List.getElem?_cons_succ, List.getElem?_cons_zero, Option.getD_some]
                have hb1 := hb0.setAll (gz).cells (by have e1 := (gz).len HGD.out; have e2 := zT.len rfl; omega)
                have hx1 := hx0.trans_but (But.setCells g15 (gz).cells 0 wn) (by omega)
                clear hb0 hx0
                generalize wn.setCells g15 0 (gz).cells = w9 at *
                have HB9 := Lib.hid (HB8.out.ext hx1)
                have HG9 := Lib.hid hb1
                clear hb1 hx1 hg15 HB8
                have c1 := HB9.out.c1
                have c2 := HB9.out.c2
                go_upto_region 28 with (fail)
                refine wp_region_lit ?_
                repeat go_step
                refine (HGF.out _ HB9.out).mono ?_
                rintro e w10 ⟨rfl, hx10⟩
                have HB10 := Lib.hid (HB9.out.ext hx10)
                have HG10 := Lib.hid (HG9.out.ext hx10)
                clear hx10 HB9 HG9 HGF c1 c2
                rename_i hK
                refine hK _ _ ?_
                clear hK
                iterate 12 go_step
                rw [z38]
                obtain ⟨g17, hg17⟩ : ∃ g, (w10).heap.size = g := ⟨_, rfl⟩
                have hb0 := boxT w10 zT
                have hx0 := Reg.Ext.alloc w10 (Obj.cells zT.cells.toArray 25)
                rw [hg17] at hb0 ⊢
                generalize (w10).alloc (Obj.cells zT.cells.toArray 25) = wn at *
                refine wpList_store_mid rfl 25 _ _ rfl g17 0 (gz).cells.toArray rfl ?_ (hb0.there _ (by have e1 := (gz).len HGD.out; have e2 := zT.len rfl; rw [List.size_toArray]; omega)) (by rw [List.size_toArray, (gz).len HGD.out]; exact sizeT) (all_oneCell_toArray (T.one _)) ?_
                · rfl
                simp only [List.toList_toArray]
                simp only [Act.put, Act.eval, List.setIfInBounds_toArray, List.set_cons_zero, List.set_cons_succ, Nat.reduceAdd, Array.getD_eq_getD_getElem?, List.getElem?_toArray, List.getElem?_cons_succ, List.getElem?_cons_zero, Option.getD_some]
                have hb1 := hb0.setAll (gz).cells (by have e1 := (gz).len HGD.out; have e2 := zT.len rfl; omega)
                have hx1 := hx0.trans_but (But.setCells g17 (gz).cells 0 wn) (by omega)
                clear hb0 hx0
                generalize wn.setCells g17 0 (gz).cells = w11 at *
                have HB11 := Lib.hid (HB10.out.ext hx1)
                have HG11 := Lib.hid (HG10.out.ext hx1)
                have HH11 := Lib.hid hb1
                have qz : decide (gz = gz) = true := decide_eq_true rfl
                clear hb1 hx1 hg17 HB10 HG10
                go_upto_region 29 with (fail)
                refine wp_region_lit ?_
                refine wpList_ldm rfl 25 (.tmp 15) rfl g15 0 rfl (gz).cells _ (Lib.hid (blk_rng HG11.out)) undT (by rw [(gz).len HGD.out]; exact sizeT) ?_
                simp only [Act.put, Act.eval, List.setIfInBounds_toArray, List.set_cons_zero, List.set_cons_succ, Nat.reduceAdd, Array.getD_eq_getD_getElem?, List.getElem?_toArray, List.getElem?_cons_succ, List.getElem?_cons_zero, Option.getD_some]
                refine wpList_ldm rfl 25 (.tmp 17) rfl g17 0 rfl (gz).cells _ (Lib.hid (blk_rng HH11.out)) undT (by rw [(gz).len HGD.out]; exact sizeT) ?_
                simp only [Act.put, Act.eval, List.setIfInBounds_toArray, List.set_cons_zero, List.set_cons_succ, Nat.reduceAdd, Array.getD_eq_getD_getElem?, List.getElem?_toArray, List.getElem?_cons_succ, List.getElem?_cons_zero, Option.getD_some]
                refine wpList_any rfl (.bool (!decide (gz = gz))) w11 (exec_neqT gz gz HGD.out HGD.out (.tmp 150) (.tmp 151) rfl rfl rfl) ?_
                simp only [Act.put, Act.eval, List.setIfInBounds_toArray, List.set_cons_zero, List.set_cons_succ, Nat.reduceAdd, Array.getD_eq_getD_getElem?, List.getElem?_toArray, List.getElem?_cons_succ, List.getElem?_cons_zero, Option.getD_some]
                first | rw [qz] | skip
                cases qo with
                | true =>
                  go_wp2_with fail
                  go_meet
                  exact ⟨p, hmost, Lib.hid ⟨_, _, HB11.out.du⟩⟩
                | false =>
                  go_wp2_with fail
                  go_meet
                  exact ⟨p, hmost, Lib.hid ⟨_, _, HB11.out.du⟩⟩
                -- K2}
              · as_aux_lemma =>
                -- {K3
                have qk2 : (ak == 2) = false := beq_eq_false_iff_ne.2 k2
                have hlp : p.l.length ≤ 1000 := by have := HB7.out.du.lw.good.most; omega
                have HD1 := Lib.hid (fun w (h : DuB W w b v b2 v2 p p g 46 (⟨ak, x⟩ : TA).cells) => h.du.lw.drop (by omega) x.repo x.tag)
                have HD2 := Lib.hid (fun w (v1 : Value) (h : DuB W w b v1 b2 v2 (p.drop (pair x.repo x.tag)).2 p g 46 (⟨ak, x⟩ : TA).cells) => dropR_any h.du.rt hlp x.repo x.tag)
                have hdc := drop_count HB7.out.du.lw.good (pair x.repo x.tag)
                have hM : (p.drop (pair x.repo x.tag)).2.most = most := hmost
                unfold ResT at HD2
                simp only [hdc] at HD2
                generalize (p.get (pair x.repo x.tag)).isSome = qo at *
                have HDL : Hid (Nmd.del nm (pair x.repo x.tag) p.l = (p.drop (pair x.repo x.tag)).2.l) := Lib.hid rfl
                clear k1 k2 hdc
                go_upto_region 16 with (fail)
                clear qk qk2
                refine Ordl.begins (S := fun w => w.cell? ⟨g, 1, none⟩ = some (.string ⟨x.repo.toArray⟩) ∧ w.cell? ⟨g, 2, none⟩ = some (.string ⟨x.tag.toArray⟩)) (z := 99) (by kernel_rfl) ?_
                refine Ordl.Bx.out (?_ : Ordl.Bx (Ordl.Any _ _ _ _ _ _ _ _ _ _))
                have HB8 := Lib.hid (HB7.out.ext (Reg.Ext.drew w7))
                clear HB7
                generalize w7.drew = w8 at *
                have X0 : w8.cell? ⟨g, 1, none⟩ = some (.string ⟨x.repo.toArray⟩) ∧ w8.cell? ⟨g, 2, none⟩ = some (.string ⟨x.tag.toArray⟩) := ⟨HB8.out.c1, HB8.out.c2⟩
                refine Ordl.take (i := 0) (v := .pointer (some ⟨b, 0, none⟩)) rfl (by kernel_rfl) (by kernel_rfl) (by kernel_rfl) (by kernel_rfl) (fun _ _ _ h => h) (.inl ⟨by kernel_rfl, fun w _ => by as_aux_lemma => kernel_rfl⟩) X0 ?_
                simp only [List.getElem_toArray, List.getElem_cons_succ, List.getElem_cons_zero, Act.put, Act.eval, List.setIfInBounds_toArray, List.set_cons_zero, List.set_cons_succ, Nat.reduceAdd, Array.getD_eq_getD_getElem?, List.getElem?_toArray, List.getElem?_cons_succ, List.getElem?_cons_zero, Option.getD_some]
                refine Ordl.take (i := 1) (v := .pointer (some ⟨g, 1, none⟩)) rfl (by kernel_rfl) (by kernel_rfl) (by kernel_rfl) (by kernel_rfl) (fun _ _ _ h => h) (.inl ⟨by kernel_rfl, fun w _ => by as_aux_lemma => kernel_rfl⟩) X0 ?_
                simp only [List.getElem_toArray, List.getElem_cons_succ, List.getElem_cons_zero, Act.put, Act.eval, List.setIfInBounds_toArray, List.set_cons_zero, List.set_cons_succ, Nat.reduceAdd, Array.getD_eq_getD_getElem?, List.getElem?_toArray, List.getElem?_cons_succ, List.getElem?_cons_zero, Option.getD_some]
                refine Ordl.take (i := 2) (v := .pointer (some ⟨g, 1, none⟩)) rfl (by kernel_rfl) (by kernel_rfl) (by kernel_rfl) (by kernel_rfl) (fun _ _ _ h => h) (.inl ⟨by kernel_rfl, fun w _ => by as_aux_lemma => kernel_rfl⟩) X0 ?_
                simp only [List.getElem_toArray, List.getElem_cons_succ, List.getElem_cons_zero, Act.put, Act.eval, List.setIfInBounds_toArray, List.set_cons_zero, List.set_cons_succ, Nat.reduceAdd, Array.getD_eq_getD_getElem?, List.getElem?_toArray, List.getElem?_cons_succ, List.getElem?_cons_zero, Option.getD_some]
                refine Ordl.take (i := 3) (v := .string ⟨x.repo.toArray⟩) rfl (by kernel_rfl) (by kernel_rfl) (by kernel_rfl) (by kernel_rfl) (fun _ _ _ h => h) (yields_load1 (by kernel_rfl) 9 (.tmp 68) rfl ⟨g, 1, none⟩ (by kernel_rfl) (.string ⟨x.repo.toArray⟩) _ Tryd.underlying9 rfl (fun w h => h.1)) X0 ?_
                simp only [List.getElem_toArray, List.getElem_cons_succ, List.getElem_cons_zero, Act.put, Act.eval, List.setIfInBounds_toArray, List.set_cons_zero, List.set_cons_succ, Nat.reduceAdd, Array.getD_eq_getD_getElem?, List.getElem?_toArray, List.getElem?_cons_succ, List.getElem?_cons_zero, Option.getD_some]
                refine Ordl.take (i := 4) (v := .pointer (some ⟨g, 1, none⟩)) rfl (by kernel_rfl) (by kernel_rfl) (by kernel_rfl) (by kernel_rfl) (fun _ _ _ h => h) (.inl ⟨by kernel_rfl, fun w _ => by as_aux_lemma => kernel_rfl⟩) X0 ?_
                simp only [List.getElem_toArray, List.getElem_cons_succ, List.getElem_cons_zero, Act.put, Act.eval, List.setIfInBounds_toArray, List.set_cons_zero, List.set_cons_succ, Nat.reduceAdd, Array.getD_eq_getD_getElem?, List.getElem?_toArray, List.getElem?_cons_succ, List.getElem?_cons_zero, Option.getD_some]
                refine Ordl.take (i := 5) (v := .pointer (some ⟨g, 2, none⟩)) rfl (by kernel_rfl) (by kernel_rfl) (by kernel_rfl) (by kernel_rfl) (fun _ _ _ h => h) (.inl ⟨by kernel_rfl, fun w _ => by as_aux_lemma => kernel_rfl⟩) X0 ?_
                simp only [List.getElem_toArray, List.getElem_cons_succ, List.getElem_cons_zero, Act.put, Act.eval, List.setIfInBounds_toArray, List.set_cons_zero, List.set_cons_succ, Nat.reduceAdd, Array.getD_eq_getD_getElem?, List.getElem?_toArray, List.getElem?_cons_succ, List.getElem?_cons_zero, Option.getD_some]
                refine Ordl.take (i := 6) (v := .string ⟨x.tag.toArray⟩) rfl (by kernel_rfl) (by kernel_rfl) (by kernel_rfl) (by kernel_rfl) (fun _ _ _ h => h) (yields_load1 (by kernel_rfl) 9 (.tmp 71) rfl ⟨g, 2, none⟩ (by kernel_rfl) (.string ⟨x.tag.toArray⟩) _ Tryd.underlying9 rfl (fun w h => h.2)) X0 ?_
                simp only [List.getElem_toArray, List.getElem_cons_succ, List.getElem_cons_zero, Act.put, Act.eval, List.setIfInBounds_toArray, List.set_cons_zero, List.set_cons_succ, Nat.reduceAdd, Array.getD_eq_getD_getElem?, List.getElem?_toArray, List.getElem?_cons_succ, List.getElem?_cons_zero, Option.getD_some]
                refine Ordl.take (i := 8) (v := .pointer (some ⟨b2, 0, none⟩)) rfl (by kernel_rfl) (by kernel_rfl) (by kernel_rfl) (by kernel_rfl) (fun _ _ _ h => h) (.inl ⟨by kernel_rfl, fun w _ => by as_aux_lemma => kernel_rfl⟩) X0 ?_
                simp only [List.getElem_toArray, List.getElem_cons_succ, List.getElem_cons_zero, Act.put, Act.eval, List.setIfInBounds_toArray, List.set_cons_zero, List.set_cons_succ, Nat.reduceAdd, Array.getD_eq_getD_getElem?, List.getElem?_toArray, List.getElem?_cons_succ, List.getElem?_cons_zero, Option.getD_some]
                refine Ordl.take (i := 9) (v := .pointer (some ⟨g, 1, none⟩)) rfl (by kernel_rfl) (by kernel_rfl) (by kernel_rfl) (by kernel_rfl) (fun _ _ _ h => h) (.inl ⟨by kernel_rfl, fun w _ => by as_aux_lemma => kernel_rfl⟩) X0 ?_
                simp only [List.getElem_toArray, List.getElem_cons_succ, List.getElem_cons_zero, Act.put, Act.eval, List.setIfInBounds_toArray, List.set_cons_zero, List.set_cons_succ, Nat.reduceAdd, Array.getD_eq_getD_getElem?, List.getElem?_toArray, List.getElem?_cons_succ, List.getElem?_cons_zero, Option.getD_some]
                refine Ordl.take (i := 10) (v := .pointer (some ⟨g, 1, none⟩)) rfl (by kernel_rfl) (by kernel_rfl) (by kernel_rfl) (by kernel_rfl) (fun _ _ _ h => h) (.inl ⟨by kernel_rfl, fun w _ => by as_aux_lemma => kernel_rfl⟩) X0 ?_
                simp only [List.getElem_toArray, List.getElem_cons_succ, List.getElem_cons_zero, Act.put, Act.eval, List.setIfInBounds_toArray, List.set_cons_zero, List.set_cons_succ, Nat.reduceAdd, Array.getD_eq_getD_getElem?, List.getElem?_toArray, List.getElem?_cons_succ, List.getElem?_cons_zero, Option.getD_some]
                refine Ordl.take (i := 11) (v := .string ⟨x.repo.toArray⟩) rfl (by kernel_rfl) (by kernel_rfl) (by kernel_rfl) (by kernel_rfl) (fun _ _ _ h => h) (yields_load1 (by kernel_rfl) 9 (.tmp 76) rfl ⟨g, 1, none⟩ (by kernel_rfl) (.string ⟨x.repo.toArray⟩) _ Tryd.underlying9 rfl (fun w h => h.1)) X0 ?_
                simp only [List.getElem_toArray, List.getElem_cons_succ, List.getElem_cons_zero, Act.put, Act.eval, List.setIfInBounds_toArray, List.set_cons_zero, List.set_cons_succ, Nat.reduceAdd, Array.getD_eq_getD_getElem?, List.getElem?_toArray, List.getElem?_cons_succ, List.getElem?_cons_zero, Option.getD_some]
                refine Ordl.take (i := 12) (v := .pointer (some ⟨g, 1, none⟩)) rfl (by kernel_rfl) (by kernel_rfl) (by kernel_rfl) (by kernel_rfl) (fun _ _ _ h => h) (.inl ⟨by kernel_rfl, fun w _ => by as_aux_lemma => kernel_rfl⟩) X0 ?_
                simp only [List.getElem_toArray, List.getElem_cons_succ, List.getElem_cons_zero, Act.put, Act.eval, List.setIfInBounds_toArray, List.set_cons_zero, List.set_cons_succ, Nat.reduceAdd, Array.getD_eq_getD_getElem?, List.getElem?_toArray, List.getElem?_cons_succ, List.getElem?_cons_zero, Option.getD_some]
                refine Ordl.take (i := 13) (v := .pointer (some ⟨g, 2, none⟩)) rfl (by kernel_rfl) (by kernel_rfl) (by kernel_rfl) (by kernel_rfl) (fun _ _ _ h => h) (.inl ⟨by kernel_rfl, fun w _ => by as_aux_lemma => kernel_rfl⟩) X0 ?_
                simp only [List.getElem_toArray, List.getElem_cons_succ, List.getElem_cons_zero, Act.put, Act.eval, List.setIfInBounds_toArray, List.set_cons_zero, List.set_cons_succ, Nat.reduceAdd, Array.getD_eq_getD_getElem?, List.getElem?_toArray, List.getElem?_cons_succ, List.getElem?_cons_zero, Option.getD_some]
                refine Ordl.take (i := 14) (v := .string ⟨x.tag.toArray⟩) rfl (by kernel_rfl) (by kernel_rfl) (by kernel_rfl) (by kernel_rfl) (fun _ _ _ h => h) (yields_load1 (by kernel_rfl) 9 (.tmp 79) rfl ⟨g, 2, none⟩ (by kernel_rfl) (.string ⟨x.tag.toArray⟩) _ Tryd.underlying9 rfl (fun w h => h.2)) X0 ?_
                simp only [List.getElem_toArray, List.getElem_cons_succ, List.getElem_cons_zero, Act.put, Act.eval, List.setIfInBounds_toArray, List.set_cons_zero, List.set_cons_succ, Nat.reduceAdd, Array.getD_eq_getD_getElem?, List.getElem?_toArray, List.getElem?_cons_succ, List.getElem?_cons_zero, Option.getD_some]
                refine Ordl.one (i := 7) (by kernel_rfl) rfl ?_
                refine ⟨?_⟩
                repeat go_step
                refine (HD1.out _ HB8.out).mono ?_
                rintro e w9 ⟨rfl, v9, hl9, ht9⟩
                have HB9 := Lib.hid (HB8.out.left ht9 hl9)
                have X1 : w9.cell? ⟨g, 1, none⟩ = some (.string ⟨x.repo.toArray⟩) ∧ w9.cell? ⟨g, 2, none⟩ = some (.string ⟨x.tag.toArray⟩) := ⟨HB9.out.c1, HB9.out.c2⟩
                clear hl9 ht9 X0 HB8 HD1
                rename_i hK
                refine hK _ _ ?_
                clear hK
                refine Ordl.Bx.out (?_ : Ordl.Bx _)
                refine Ordl.fin X1 ?_
                clear X1
                refine Ordl.one (i := 15) (by kernel_rfl) rfl ?_
                refine ⟨?_⟩
                repeat go_step
                refine (HD2.out _ _ HB9.out).mono ?_
                rintro e w10 ⟨rfl, v10, hb10, ht10⟩
                rw [HDL.out] at hb10
                have HB10 := Lib.hid (HB9.out.right (r' := (p.drop (pair x.repo x.tag)).2) ht10 hb10)
                have X0 : w10.cell? ⟨g, 1, none⟩ = some (.string ⟨x.repo.toArray⟩) ∧ w10.cell? ⟨g, 2, none⟩ = some (.string ⟨x.tag.toArray⟩) := ⟨HB10.out.c1, HB10.out.c2⟩
                clear hb10 ht10 HB9 HD2
                rename_i hK
                refine hK _ _ ?_
                clear hK
                refine Ordl.Bx.out (?_ : Ordl.Bx _)
                refine Ordl.fin X0 ?_
                refine Ordl.take (i := 16) (v := .bool (qo != qo)) rfl (by kernel_rfl) (by kernel_rfl) (by kernel_rfl) (by kernel_rfl) (fun _ _ _ h => h) (.inl ⟨by kernel_rfl, fun w _ => by as_aux_lemma => kernel_rfl⟩) X0 ?_
                simp only [List.getElem_toArray, List.getElem_cons_succ, List.getElem_cons_zero, Act.put, Act.eval, List.setIfInBounds_toArray, List.set_cons_zero, List.set_cons_succ, Nat.reduceAdd, Array.getD_eq_getD_getElem?, List.getElem?_toArray, List.getElem?_cons_succ, List.getElem?_cons_zero, Option.getD_some]
                rw [show (qo != qo) = false from bne_self_eq_false qo]
                refine Ordl.done (by kernel_rfl) ?_ _
                clear X0
                go_wp2_with fail
                go_meet
                exact ⟨_, hM, Lib.hid ⟨_, _, HB10.out.du⟩⟩
                -- K3}
            case rest =>
              -- {R
              obtain ⟨p1, hm1, HS1⟩ := hcut
              obtain ⟨v1, v3, hd1⟩ := HS1.out
              have HD1 := Lib.hid hd1
              have hrow := hd1.rt.row.slice
              obtain ⟨A3, cap3, hv3⟩ := hrow
              subst hv3
              clear hd1 HS1 HB7
              go_upto_region 31 with (fail)
              have qB : ((p1.l.length : Int) != (p1.l.length : Int)) = false := bne_self_eq_false _
              have c0 := HD1.out.rt.c.1
              have HLE := Lib.hid (fun w (h : Reg.Ext wc w) => len_any (HD1.out.ext h).lw.tb)
              go_quiet (first
                | (go_at_call 21; exact Calls.quiet_of_same (HLE.out _ (Reg.Ext.drewN _ _))))
              have HDx := Lib.hid (HD1.out.ext (Reg.Ext.drewN wc nq))
              generalize wc.drewN nq = wd at *
              clear c0 HLE HD1
              go_wp2_with fail
              go_roundw
              case rel => exact ⟨j + 1, p1, by go_num, by omega, by omega, hm1, Lib.hid ⟨_, _, HDx.out⟩⟩
              case measure => simp [intOf]; omega
              -- R}
        · have hje : j = 150 := by omega
          subst hje
          go_wp2_with fail
          go_meet
          exact ⟨p, hmost, HS⟩
      · have hje : j = us.length := by omega
        subst hje
        go_wp2_with fail
        go_meet
        exact ⟨p, hmost, HS⟩
    -- F}
  case rest =>
   as_aux_lemma =>
    -- {T
    obtain ⟨p, hmost, HS⟩ := hcut
    obtain ⟨v, v2, hd⟩ := HS.out
    obtain ⟨A3, cap3, hv3⟩ := hd.rt.row.slice
    subst hv3
    have hlp : p.l.length ≤ 1000 := by have := hd.lw.good.most; omega
    have HLI := Lib.hid (fun w (h : Reg.Ext wc w) => (hd.lw.ext h).list (show p.most ≤ 64 by omega))
    have HD := Lib.hid hd
    have HFT := Lib.hid hd.rt.fit
    clear hd HS HD0
    go_upto_region 33 with (fail)
    refine Ordl.begins (S := fun w' => Reg.Ext (wc).drew w') (z := 99) (by kernel_rfl) ?_
    refine Ordl.Bx.out (?_ : Ordl.Bx (Ordl.Any _ _ _ _ _ _ _ _ _ _))
    have X0 : Reg.Ext (wc).drew (wc).drew := Reg.Ext.refl _
    have HDd := Lib.hid (HD.out.ext (Reg.Ext.drew wc))
    have HLJ := Lib.hid (fun w (h : Reg.Ext wc.drew w) => HLI.out w ((Reg.Ext.drew wc).trans h))
    clear HLI HD
    generalize wc.drew = w4 at *
    have d0 := HDd.out.rt.c.1
    refine Ordl.take (i := 0) (v := .pointer (some ⟨b, 0, none⟩)) rfl (by kernel_rfl) (by kernel_rfl) (by kernel_rfl) (by kernel_rfl) (fun _ _ _ h => h) (.inl ⟨by kernel_rfl, fun w _ => by as_aux_lemma => kernel_rfl⟩) X0 ?_
    simp only [List.getElem_toArray, List.getElem_cons_succ, List.getElem_cons_zero, Act.put, Act.eval, List.setIfInBounds_toArray, List.set_cons_zero, List.set_cons_succ, Nat.reduceAdd, Array.getD_eq_getD_getElem?, List.getElem?_toArray, List.getElem?_cons_succ, List.getElem?_cons_zero, Option.getD_some]
    refine Ordl.take (i := 2) (v := .pointer (some ⟨b2, 0, none⟩)) rfl (by kernel_rfl) (by kernel_rfl) (by kernel_rfl) (by kernel_rfl) (fun _ _ _ h => h) (.inl ⟨by kernel_rfl, fun w _ => by as_aux_lemma => kernel_rfl⟩) X0 ?_
    simp only [List.getElem_toArray, List.getElem_cons_succ, List.getElem_cons_zero, Act.put, Act.eval, List.setIfInBounds_toArray, List.set_cons_zero, List.set_cons_succ, Nat.reduceAdd, Array.getD_eq_getD_getElem?, List.getElem?_toArray, List.getElem?_cons_succ, List.getElem?_cons_zero, Option.getD_some]
    refine Ordl.take (i := 3) (v := .pointer (some ⟨b2, 0, none⟩)) rfl (by kernel_rfl) (by kernel_rfl) (by kernel_rfl) (by kernel_rfl) (fun _ _ _ h => h) (.inl ⟨by kernel_rfl, fun w _ => by as_aux_lemma => kernel_rfl⟩) X0 ?_
    simp only [List.getElem_toArray, List.getElem_cons_succ, List.getElem_cons_zero, Act.put, Act.eval, List.setIfInBounds_toArray, List.set_cons_zero, List.set_cons_succ, Nat.reduceAdd, Array.getD_eq_getD_getElem?, List.getElem?_toArray, List.getElem?_cons_succ, List.getElem?_cons_zero, Option.getD_some]
    refine Ordl.take (i := 4) (v := .pointer (some ⟨b2, 0, none⟩)) rfl (by kernel_rfl) (by kernel_rfl) (by kernel_rfl) (by kernel_rfl) (fun _ _ _ h => h) (.inl ⟨by kernel_rfl, fun w _ => by as_aux_lemma => kernel_rfl⟩) X0 ?_
    simp only [List.getElem_toArray, List.getElem_cons_succ, List.getElem_cons_zero, Act.put, Act.eval, List.setIfInBounds_toArray, List.set_cons_zero, List.set_cons_succ, Nat.reduceAdd, Array.getD_eq_getD_getElem?, List.getElem?_toArray, List.getElem?_cons_succ, List.getElem?_cons_zero, Option.getD_some]
    refine Ordl.take (i := 5) (v := .slice A3 p.l.length cap3) rfl (by kernel_rfl) (by kernel_rfl) (by kernel_rfl) (by kernel_rfl) (fun _ _ _ h => h) (yields_load1 (by kernel_rfl) 42 (.tmp 170) rfl ⟨b2, 0, none⟩ (by kernel_rfl) (.slice A3 p.l.length cap3) _ Tryd.underlying42 rfl (fun w h => h.at_ d0)) X0 ?_
    simp only [List.getElem_toArray, List.getElem_cons_succ, List.getElem_cons_zero, Act.put, Act.eval, List.setIfInBounds_toArray, List.set_cons_zero, List.set_cons_succ, Nat.reduceAdd, Array.getD_eq_getD_getElem?, List.getElem?_toArray, List.getElem?_cons_succ, List.getElem?_cons_zero, Option.getD_some]
    refine Ordl.one (i := 1) (by kernel_rfl) rfl ?_
    refine ⟨?_⟩
    repeat go_step
    refine (HLJ.out _ X0).mono ?_
    rintro e w5 ⟨v5, rfl, hr5, hx5⟩
    have X1 := X0.trans hx5
    have HD5 := Lib.hid (HDd.out.ext X1)
    have HR5 := Lib.hid hr5
    clear X0 hr5 hx5 HLJ d0 HDd
    rename_i hK
    refine hK _ _ ?_
    clear hK
    refine Ordl.Bx.out (?_ : Ordl.Bx _)
    refine Ordl.fin X1 ?_
    refine Ordl.one (i := 6) (by kernel_rfl) rfl ?_
    refine ⟨?_⟩
    repeat go_step
    refine (sameR_any HR5.out HFT.out HD5.out.rt.row HFT.out hlp).mono ?_
    rintro e w6 ⟨rfl, hx6⟩
    have X0 := X1.trans hx6
    have HX6 := Lib.hid (HD5.out.lw.base.trans hx6)
    clear X1 hx6 HD5 HR5
    rename_i hK
    refine hK _ _ ?_
    clear hK
    refine Ordl.Bx.out (?_ : Ordl.Bx _)
    refine Ordl.fin X0 ?_
    first | rw [show decide (p.l = p.l) = true from decide_eq_true rfl] | skip
    refine Ordl.take (i := 7) (v := .bool true) rfl (by kernel_rfl) (by kernel_rfl) (by kernel_rfl) (by kernel_rfl) (fun _ _ _ h => h) (.inl ⟨by kernel_rfl, fun w _ => by as_aux_lemma => kernel_rfl⟩) X0 ?_
    simp only [List.getElem_toArray, List.getElem_cons_succ, List.getElem_cons_zero, Act.put, Act.eval, List.setIfInBounds_toArray, List.set_cons_zero, List.set_cons_succ, Nat.reduceAdd, Array.getD_eq_getD_getElem?, List.getElem?_toArray, List.getElem?_cons_succ, List.getElem?_cons_zero, Option.getD_some]
    refine Ordl.done (by kernel_rfl) ?_ _
    clear X0
    go_wp2_with fail
    go_ret
    exact ⟨rfl, HX6.out⟩
    -- T}
end Tk
end Go.Proofs.YtcfdlfedmbmidaaDoor

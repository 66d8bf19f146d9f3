/- Package place: refer. -/
import Derived.Test.YtdoplndijlfabaaDoorPlaceGood
import Derived.Test.YtdoplndijlfabaaDoorBufS
set_option linter.unusedSimpArgs false
set_option linter.unusedVariables false
set_option linter.unusedSectionVars false
namespace Go.Proofs.YtdoplndijlfabaaDoor
open Go.RowKit
namespace Pl
open Rte
theorem hasS_any (s p : ByteArray) (w : World) (hs : s.size ≤ 4611686018427387904) (hp : p.size ≤ 4611686018427387904) :
    Calls Tryd.prog 37 #[.string s, .string p] w fun e w' => e = .returned (.bool (Pre.has p.data.toList s.data.toList)) ∧ w = w' := by
  go_enter Tryd.func37, Tryd.ntmps37
  go_wp2_with fail
  refine (Pre.hasI_any s p w hs hp).mono ?_
  rintro e w' ⟨rfl, rfl⟩
  go_wp2_with fail
  go_ret
  exact ⟨rfl, rfl⟩
theorem z35 : (#[Value.int .i64 0, .string ⟨#[]⟩, .string ⟨#[]⟩, Value.int .u8 0, Value.int .u8 0, Value.int .u8 0, Value.int .u8 0, Value.int .u8 0, Value.int .u8 0, Value.int .u8 0, Value.int .u8 0, Value.int .u8 0, Value.int .u8 0, Value.int .u8 0, Value.int .u8 0, Value.int .u8 0, Value.int .u8 0, Value.int .u8 0, Value.int .u8 0, Value.int .u8 0, Value.int .u8 0, Value.int .u8 0, Value.int .u8 0, Value.int .u8 0, Value.int .u8 0, Value.int .u8 0, Value.int .u8 0, Value.int .u8 0, Value.int .u8 0, Value.int .u8 0, Value.int .u8 0, Value.int .u8 0, Value.int .u8 0, Value.int .u8 0, Value.int .u8 0] : Array Value) = S.none.cells.toArray := by rfl
theorem z32 : (#[Value.int .u8 0, Value.int .u8 0, Value.int .u8 0, Value.int .u8 0, Value.int .u8 0, Value.int .u8 0, Value.int .u8 0, Value.int .u8 0, Value.int .u8 0, Value.int .u8 0, Value.int .u8 0, Value.int .u8 0, Value.int .u8 0, Value.int .u8 0, Value.int .u8 0, Value.int .u8 0, Value.int .u8 0, Value.int .u8 0, Value.int .u8 0, Value.int .u8 0, Value.int .u8 0, Value.int .u8 0, Value.int .u8 0, Value.int .u8 0, Value.int .u8 0, Value.int .u8 0, Value.int .u8 0, Value.int .u8 0, Value.int .u8 0, Value.int .u8 0, Value.int .u8 0, Value.int .u8 0] : Array Value) = (zeros.map byteV).toArray := by rfl
def rouV (p : S × Int) : Value := .tuple #[.agg p.1.cells.toArray, .int .i64 p.2]
def start (repo : ByteArray) : S := ⟨0, repo, noStr, zeros⟩
set_option maxRecDepth 100000 in
set_option maxHeartbeats 8000000 in
theorem refer_any (repo word ref : ByteArray) (w : World) (h3 : ref.size ≤ 274877906944) :
    Calls Tryd.prog 21 #[.agg (start repo).cells.toArray, .string word, .string ref] w fun e w' => e = .returned (rouV (referP repo word.data.toList ref.data.toList)) ∧ Reg.Ext w w' := by
  have hb := boxS w (start repo)
  have hx := Reg.Ext.alloc w (Obj.cells (start repo).cells.toArray 26)
  have hs := (show (w.alloc (Obj.cells (start repo).cells.toArray 26)).heap.size = w.heap.size + 1 from Array.size_push _)
  have tm := test_lit word manL
  have tb := test_lit word blobL
  unfold manL at tm
  unfold blobL at tb
  go_enter Tryd.func21, Tryd.ntmps21
  go_upto_region 1 with (fail)
  rw [z35]
  generalize w.alloc (Obj.cells (start repo).cells.toArray 26) = w0 at *
  have hb1 := boxS w0 S.none
  have hx1 := Reg.Ext.alloc w0 (Obj.cells S.none.cells.toArray 26)
  rw [hs] at hb1
  have hb0 := hb.ext hx1
  have hx0 := hx.trans hx1
  generalize w0.alloc (Obj.cells S.none.cells.toArray 26) = w1 at *
  have HR := Lib.hid hb1
  have HY := Lib.hid hb0
  have HX := Lib.hid hx0
  have hgr : w.heap.size ≤ w.heap.size + 1 := by omega
  have hg3 : w.heap.size ≤ w.heap.size := Nat.le_refl _
  have hne : w.heap.size ≠ w.heap.size + 1 := by omega
  clear hb hx hs hb1 hx1 hb0 hx0
  generalize w.heap.size + 1 = gr at *
  obtain ⟨g3, hgg⟩ : ∃ g, w.heap.size = g := ⟨_, rfl⟩
  rw [hgg] at HY hne ⊢
  have hg3 : w.heap.size ≤ g3 := by omega
  clear hgg
  have hrf : referP repo word.data.toList ref.data.toList = (if word.data.toList = manL ∧ Pre.has Stp.pA ref.data.toList = false then (if tagP ref.data.toList = true then ((⟨2, repo, ⟨ref.data.toList.toArray⟩, zeros⟩, 0) : S × Int) else (S.none, 3)) else match Stp.beh Stp.pA ref.data.toList with
    | some d => (⟨if word.data.toList = blobL then 4 else 3, repo, noStr, d⟩, 0)
    | none => (S.none, 3) : S × Int) := rfl
  rw [ba_data ref] at hrf
  have HRF := Lib.hid hrf
  clear hrf
  by_cases hm : word.data.toList = manL
  · have tm1 : (word.toList == [109, 97, 110, 105, 102, 101, 115, 116, 115]) = true := by rw [tm]; exact decide_eq_true hm
    have tb1 : (word.toList == [98, 108, 111, 98, 115]) = false := by rw [tb, hm]; rfl
    clear tm tb
    go_wp2_with fail
    refine (hasS_any ref ⟨Stp.pA.toArray⟩ w1 (by omega) (by decide)).mono ?_
    rintro e w' ⟨rfl, rfl⟩
    rw [lst]
    cases hh : Pre.has Stp.pA ref.data.toList with
    | false =>
      have hv := HRF.out
      rw [if_pos ⟨hm, hh⟩] at hv
      have HV1 := Lib.hid hv
      clear hh hm hv
      go_wp2_with fail
      refine (tag_any ref w1).mono ?_
      rintro e w2 ⟨rfl, x2⟩
      have HX2 := Lib.hid (HX.out.trans x2)
      have HY2 := Lib.hid (HY.out.ext x2)
      have HR2 := Lib.hid (HR.out.ext x2)
      clear x2 HX HY HR
      cases ht : tagP ref.data.toList with
      | false =>
        have HV := Lib.hid (show rouV (referP repo word.data.toList ref.data.toList) = .tuple #[.agg S.none.cells.toArray, .int .i64 3] by rw [HV1.out, ht]; rfl)
        clear ht
        go_upto_region 3 with (fail)
        refine wp_region_lit ?_
        refine wpList_val rfl (.agg S.none.cells.toArray) (by as_aux_lemma => kernel_rfl) ?_
        simp only [Act.put, Act.eval, List.setIfInBounds_toArray, List.set_cons_zero, List.set_cons_succ, Nat.reduceAdd, Array.getD_eq_getD_getElem?, List.getElem?_toArray, List.getElem?_cons_succ, List.getElem?_cons_zero, Option.getD_some]
        refine wpList_store_mid rfl 26 _ _ rfl gr 0 ((S.none).cells).toArray rfl rfl (HR2.out.there _ (by rw [List.size_toArray]; have a1 := cells_length (S.none) none_dig; have a2 := cells_length S.none none_dig; omega)) (by rw [List.size_toArray, cells_length _ none_dig]; exact size35) (all_oneCell_toArray (oneS _)) ?_
        simp only [List.toList_toArray]
        simp only [Act.put, Act.eval, List.setIfInBounds_toArray, List.set_cons_zero, List.set_cons_succ, Nat.reduceAdd, Array.getD_eq_getD_getElem?, List.getElem?_toArray, List.getElem?_cons_succ, List.getElem?_cons_zero, Option.getD_some]
        have HN := Lib.hid (HR2.out.setAll ((S.none).cells) (by have a1 := cells_length (S.none) none_dig; have a2 := cells_length S.none none_dig; omega))
        have XN := Lib.hid (HX2.out.trans_but (But.setCells gr ((S.none).cells) 0 w2) hgr)
        generalize w2.setCells gr 0 ((S.none).cells) = wn at *
        go_wp2_with fail
        exact bodyPost_ret (results_row2 rfl _ _ gr 26 ((S.none).cells).toArray (0, 0) _ rfl HN.out undS rfl (by rw [List.size_toArray, cells_length _ none_dig]; exact size35)) rfl ⟨by rw [HV.out]; rfl, XN.out⟩
      | true =>
        have HV := Lib.hid (show rouV (referP repo word.data.toList ref.data.toList) = .tuple #[.agg (⟨2, repo, ref, zeros⟩ : S).cells.toArray, .int .i64 0] by rw [HV1.out, ht]; rfl)
        clear ht
        have c0 : w2.cell? ⟨g3, 0, none⟩ = some (.int .i64 0) := HY2.out.cell 0
        have c2 : w2.cell? ⟨g3, 2, none⟩ = some (.string noStr) := HY2.out.cell 2
        have f0 := HY2.out.frozen 0
        have f2 := HY2.out.frozen 2
        have hs := (HY2.out.set_ 0 (.int .i64 2)).set_ 2 (.string ref)
        rw [set0, set2] at hs
        have hbt := (But.set_ g3 w2 0 (.int .i64 2)).trans (But.set_ g3 _ 2 (.string ref))
        have HS := Lib.hid hs
        have HBT := Lib.hid hbt
        clear hs hbt
        go_upto_region 5 with (fail)
        clear c0 c2 f0 f2
        generalize (w2.setCell ⟨g3, 0, none⟩ (.int .i64 2)).setCell ⟨g3, 2, none⟩ (.string ref) = w3 at *
        have HR3 := Lib.hid (HR2.out.but HBT.out (Ne.symm hne))
        have HX3 := Lib.hid (HX2.out.trans_but HBT.out hg3)
        have HS3 : Hid (Blk w3 g3 26 (⟨2, repo, ref, zeros⟩ : S).cells) := HS.out
        refine wp_region_lit ?_
        refine wpList_rt rfl _ rfl g3 rfl _ (⟨2, repo, ref, zeros⟩ : S) zeros_len HS3 ?_
        simp only [Act.put, Act.eval, List.setIfInBounds_toArray, List.set_cons_zero, List.set_cons_succ, Nat.reduceAdd, Array.getD_eq_getD_getElem?, List.getElem?_toArray, List.getElem?_cons_succ, List.getElem?_cons_zero, Option.getD_some]
        refine wpList_store_mid rfl 26 _ _ rfl gr 0 (((⟨2, repo, ref, zeros⟩ : S)).cells).toArray rfl rfl (HR3.out.there _ (by rw [List.size_toArray]; have a1 := cells_length ((⟨2, repo, ref, zeros⟩ : S)) zeros_len; have a2 := cells_length S.none none_dig; omega)) (by rw [List.size_toArray, cells_length _ zeros_len]; exact size35) (all_oneCell_toArray (oneS _)) ?_
        simp only [List.toList_toArray]
        simp only [Act.put, Act.eval, List.setIfInBounds_toArray, List.set_cons_zero, List.set_cons_succ, Nat.reduceAdd, Array.getD_eq_getD_getElem?, List.getElem?_toArray, List.getElem?_cons_succ, List.getElem?_cons_zero, Option.getD_some]
        have HN := Lib.hid (HR3.out.setAll (((⟨2, repo, ref, zeros⟩ : S)).cells) (by have a1 := cells_length ((⟨2, repo, ref, zeros⟩ : S)) zeros_len; have a2 := cells_length S.none none_dig; omega))
        have XN := Lib.hid (HX3.out.trans_but (But.setCells gr (((⟨2, repo, ref, zeros⟩ : S)).cells) 0 w3) hgr)
        generalize w3.setCells gr 0 (((⟨2, repo, ref, zeros⟩ : S)).cells) = wn at *
        go_wp2_with fail
        exact bodyPost_ret (results_row2 rfl _ _ gr 26 (((⟨2, repo, ref, zeros⟩ : S)).cells).toArray (0, 0) _ rfl HN.out undS rfl (by rw [List.size_toArray, cells_length _ zeros_len]; exact size35)) rfl ⟨by rw [HV.out]; rfl, XN.out⟩
    | true =>
      have hv := HRF.out
      rw [if_neg (fun h => by rw [hh] at h; cases h.2), if_neg (by rw [hm]; decide)] at hv
      have HV1 := Lib.hid hv
      clear hh hm hv
      go_wp2_with fail
      refine (Stp.parse_any ref w1 h3).mono ?_
      rintro e w2 ⟨rfl, x2⟩
      have HX2 := Lib.hid (HX.out.trans x2)
      have HY2 := Lib.hid (HY.out.ext x2)
      have HR2 := Lib.hid (HR.out.ext x2)
      clear x2 HX HY HR
      unfold Stp.parV
      obtain ⟨L, hL⟩ : ∃ L, L = Stp.behL Stp.pA ref.data.toList := ⟨_, rfl⟩
      have hl : L.length = 32 := by rw [hL]; exact Stp.behL_len _ _
      have HBB : Hid (Stp.behB Stp.pA ref.data.toList = true → Stp.beh Stp.pA ref.data.toList = some L) := fun h => by
        rw [hL]
        unfold Stp.behL
        unfold Stp.behB at h
        cases hb : Stp.beh Stp.pA ref.data.toList with
        | none => rw [hb] at h; cases h
        | some d => rfl
      have HBN : Hid (Stp.behB Stp.pA ref.data.toList = false → Stp.beh Stp.pA ref.data.toList = none) := fun h => by
        unfold Stp.behB at h
        cases hb : Stp.beh Stp.pA ref.data.toList with
        | none => rfl
        | some d => rw [hb] at h; cases h
      rw [← hL]
      clear hL
      generalize Stp.behB Stp.pA ref.data.toList = b at *
      rename_i hK
      refine hK _ _ ?_
      iterate 12 go_step
      rw [z32]
      have hbf := Stp.box_blk w2 zeros
      have hxf := Reg.Ext.alloc w2 (Obj.cells (zeros.map byteV).toArray 24)
      have hxs := hxf.trans_but (But.setCells w2.heap.size (L.map byteV) 0 _) (Nat.le_refl _)
      generalize w2.alloc (Obj.cells (zeros.map byteV).toArray 24) = wf at *
      have HBF := Lib.hid hbf
      clear hbf hxf
      refine wpList_store_mid rfl 24 _ _ rfl w2.heap.size 0 (L.map byteV).toArray rfl rfl (HBF.out.there _ (by rw [List.size_toArray, List.length_map, hl]; simp [zeros_len])) (by rw [List.size_toArray, List.length_map, hl]; kernel_rfl) ?_ ?_
      · refine all_oneCell_toArray fun v hv => ?_
        obtain ⟨x, _, rfl⟩ := List.mem_map.1 hv
        rfl
      simp only [List.toList_toArray]
      simp only [Act.put, Act.eval, List.setIfInBounds_toArray, List.set_cons_zero, List.set_cons_succ, Nat.reduceAdd, Array.getD_eq_getD_getElem?, List.getElem?_toArray, List.getElem?_cons_succ, List.getElem?_cons_zero, Option.getD_some]
      have hbs := HBF.out.setAll (L.map byteV) (by rw [List.length_map, List.length_map, hl, zeros_len])
      generalize wf.setCells w2.heap.size 0 (L.map byteV) = w3 at *
      have B3 := Lib.hid hbs
      have hg8 : g3 ≠ w2.heap.size := by have := HY2.out.lt; omega
      have HX3 := Lib.hid (HX2.out.trans hxs)
      have HY3 := Lib.hid (HY2.out.ext hxs)
      have HR3 := Lib.hid (HR2.out.ext hxs)
      clear hbs hxs HBF HX2 HY2 HR2
      generalize w2.heap.size = g8 at *
      cases b with
      | false =>
        have HV := Lib.hid (show rouV (referP repo word.data.toList ref.data.toList) = .tuple #[.agg S.none.cells.toArray, .int .i64 3] by rw [HV1.out, HBN.out rfl]; rfl)
        clear HBN HBB HV1
        go_upto_region 8 with (fail)
        refine wp_region_lit ?_
        refine wpList_val rfl (.agg S.none.cells.toArray) (by as_aux_lemma => kernel_rfl) ?_
        simp only [Act.put, Act.eval, List.setIfInBounds_toArray, List.set_cons_zero, List.set_cons_succ, Nat.reduceAdd, Array.getD_eq_getD_getElem?, List.getElem?_toArray, List.getElem?_cons_succ, List.getElem?_cons_zero, Option.getD_some]
        iterate 3 go_step
        refine wpList_store_mid rfl 26 _ _ rfl gr 0 ((S.none).cells).toArray rfl rfl (HR3.out.there _ (by rw [List.size_toArray]; have a1 := cells_length (S.none) none_dig; have a2 := cells_length S.none none_dig; omega)) (by rw [List.size_toArray, cells_length _ none_dig]; exact size35) (all_oneCell_toArray (oneS _)) ?_
        simp only [List.toList_toArray]
        simp only [Act.put, Act.eval, List.setIfInBounds_toArray, List.set_cons_zero, List.set_cons_succ, Nat.reduceAdd, Array.getD_eq_getD_getElem?, List.getElem?_toArray, List.getElem?_cons_succ, List.getElem?_cons_zero, Option.getD_some]
        have HN := Lib.hid (HR3.out.setAll ((S.none).cells) (by have a1 := cells_length (S.none) none_dig; have a2 := cells_length S.none none_dig; omega))
        have XN := Lib.hid (HX3.out.trans_but (But.setCells gr ((S.none).cells) 0 w3) hgr)
        generalize w3.setCells gr 0 ((S.none).cells) = wn at *
        go_wp2_with fail
        exact bodyPost_ret (results_row2 rfl _ _ gr 26 ((S.none).cells).toArray (0, 0) _ rfl HN.out undS rfl (by rw [List.size_toArray, cells_length _ none_dig]; exact size35)) rfl ⟨by rw [HV.out]; rfl, XN.out⟩
      | true =>
        have HV := Lib.hid (show rouV (referP repo word.data.toList ref.data.toList) = .tuple #[.agg (⟨3, repo, noStr, L⟩ : S).cells.toArray, .int .i64 0] by rw [HV1.out, HBB.out rfl]; rfl)
        clear HBN HBB HV1
        go_upto_region 9 with (fail)
        apply Rgp.wp_tab (GR (some g3)) Reg.Ext 2 4 (fun w1 => Blk w1 g3 26 (start repo).cells) (by kernel_rfl) (by kernel_rfl) (by kernel_rfl) Reg.Ext.refl (fun _ _ h => GR.of_ext h) (fun _ _ _ => GR.trans) (GR.drew (some g3) w3) (fun _ _ h k => k.ext h) (HY3.out.ext (Reg.Ext.drew w3))
        case h =>
          intro O
          apply Rgp.TW.pure_ (R := GR _) (Rs := Reg.Ext) (c := .agg (L.map byteV).toArray) (fun _ _ h => GR.of_ext h) rfl (Or.inr (by kernel_rfl))
          · intro w1 hw1 hf K hK
            simp only [Act.put, List.setIfInBounds_toArray, List.set_cons_zero, List.set_cons_succ] at hK
            have HK := Lib.hid hK
            clear hK
            unfold Reg.One; dsimp only
            have hb8 := B3.out.gr hw1 (by intro e; injection e with e; exact hg8 e.symm)
            clear hf
            refine wpList_load_row rfl 24 _ rfl g8 rfl 24 (L.map byteV).toArray (0, 0) _ hb8 Tryd.underlying24 rfl (by rw [List.size_toArray, List.length_map, hl]; kernel_rfl) ?_
            exact HK.out _ (Reg.Ext.refl _)
          · simp only [Act.put, Act.eval, List.setIfInBounds_toArray, List.set_cons_zero, List.set_cons_succ, Nat.reduceAdd, Array.getD_eq_getD_getElem?, List.getElem?_toArray, List.getElem?_cons_succ, List.getElem?_cons_zero, Option.getD_some]
            rfl
          repeat (first
            | (apply Rgp.TW.move_ (R := GR _) (Rs := Reg.Ext) (fun _ _ h => GR.of_ext h) Reg.Ext.refl _ rfl rfl
               · simp only [Act.put, Act.eval, List.setIfInBounds_toArray, List.set_cons_zero, List.set_cons_succ, Nat.reduceAdd, Array.getD_eq_getD_getElem?, List.getElem?_toArray, List.getElem?_cons_succ, List.getElem?_cons_zero, Option.getD_some]
                 rfl)
            | (apply Rgp.TW.assign_ (R := GR _) (Rs := Reg.Ext) (fun _ _ h => GR.of_ext h) Reg.Ext.refl _ rfl rfl
               · simp only [Act.put, Act.eval, List.setIfInBounds_toArray, List.set_cons_zero, List.set_cons_succ, Nat.reduceAdd, Array.getD_eq_getD_getElem?, List.getElem?_toArray, List.getElem?_cons_succ, List.getElem?_cons_zero, Option.getD_some]
                 rfl)
            | (apply Rgp.TW.skip_ rfl
               · simp only [Act.put, Act.eval, List.setIfInBounds_toArray, List.set_cons_zero, List.set_cons_succ, Nat.reduceAdd, Array.getD_eq_getD_getElem?, List.getElem?_toArray, List.getElem?_cons_succ, List.getElem?_cons_zero, Option.getD_some]
                 rfl)
            | (apply Rgp.TW.pure_ (R := GR _) (Rs := Reg.Ext) (fun _ _ h => GR.of_ext h) rfl (Or.inr (by kernel_rfl))
               · intro w1 hw1 hf K hK
                 simp only [Act.put, List.setIfInBounds_toArray, List.set_cons_zero, List.set_cons_succ] at hK
                 have HK := Lib.hid hK
                 clear hf hK
                 unfold Reg.One; dsimp only
                 go_wp2_with fail
                 exact HK.out _ (Reg.Ext.refl _)
               · simp only [Act.put, Act.eval, List.setIfInBounds_toArray, List.set_cons_zero, List.set_cons_succ, Nat.reduceAdd, Array.getD_eq_getD_getElem?, List.getElem?_toArray, List.getElem?_cons_succ, List.getElem?_cons_zero, Option.getD_some]
                 rfl))
          apply Rgp.TW.turn_ (R := GR (some g3)) (Rs := Reg.Ext) (hp := by rfl) (S := fun v w1 => Blk w1 g3 26 (⟨3, repo, noStr, zeros⟩ : S).cells)
          case h => rfl
          case hS => exact fun _ _ _ h k => k.ext h
          case hb => exact Or.inr (by kernel_rfl)
          · intro w1 hw1 hs1 hf K hK
            have HK := Lib.hid hK
            clear hK hf
            unfold Reg.One; dsimp only
            have c0 : w1.cell? ⟨g3, 0, none⟩ = some (.int .i64 0) := hs1.cell 0
            have f0 := hs1.frozen 0
            have hs := hs1.set_ 0 (.int .i64 3)
            rw [set0] at hs
            have HS := Lib.hid hs
            clear hs
            go_wp2_with fail
            exact HK.out undef _ (But.set_ g3 w1 0 (.int .i64 3)) HS.out
          intro v2 a2 ha
          simp only [Act.put, Act.eval, List.setIfInBounds_toArray, List.set_cons_zero, List.set_cons_succ, Nat.reduceAdd, Array.getD_eq_getD_getElem?, List.getElem?_toArray, List.getElem?_cons_succ, List.getElem?_cons_zero, Option.getD_some] at ha
          subst ha
          repeat (first
            | (apply Rgp.TW.move_ (R := GR _) (Rs := Reg.Ext) (fun _ _ h => GR.of_ext h) Reg.Ext.refl _ rfl rfl
               · simp only [Act.put, Act.eval, List.setIfInBounds_toArray, List.set_cons_zero, List.set_cons_succ, Nat.reduceAdd, Array.getD_eq_getD_getElem?, List.getElem?_toArray, List.getElem?_cons_succ, List.getElem?_cons_zero, Option.getD_some]
                 rfl)
            | (apply Rgp.TW.assign_ (R := GR _) (Rs := Reg.Ext) (fun _ _ h => GR.of_ext h) Reg.Ext.refl _ rfl rfl
               · simp only [Act.put, Act.eval, List.setIfInBounds_toArray, List.set_cons_zero, List.set_cons_succ, Nat.reduceAdd, Array.getD_eq_getD_getElem?, List.getElem?_toArray, List.getElem?_cons_succ, List.getElem?_cons_zero, Option.getD_some]
                 rfl)
            | (apply Rgp.TW.skip_ rfl
               · simp only [Act.put, Act.eval, List.setIfInBounds_toArray, List.set_cons_zero, List.set_cons_succ, Nat.reduceAdd, Array.getD_eq_getD_getElem?, List.getElem?_toArray, List.getElem?_cons_succ, List.getElem?_cons_zero, Option.getD_some]
                 rfl)
            | (apply Rgp.TW.pure_ (R := GR _) (Rs := Reg.Ext) (fun _ _ h => GR.of_ext h) rfl (Or.inr (by kernel_rfl))
               · intro w1 hw1 hf K hK
                 simp only [Act.put, List.setIfInBounds_toArray, List.set_cons_zero, List.set_cons_succ] at hK
                 have HK := Lib.hid hK
                 clear hf hK
                 unfold Reg.One; dsimp only
                 go_wp2_with fail
                 exact HK.out _ (Reg.Ext.refl _)
               · simp only [Act.put, Act.eval, List.setIfInBounds_toArray, List.set_cons_zero, List.set_cons_succ, Nat.reduceAdd, Array.getD_eq_getD_getElem?, List.getElem?_toArray, List.getElem?_cons_succ, List.getElem?_cons_zero, Option.getD_some]
                 rfl))
          apply Rgp.TW.last_ (R := GR (some g3)) (Rs := Reg.Ext) (hp := by rfl) (hpq := by decide) (S := fun v w1 => Blk w1 g3 26 (⟨3, repo, noStr, L⟩ : S).cells ∧ Blk w1 gr 26 S.none.cells ∧ Reg.Ext w w1)
          case h => rfl
          case hS => exact fun _ _ _ h ⟨k1, k2, k3⟩ => ⟨k1.ext h, k2.ext h, k3.trans h⟩
          · intro w1 hw1 hf K hK
            have HK := Lib.hid hK
            clear hK
            unfold Reg.One; dsimp only
            have hy : Blk w1 g3 26 (⟨3, repo, noStr, zeros⟩ : S).cells := hf.get0 (by kernel_rfl) (Or.inr ⟨Or.inl rfl, fun _ => rfl⟩)
            clear hf
            have hr1 := HR3.out.gr hw1 (by intro e; injection e with e; exact hne e.symm)
            have hx1 := HX3.out.trans_but hw1 hg3
            refine wpList_store_mid rfl 24 _ _ rfl g3 3 (L.map byteV).toArray rfl rfl (by rw [List.size_toArray, List.length_map, hl]; exact there_dig hy zeros_len) (by rw [List.size_toArray, List.length_map, hl]; kernel_rfl) (all_oneCell_toArray fun v hv => by
              obtain ⟨c, _, rfl⟩ := List.mem_map.1 hv
              rfl) ?_
            simp only [List.toList_toArray]
            simp only [Act.put, Act.eval, List.setIfInBounds_toArray, List.set_cons_zero, List.set_cons_succ, Nat.reduceAdd, Array.getD_eq_getD_getElem?, List.getElem?_toArray, List.getElem?_cons_succ, List.getElem?_cons_zero, Option.getD_some]
            exact HK.out undef _ ⟨put_dig hy L (hl.trans zeros_len.symm), hr1.but (But.setCells g3 (L.map byteV) 3 w1) (Ne.symm hne), hx1.trans_but (But.setCells g3 (L.map byteV) 3 w1) hg3⟩
          intro v4 a4 ha
          simp only [Act.put, Act.eval, List.setIfInBounds_toArray, List.set_cons_zero, List.set_cons_succ, Nat.reduceAdd, Array.getD_eq_getD_getElem?, List.getElem?_toArray, List.getElem?_cons_succ, List.getElem?_cons_zero, Option.getD_some] at ha
          subst ha
          refine Rgp.TW.nil_ ?_
          intro w9 hA
          obtain ⟨hb9, hr9, hx9⟩ := hA.get0 (Or.inl rfl)
          have HY4 := Lib.hid hb9
          have HR4 := Lib.hid hr9
          have HX4 := Lib.hid hx9
          clear hA hb9 hr9 hx9
          go_upto_region 12 with (fail)
          refine wp_region_lit ?_
          refine wpList_rt rfl _ rfl g3 rfl _ (⟨3, repo, noStr, L⟩ : S) hl HY4 ?_
          simp only [Act.put, Act.eval, List.setIfInBounds_toArray, List.set_cons_zero, List.set_cons_succ, Nat.reduceAdd, Array.getD_eq_getD_getElem?, List.getElem?_toArray, List.getElem?_cons_succ, List.getElem?_cons_zero, Option.getD_some]
          refine wpList_store_mid rfl 26 _ _ rfl gr 0 (((⟨3, repo, noStr, L⟩ : S)).cells).toArray rfl rfl (HR4.out.there _ (by rw [List.size_toArray]; have a1 := cells_length ((⟨3, repo, noStr, L⟩ : S)) hl; have a2 := cells_length S.none none_dig; omega)) (by rw [List.size_toArray, cells_length _ hl]; exact size35) (all_oneCell_toArray (oneS _)) ?_
          simp only [List.toList_toArray]
          simp only [Act.put, Act.eval, List.setIfInBounds_toArray, List.set_cons_zero, List.set_cons_succ, Nat.reduceAdd, Array.getD_eq_getD_getElem?, List.getElem?_toArray, List.getElem?_cons_succ, List.getElem?_cons_zero, Option.getD_some]
          have HN := Lib.hid (HR4.out.setAll (((⟨3, repo, noStr, L⟩ : S)).cells) (by have a1 := cells_length ((⟨3, repo, noStr, L⟩ : S)) hl; have a2 := cells_length S.none none_dig; omega))
          have XN := Lib.hid (HX4.out.trans_but (But.setCells gr (((⟨3, repo, noStr, L⟩ : S)).cells) 0 w9) hgr)
          generalize w9.setCells gr 0 (((⟨3, repo, noStr, L⟩ : S)).cells) = wn at *
          go_wp2_with fail
          exact bodyPost_ret (results_row2 rfl _ _ gr 26 (((⟨3, repo, noStr, L⟩ : S)).cells).toArray (0, 0) _ rfl HN.out undS rfl (by rw [List.size_toArray, cells_length _ hl]; exact size35)) rfl ⟨by rw [HV.out]; rfl, XN.out⟩
        case hlen => rfl
  · have tm1 : (word.toList == [109, 97, 110, 105, 102, 101, 115, 116, 115]) = false := by rw [tm]; exact decide_eq_false hm
    have hv := HRF.out
    rw [if_neg (fun h => hm h.1)] at hv
    by_cases hbl : word.data.toList = blobL
    · have tb1 : (word.toList == [98, 108, 111, 98, 115]) = true := by rw [tb]; exact decide_eq_true hbl
      rw [if_pos hbl] at hv
      have HV1 := Lib.hid hv
      clear hm hv tm tb hbl
      go_wp2_with fail
      refine (Stp.parse_any ref w1 h3).mono ?_
      rintro e w2 ⟨rfl, x2⟩
      have HX2 := Lib.hid (HX.out.trans x2)
      have HY2 := Lib.hid (HY.out.ext x2)
      have HR2 := Lib.hid (HR.out.ext x2)
      clear x2 HX HY HR
      unfold Stp.parV
      obtain ⟨L, hL⟩ : ∃ L, L = Stp.behL Stp.pA ref.data.toList := ⟨_, rfl⟩
      have hl : L.length = 32 := by rw [hL]; exact Stp.behL_len _ _
      have HBB : Hid (Stp.behB Stp.pA ref.data.toList = true → Stp.beh Stp.pA ref.data.toList = some L) := fun h => by
        rw [hL]
        unfold Stp.behL
        unfold Stp.behB at h
        cases hb : Stp.beh Stp.pA ref.data.toList with
        | none => rw [hb] at h; cases h
        | some d => rfl
      have HBN : Hid (Stp.behB Stp.pA ref.data.toList = false → Stp.beh Stp.pA ref.data.toList = none) := fun h => by
        unfold Stp.behB at h
        cases hb : Stp.beh Stp.pA ref.data.toList with
        | none => rfl
        | some d => rw [hb] at h; cases h
      rw [← hL]
      clear hL
      generalize Stp.behB Stp.pA ref.data.toList = b at *
      rename_i hK
      refine hK _ _ ?_
      iterate 12 go_step
      rw [z32]
      have hbf := Stp.box_blk w2 zeros
      have hxf := Reg.Ext.alloc w2 (Obj.cells (zeros.map byteV).toArray 24)
      have hxs := hxf.trans_but (But.setCells w2.heap.size (L.map byteV) 0 _) (Nat.le_refl _)
      generalize w2.alloc (Obj.cells (zeros.map byteV).toArray 24) = wf at *
      have HBF := Lib.hid hbf
      clear hbf hxf
      refine wpList_store_mid rfl 24 _ _ rfl w2.heap.size 0 (L.map byteV).toArray rfl rfl (HBF.out.there _ (by rw [List.size_toArray, List.length_map, hl]; simp [zeros_len])) (by rw [List.size_toArray, List.length_map, hl]; kernel_rfl) ?_ ?_
      · refine all_oneCell_toArray fun v hv => ?_
        obtain ⟨x, _, rfl⟩ := List.mem_map.1 hv
        rfl
      simp only [List.toList_toArray]
      simp only [Act.put, Act.eval, List.setIfInBounds_toArray, List.set_cons_zero, List.set_cons_succ, Nat.reduceAdd, Array.getD_eq_getD_getElem?, List.getElem?_toArray, List.getElem?_cons_succ, List.getElem?_cons_zero, Option.getD_some]
      have hbs := HBF.out.setAll (L.map byteV) (by rw [List.length_map, List.length_map, hl, zeros_len])
      generalize wf.setCells w2.heap.size 0 (L.map byteV) = w3 at *
      have B3 := Lib.hid hbs
      have hg8 : g3 ≠ w2.heap.size := by have := HY2.out.lt; omega
      have HX3 := Lib.hid (HX2.out.trans hxs)
      have HY3 := Lib.hid (HY2.out.ext hxs)
      have HR3 := Lib.hid (HR2.out.ext hxs)
      clear hbs hxs HBF HX2 HY2 HR2
      generalize w2.heap.size = g8 at *
      cases b with
      | false =>
        have HV := Lib.hid (show rouV (referP repo word.data.toList ref.data.toList) = .tuple #[.agg S.none.cells.toArray, .int .i64 3] by rw [HV1.out, HBN.out rfl]; rfl)
        clear HBN HBB HV1
        go_upto_region 8 with (fail)
        refine wp_region_lit ?_
        refine wpList_val rfl (.agg S.none.cells.toArray) (by as_aux_lemma => kernel_rfl) ?_
        simp only [Act.put, Act.eval, List.setIfInBounds_toArray, List.set_cons_zero, List.set_cons_succ, Nat.reduceAdd, Array.getD_eq_getD_getElem?, List.getElem?_toArray, List.getElem?_cons_succ, List.getElem?_cons_zero, Option.getD_some]
        iterate 3 go_step
        refine wpList_store_mid rfl 26 _ _ rfl gr 0 ((S.none).cells).toArray rfl rfl (HR3.out.there _ (by rw [List.size_toArray]; have a1 := cells_length (S.none) none_dig; have a2 := cells_length S.none none_dig; omega)) (by rw [List.size_toArray, cells_length _ none_dig]; exact size35) (all_oneCell_toArray (oneS _)) ?_
        simp only [List.toList_toArray]
        simp only [Act.put, Act.eval, List.setIfInBounds_toArray, List.set_cons_zero, List.set_cons_succ, Nat.reduceAdd, Array.getD_eq_getD_getElem?, List.getElem?_toArray, List.getElem?_cons_succ, List.getElem?_cons_zero, Option.getD_some]
        have HN := Lib.hid (HR3.out.setAll ((S.none).cells) (by have a1 := cells_length (S.none) none_dig; have a2 := cells_length S.none none_dig; omega))
        have XN := Lib.hid (HX3.out.trans_but (But.setCells gr ((S.none).cells) 0 w3) hgr)
        generalize w3.setCells gr 0 ((S.none).cells) = wn at *
        go_wp2_with fail
        exact bodyPost_ret (results_row2 rfl _ _ gr 26 ((S.none).cells).toArray (0, 0) _ rfl HN.out undS rfl (by rw [List.size_toArray, cells_length _ none_dig]; exact size35)) rfl ⟨by rw [HV.out]; rfl, XN.out⟩
      | true =>
        have HV := Lib.hid (show rouV (referP repo word.data.toList ref.data.toList) = .tuple #[.agg (⟨4, repo, noStr, L⟩ : S).cells.toArray, .int .i64 0] by rw [HV1.out, HBB.out rfl]; rfl)
        clear HBN HBB HV1
        go_upto_region 9 with (fail)
        apply Rgp.wp_tab (GR (some g3)) Reg.Ext 2 4 (fun w1 => Blk w1 g3 26 (start repo).cells) (by kernel_rfl) (by kernel_rfl) (by kernel_rfl) Reg.Ext.refl (fun _ _ h => GR.of_ext h) (fun _ _ _ => GR.trans) (GR.drew (some g3) w3) (fun _ _ h k => k.ext h) (HY3.out.ext (Reg.Ext.drew w3))
        case h =>
          intro O
          apply Rgp.TW.pure_ (R := GR _) (Rs := Reg.Ext) (c := .agg (L.map byteV).toArray) (fun _ _ h => GR.of_ext h) rfl (Or.inr (by kernel_rfl))
          · intro w1 hw1 hf K hK
            simp only [Act.put, List.setIfInBounds_toArray, List.set_cons_zero, List.set_cons_succ] at hK
            have HK := Lib.hid hK
            clear hK
            unfold Reg.One; dsimp only
            have hb8 := B3.out.gr hw1 (by intro e; injection e with e; exact hg8 e.symm)
            clear hf
            refine wpList_load_row rfl 24 _ rfl g8 rfl 24 (L.map byteV).toArray (0, 0) _ hb8 Tryd.underlying24 rfl (by rw [List.size_toArray, List.length_map, hl]; kernel_rfl) ?_
            exact HK.out _ (Reg.Ext.refl _)
          · simp only [Act.put, Act.eval, List.setIfInBounds_toArray, List.set_cons_zero, List.set_cons_succ, Nat.reduceAdd, Array.getD_eq_getD_getElem?, List.getElem?_toArray, List.getElem?_cons_succ, List.getElem?_cons_zero, Option.getD_some]
            rfl
          repeat (first
            | (apply Rgp.TW.move_ (R := GR _) (Rs := Reg.Ext) (fun _ _ h => GR.of_ext h) Reg.Ext.refl _ rfl rfl
               · simp only [Act.put, Act.eval, List.setIfInBounds_toArray, List.set_cons_zero, List.set_cons_succ, Nat.reduceAdd, Array.getD_eq_getD_getElem?, List.getElem?_toArray, List.getElem?_cons_succ, List.getElem?_cons_zero, Option.getD_some]
                 rfl)
            | (apply Rgp.TW.assign_ (R := GR _) (Rs := Reg.Ext) (fun _ _ h => GR.of_ext h) Reg.Ext.refl _ rfl rfl
               · simp only [Act.put, Act.eval, List.setIfInBounds_toArray, List.set_cons_zero, List.set_cons_succ, Nat.reduceAdd, Array.getD_eq_getD_getElem?, List.getElem?_toArray, List.getElem?_cons_succ, List.getElem?_cons_zero, Option.getD_some]
                 rfl)
            | (apply Rgp.TW.skip_ rfl
               · simp only [Act.put, Act.eval, List.setIfInBounds_toArray, List.set_cons_zero, List.set_cons_succ, Nat.reduceAdd, Array.getD_eq_getD_getElem?, List.getElem?_toArray, List.getElem?_cons_succ, List.getElem?_cons_zero, Option.getD_some]
                 rfl)
            | (apply Rgp.TW.pure_ (R := GR _) (Rs := Reg.Ext) (fun _ _ h => GR.of_ext h) rfl (Or.inr (by kernel_rfl))
               · intro w1 hw1 hf K hK
                 simp only [Act.put, List.setIfInBounds_toArray, List.set_cons_zero, List.set_cons_succ] at hK
                 have HK := Lib.hid hK
                 clear hf hK
                 unfold Reg.One; dsimp only
                 go_wp2_with fail
                 exact HK.out _ (Reg.Ext.refl _)
               · simp only [Act.put, Act.eval, List.setIfInBounds_toArray, List.set_cons_zero, List.set_cons_succ, Nat.reduceAdd, Array.getD_eq_getD_getElem?, List.getElem?_toArray, List.getElem?_cons_succ, List.getElem?_cons_zero, Option.getD_some]
                 rfl))
          apply Rgp.TW.turn_ (R := GR (some g3)) (Rs := Reg.Ext) (hp := by rfl) (S := fun v w1 => Blk w1 g3 26 (⟨3, repo, noStr, zeros⟩ : S).cells)
          case h => rfl
          case hS => exact fun _ _ _ h k => k.ext h
          case hb => exact Or.inr (by kernel_rfl)
          · intro w1 hw1 hs1 hf K hK
            have HK := Lib.hid hK
            clear hK hf
            unfold Reg.One; dsimp only
            have c0 : w1.cell? ⟨g3, 0, none⟩ = some (.int .i64 0) := hs1.cell 0
            have f0 := hs1.frozen 0
            have hs := hs1.set_ 0 (.int .i64 3)
            rw [set0] at hs
            have HS := Lib.hid hs
            clear hs
            go_wp2_with fail
            exact HK.out undef _ (But.set_ g3 w1 0 (.int .i64 3)) HS.out
          intro v2 a2 ha
          simp only [Act.put, Act.eval, List.setIfInBounds_toArray, List.set_cons_zero, List.set_cons_succ, Nat.reduceAdd, Array.getD_eq_getD_getElem?, List.getElem?_toArray, List.getElem?_cons_succ, List.getElem?_cons_zero, Option.getD_some] at ha
          subst ha
          repeat (first
            | (apply Rgp.TW.move_ (R := GR _) (Rs := Reg.Ext) (fun _ _ h => GR.of_ext h) Reg.Ext.refl _ rfl rfl
               · simp only [Act.put, Act.eval, List.setIfInBounds_toArray, List.set_cons_zero, List.set_cons_succ, Nat.reduceAdd, Array.getD_eq_getD_getElem?, List.getElem?_toArray, List.getElem?_cons_succ, List.getElem?_cons_zero, Option.getD_some]
                 rfl)
            | (apply Rgp.TW.assign_ (R := GR _) (Rs := Reg.Ext) (fun _ _ h => GR.of_ext h) Reg.Ext.refl _ rfl rfl
               · simp only [Act.put, Act.eval, List.setIfInBounds_toArray, List.set_cons_zero, List.set_cons_succ, Nat.reduceAdd, Array.getD_eq_getD_getElem?, List.getElem?_toArray, List.getElem?_cons_succ, List.getElem?_cons_zero, Option.getD_some]
                 rfl)
            | (apply Rgp.TW.skip_ rfl
               · simp only [Act.put, Act.eval, List.setIfInBounds_toArray, List.set_cons_zero, List.set_cons_succ, Nat.reduceAdd, Array.getD_eq_getD_getElem?, List.getElem?_toArray, List.getElem?_cons_succ, List.getElem?_cons_zero, Option.getD_some]
                 rfl)
            | (apply Rgp.TW.pure_ (R := GR _) (Rs := Reg.Ext) (fun _ _ h => GR.of_ext h) rfl (Or.inr (by kernel_rfl))
               · intro w1 hw1 hf K hK
                 simp only [Act.put, List.setIfInBounds_toArray, List.set_cons_zero, List.set_cons_succ] at hK
                 have HK := Lib.hid hK
                 clear hf hK
                 unfold Reg.One; dsimp only
                 go_wp2_with fail
                 exact HK.out _ (Reg.Ext.refl _)
               · simp only [Act.put, Act.eval, List.setIfInBounds_toArray, List.set_cons_zero, List.set_cons_succ, Nat.reduceAdd, Array.getD_eq_getD_getElem?, List.getElem?_toArray, List.getElem?_cons_succ, List.getElem?_cons_zero, Option.getD_some]
                 rfl))
          apply Rgp.TW.last_ (R := GR (some g3)) (Rs := Reg.Ext) (hp := by rfl) (hpq := by decide) (S := fun v w1 => Blk w1 g3 26 (⟨3, repo, noStr, L⟩ : S).cells ∧ Blk w1 gr 26 S.none.cells ∧ Reg.Ext w w1)
          case h => rfl
          case hS => exact fun _ _ _ h ⟨k1, k2, k3⟩ => ⟨k1.ext h, k2.ext h, k3.trans h⟩
          · intro w1 hw1 hf K hK
            have HK := Lib.hid hK
            clear hK
            unfold Reg.One; dsimp only
            have hy : Blk w1 g3 26 (⟨3, repo, noStr, zeros⟩ : S).cells := hf.get0 (by kernel_rfl) (Or.inr ⟨Or.inl rfl, fun _ => rfl⟩)
            clear hf
            have hr1 := HR3.out.gr hw1 (by intro e; injection e with e; exact hne e.symm)
            have hx1 := HX3.out.trans_but hw1 hg3
            refine wpList_store_mid rfl 24 _ _ rfl g3 3 (L.map byteV).toArray rfl rfl (by rw [List.size_toArray, List.length_map, hl]; exact there_dig hy zeros_len) (by rw [List.size_toArray, List.length_map, hl]; kernel_rfl) (all_oneCell_toArray fun v hv => by
              obtain ⟨c, _, rfl⟩ := List.mem_map.1 hv
              rfl) ?_
            simp only [List.toList_toArray]
            simp only [Act.put, Act.eval, List.setIfInBounds_toArray, List.set_cons_zero, List.set_cons_succ, Nat.reduceAdd, Array.getD_eq_getD_getElem?, List.getElem?_toArray, List.getElem?_cons_succ, List.getElem?_cons_zero, Option.getD_some]
            exact HK.out undef _ ⟨put_dig hy L (hl.trans zeros_len.symm), hr1.but (But.setCells g3 (L.map byteV) 3 w1) (Ne.symm hne), hx1.trans_but (But.setCells g3 (L.map byteV) 3 w1) hg3⟩
          intro v4 a4 ha
          simp only [Act.put, Act.eval, List.setIfInBounds_toArray, List.set_cons_zero, List.set_cons_succ, Nat.reduceAdd, Array.getD_eq_getD_getElem?, List.getElem?_toArray, List.getElem?_cons_succ, List.getElem?_cons_zero, Option.getD_some] at ha
          subst ha
          refine Rgp.TW.nil_ ?_
          intro w9 hA
          obtain ⟨hb9, hr9, hx9⟩ := hA.get0 (Or.inl rfl)
          have HY4 := Lib.hid hb9
          have HR4 := Lib.hid hr9
          have HX4 := Lib.hid hx9
          clear hA hb9 hr9 hx9
          have c0 : w9.cell? ⟨g3, 0, none⟩ = some (.int .i64 3) := HY4.out.cell 0
          have f0 := HY4.out.frozen 0
          have hs := HY4.out.set_ 0 (.int .i64 4)
          rw [set0] at hs
          have HS := Lib.hid hs
          have HBT := Lib.hid (But.set_ g3 w9 0 (.int .i64 4))
          clear hs
          go_upto_region 12 with (fail)
          clear c0 f0
          generalize w9.setCell ⟨g3, 0, none⟩ (.int .i64 4) = w10 at *
          have HR5 := Lib.hid (HR4.out.but HBT.out (Ne.symm hne))
          have HX5 := Lib.hid (HX4.out.trans_but HBT.out hg3)
          have HS5 : Hid (Blk w10 g3 26 (⟨4, repo, noStr, L⟩ : S).cells) := HS.out
          refine wp_region_lit ?_
          refine wpList_rt rfl _ rfl g3 rfl _ (⟨4, repo, noStr, L⟩ : S) hl HS5 ?_
          simp only [Act.put, Act.eval, List.setIfInBounds_toArray, List.set_cons_zero, List.set_cons_succ, Nat.reduceAdd, Array.getD_eq_getD_getElem?, List.getElem?_toArray, List.getElem?_cons_succ, List.getElem?_cons_zero, Option.getD_some]
          refine wpList_store_mid rfl 26 _ _ rfl gr 0 (((⟨4, repo, noStr, L⟩ : S)).cells).toArray rfl rfl (HR5.out.there _ (by rw [List.size_toArray]; have a1 := cells_length ((⟨4, repo, noStr, L⟩ : S)) hl; have a2 := cells_length S.none none_dig; omega)) (by rw [List.size_toArray, cells_length _ hl]; exact size35) (all_oneCell_toArray (oneS _)) ?_
          simp only [List.toList_toArray]
          simp only [Act.put, Act.eval, List.setIfInBounds_toArray, List.set_cons_zero, List.set_cons_succ, Nat.reduceAdd, Array.getD_eq_getD_getElem?, List.getElem?_toArray, List.getElem?_cons_succ, List.getElem?_cons_zero, Option.getD_some]
          have HN := Lib.hid (HR5.out.setAll (((⟨4, repo, noStr, L⟩ : S)).cells) (by have a1 := cells_length ((⟨4, repo, noStr, L⟩ : S)) hl; have a2 := cells_length S.none none_dig; omega))
          have XN := Lib.hid (HX5.out.trans_but (But.setCells gr (((⟨4, repo, noStr, L⟩ : S)).cells) 0 w10) hgr)
          generalize w10.setCells gr 0 (((⟨4, repo, noStr, L⟩ : S)).cells) = wn at *
          go_wp2_with fail
          exact bodyPost_ret (results_row2 rfl _ _ gr 26 (((⟨4, repo, noStr, L⟩ : S)).cells).toArray (0, 0) _ rfl HN.out undS rfl (by rw [List.size_toArray, cells_length _ hl]; exact size35)) rfl ⟨by rw [HV.out]; rfl, XN.out⟩
        case hlen => rfl
    · have tb1 : (word.toList == [98, 108, 111, 98, 115]) = false := by rw [tb]; exact decide_eq_false hbl
      rw [if_neg hbl] at hv
      have HV1 := Lib.hid hv
      clear hm hv tm tb hbl
      go_wp2_with fail
      refine (Stp.parse_any ref w1 h3).mono ?_
      rintro e w2 ⟨rfl, x2⟩
      have HX2 := Lib.hid (HX.out.trans x2)
      have HY2 := Lib.hid (HY.out.ext x2)
      have HR2 := Lib.hid (HR.out.ext x2)
      clear x2 HX HY HR
      unfold Stp.parV
      obtain ⟨L, hL⟩ : ∃ L, L = Stp.behL Stp.pA ref.data.toList := ⟨_, rfl⟩
      have hl : L.length = 32 := by rw [hL]; exact Stp.behL_len _ _
      have HBB : Hid (Stp.behB Stp.pA ref.data.toList = true → Stp.beh Stp.pA ref.data.toList = some L) := fun h => by
        rw [hL]
        unfold Stp.behL
        unfold Stp.behB at h
        cases hb : Stp.beh Stp.pA ref.data.toList with
        | none => rw [hb] at h; cases h
        | some d => rfl
      have HBN : Hid (Stp.behB Stp.pA ref.data.toList = false → Stp.beh Stp.pA ref.data.toList = none) := fun h => by
        unfold Stp.behB at h
        cases hb : Stp.beh Stp.pA ref.data.toList with
        | none => rfl
        | some d => rw [hb] at h; cases h
      rw [← hL]
      clear hL
      generalize Stp.behB Stp.pA ref.data.toList = b at *
      rename_i hK
      refine hK _ _ ?_
      iterate 12 go_step
      rw [z32]
      have hbf := Stp.box_blk w2 zeros
      have hxf := Reg.Ext.alloc w2 (Obj.cells (zeros.map byteV).toArray 24)
      have hxs := hxf.trans_but (But.setCells w2.heap.size (L.map byteV) 0 _) (Nat.le_refl _)
      generalize w2.alloc (Obj.cells (zeros.map byteV).toArray 24) = wf at *
      have HBF := Lib.hid hbf
      clear hbf hxf
      refine wpList_store_mid rfl 24 _ _ rfl w2.heap.size 0 (L.map byteV).toArray rfl rfl (HBF.out.there _ (by rw [List.size_toArray, List.length_map, hl]; simp [zeros_len])) (by rw [List.size_toArray, List.length_map, hl]; kernel_rfl) ?_ ?_
      · refine all_oneCell_toArray fun v hv => ?_
        obtain ⟨x, _, rfl⟩ := List.mem_map.1 hv
        rfl
      simp only [List.toList_toArray]
      simp only [Act.put, Act.eval, List.setIfInBounds_toArray, List.set_cons_zero, List.set_cons_succ, Nat.reduceAdd, Array.getD_eq_getD_getElem?, List.getElem?_toArray, List.getElem?_cons_succ, List.getElem?_cons_zero, Option.getD_some]
      have hbs := HBF.out.setAll (L.map byteV) (by rw [List.length_map, List.length_map, hl, zeros_len])
      generalize wf.setCells w2.heap.size 0 (L.map byteV) = w3 at *
      have B3 := Lib.hid hbs
      have hg8 : g3 ≠ w2.heap.size := by have := HY2.out.lt; omega
      have HX3 := Lib.hid (HX2.out.trans hxs)
      have HY3 := Lib.hid (HY2.out.ext hxs)
      have HR3 := Lib.hid (HR2.out.ext hxs)
      clear hbs hxs HBF HX2 HY2 HR2
      generalize w2.heap.size = g8 at *
      cases b with
      | false =>
        have HV := Lib.hid (show rouV (referP repo word.data.toList ref.data.toList) = .tuple #[.agg S.none.cells.toArray, .int .i64 3] by rw [HV1.out, HBN.out rfl]; rfl)
        clear HBN HBB HV1
        go_upto_region 8 with (fail)
        refine wp_region_lit ?_
        refine wpList_val rfl (.agg S.none.cells.toArray) (by as_aux_lemma => kernel_rfl) ?_
        simp only [Act.put, Act.eval, List.setIfInBounds_toArray, List.set_cons_zero, List.set_cons_succ, Nat.reduceAdd, Array.getD_eq_getD_getElem?, List.getElem?_toArray, List.getElem?_cons_succ, List.getElem?_cons_zero, Option.getD_some]
        iterate 3 go_step
        refine wpList_store_mid rfl 26 _ _ rfl gr 0 ((S.none).cells).toArray rfl rfl (HR3.out.there _ (by rw [List.size_toArray]; have a1 := cells_length (S.none) none_dig; have a2 := cells_length S.none none_dig; omega)) (by rw [List.size_toArray, cells_length _ none_dig]; exact size35) (all_oneCell_toArray (oneS _)) ?_
        simp only [List.toList_toArray]
        simp only [Act.put, Act.eval, List.setIfInBounds_toArray, List.set_cons_zero, List.set_cons_succ, Nat.reduceAdd, Array.getD_eq_getD_getElem?, List.getElem?_toArray, List.getElem?_cons_succ, List.getElem?_cons_zero, Option.getD_some]
        have HN := Lib.hid (HR3.out.setAll ((S.none).cells) (by have a1 := cells_length (S.none) none_dig; have a2 := cells_length S.none none_dig; omega))
        have XN := Lib.hid (HX3.out.trans_but (But.setCells gr ((S.none).cells) 0 w3) hgr)
        generalize w3.setCells gr 0 ((S.none).cells) = wn at *
        go_wp2_with fail
        exact bodyPost_ret (results_row2 rfl _ _ gr 26 ((S.none).cells).toArray (0, 0) _ rfl HN.out undS rfl (by rw [List.size_toArray, cells_length _ none_dig]; exact size35)) rfl ⟨by rw [HV.out]; rfl, XN.out⟩
      | true =>
        have HV := Lib.hid (show rouV (referP repo word.data.toList ref.data.toList) = .tuple #[.agg (⟨3, repo, noStr, L⟩ : S).cells.toArray, .int .i64 0] by rw [HV1.out, HBB.out rfl]; rfl)
        clear HBN HBB HV1
        go_upto_region 9 with (fail)
        apply Rgp.wp_tab (GR (some g3)) Reg.Ext 2 4 (fun w1 => Blk w1 g3 26 (start repo).cells) (by kernel_rfl) (by kernel_rfl) (by kernel_rfl) Reg.Ext.refl (fun _ _ h => GR.of_ext h) (fun _ _ _ => GR.trans) (GR.drew (some g3) w3) (fun _ _ h k => k.ext h) (HY3.out.ext (Reg.Ext.drew w3))
        case h =>
          intro O
          apply Rgp.TW.pure_ (R := GR _) (Rs := Reg.Ext) (c := .agg (L.map byteV).toArray) (fun _ _ h => GR.of_ext h) rfl (Or.inr (by kernel_rfl))
          · intro w1 hw1 hf K hK
            simp only [Act.put, List.setIfInBounds_toArray, List.set_cons_zero, List.set_cons_succ] at hK
            have HK := Lib.hid hK
            clear hK
            unfold Reg.One; dsimp only
            have hb8 := B3.out.gr hw1 (by intro e; injection e with e; exact hg8 e.symm)
            clear hf
            refine wpList_load_row rfl 24 _ rfl g8 rfl 24 (L.map byteV).toArray (0, 0) _ hb8 Tryd.underlying24 rfl (by rw [List.size_toArray, List.length_map, hl]; kernel_rfl) ?_
            exact HK.out _ (Reg.Ext.refl _)
          · simp only [Act.put, Act.eval, List.setIfInBounds_toArray, List.set_cons_zero, List.set_cons_succ, Nat.reduceAdd, Array.getD_eq_getD_getElem?, List.getElem?_toArray, List.getElem?_cons_succ, List.getElem?_cons_zero, Option.getD_some]
            rfl
          repeat (first
            | (apply Rgp.TW.move_ (R := GR _) (Rs := Reg.Ext) (fun _ _ h => GR.of_ext h) Reg.Ext.refl _ rfl rfl
               · simp only [Act.put, Act.eval, List.setIfInBounds_toArray, List.set_cons_zero, List.set_cons_succ, Nat.reduceAdd, Array.getD_eq_getD_getElem?, List.getElem?_toArray, List.getElem?_cons_succ, List.getElem?_cons_zero, Option.getD_some]
                 rfl)
            | (apply Rgp.TW.assign_ (R := GR _) (Rs := Reg.Ext) (fun _ _ h => GR.of_ext h) Reg.Ext.refl _ rfl rfl
               · simp only [Act.put, Act.eval, List.setIfInBounds_toArray, List.set_cons_zero, List.set_cons_succ, Nat.reduceAdd, Array.getD_eq_getD_getElem?, List.getElem?_toArray, List.getElem?_cons_succ, List.getElem?_cons_zero, Option.getD_some]
                 rfl)
            | (apply Rgp.TW.skip_ rfl
               · simp only [Act.put, Act.eval, List.setIfInBounds_toArray, List.set_cons_zero, List.set_cons_succ, Nat.reduceAdd, Array.getD_eq_getD_getElem?, List.getElem?_toArray, List.getElem?_cons_succ, List.getElem?_cons_zero, Option.getD_some]
                 rfl)
            | (apply Rgp.TW.pure_ (R := GR _) (Rs := Reg.Ext) (fun _ _ h => GR.of_ext h) rfl (Or.inr (by kernel_rfl))
               · intro w1 hw1 hf K hK
                 simp only [Act.put, List.setIfInBounds_toArray, List.set_cons_zero, List.set_cons_succ] at hK
                 have HK := Lib.hid hK
                 clear hf hK
                 unfold Reg.One; dsimp only
                 go_wp2_with fail
                 exact HK.out _ (Reg.Ext.refl _)
               · simp only [Act.put, Act.eval, List.setIfInBounds_toArray, List.set_cons_zero, List.set_cons_succ, Nat.reduceAdd, Array.getD_eq_getD_getElem?, List.getElem?_toArray, List.getElem?_cons_succ, List.getElem?_cons_zero, Option.getD_some]
                 rfl))
          apply Rgp.TW.turn_ (R := GR (some g3)) (Rs := Reg.Ext) (hp := by rfl) (S := fun v w1 => Blk w1 g3 26 (⟨3, repo, noStr, zeros⟩ : S).cells)
          case h => rfl
          case hS => exact fun _ _ _ h k => k.ext h
          case hb => exact Or.inr (by kernel_rfl)
          · intro w1 hw1 hs1 hf K hK
            have HK := Lib.hid hK
            clear hK hf
            unfold Reg.One; dsimp only
            have c0 : w1.cell? ⟨g3, 0, none⟩ = some (.int .i64 0) := hs1.cell 0
            have f0 := hs1.frozen 0
            have hs := hs1.set_ 0 (.int .i64 3)
            rw [set0] at hs
            have HS := Lib.hid hs
            clear hs
            go_wp2_with fail
            exact HK.out undef _ (But.set_ g3 w1 0 (.int .i64 3)) HS.out
          intro v2 a2 ha
          simp only [Act.put, Act.eval, List.setIfInBounds_toArray, List.set_cons_zero, List.set_cons_succ, Nat.reduceAdd, Array.getD_eq_getD_getElem?, List.getElem?_toArray, List.getElem?_cons_succ, List.getElem?_cons_zero, Option.getD_some] at ha
          subst ha
          repeat (first
            | (apply Rgp.TW.move_ (R := GR _) (Rs := Reg.Ext) (fun _ _ h => GR.of_ext h) Reg.Ext.refl _ rfl rfl
               · simp only [Act.put, Act.eval, List.setIfInBounds_toArray, List.set_cons_zero, List.set_cons_succ, Nat.reduceAdd, Array.getD_eq_getD_getElem?, List.getElem?_toArray, List.getElem?_cons_succ, List.getElem?_cons_zero, Option.getD_some]
                 rfl)
            | (apply Rgp.TW.assign_ (R := GR _) (Rs := Reg.Ext) (fun _ _ h => GR.of_ext h) Reg.Ext.refl _ rfl rfl
               · simp only [Act.put, Act.eval, List.setIfInBounds_toArray, List.set_cons_zero, List.set_cons_succ, Nat.reduceAdd, Array.getD_eq_getD_getElem?, List.getElem?_toArray, List.getElem?_cons_succ, List.getElem?_cons_zero, Option.getD_some]
                 rfl)
            | (apply Rgp.TW.skip_ rfl
               · simp only [Act.put, Act.eval, List.setIfInBounds_toArray, List.set_cons_zero, List.set_cons_succ, Nat.reduceAdd, Array.getD_eq_getD_getElem?, List.getElem?_toArray, List.getElem?_cons_succ, List.getElem?_cons_zero, Option.getD_some]
                 rfl)
            | (apply Rgp.TW.pure_ (R := GR _) (Rs := Reg.Ext) (fun _ _ h => GR.of_ext h) rfl (Or.inr (by kernel_rfl))
               · intro w1 hw1 hf K hK
                 simp only [Act.put, List.setIfInBounds_toArray, List.set_cons_zero, List.set_cons_succ] at hK
                 have HK := Lib.hid hK
                 clear hf hK
                 unfold Reg.One; dsimp only
                 go_wp2_with fail
                 exact HK.out _ (Reg.Ext.refl _)
               · simp only [Act.put, Act.eval, List.setIfInBounds_toArray, List.set_cons_zero, List.set_cons_succ, Nat.reduceAdd, Array.getD_eq_getD_getElem?, List.getElem?_toArray, List.getElem?_cons_succ, List.getElem?_cons_zero, Option.getD_some]
                 rfl))
          apply Rgp.TW.last_ (R := GR (some g3)) (Rs := Reg.Ext) (hp := by rfl) (hpq := by decide) (S := fun v w1 => Blk w1 g3 26 (⟨3, repo, noStr, L⟩ : S).cells ∧ Blk w1 gr 26 S.none.cells ∧ Reg.Ext w w1)
          case h => rfl
          case hS => exact fun _ _ _ h ⟨k1, k2, k3⟩ => ⟨k1.ext h, k2.ext h, k3.trans h⟩
          · intro w1 hw1 hf K hK
            have HK := Lib.hid hK
            clear hK
            unfold Reg.One; dsimp only
            have hy : Blk w1 g3 26 (⟨3, repo, noStr, zeros⟩ : S).cells := hf.get0 (by kernel_rfl) (Or.inr ⟨Or.inl rfl, fun _ => rfl⟩)
            clear hf
            have hr1 := HR3.out.gr hw1 (by intro e; injection e with e; exact hne e.symm)
            have hx1 := HX3.out.trans_but hw1 hg3
            refine wpList_store_mid rfl 24 _ _ rfl g3 3 (L.map byteV).toArray rfl rfl (by rw [List.size_toArray, List.length_map, hl]; exact there_dig hy zeros_len) (by rw [List.size_toArray, List.length_map, hl]; kernel_rfl) (all_oneCell_toArray fun v hv => by
              obtain ⟨c, _, rfl⟩ := List.mem_map.1 hv
              rfl) ?_
            simp only [List.toList_toArray]
            simp only [Act.put, Act.eval, List.setIfInBounds_toArray, List.set_cons_zero, List.set_cons_succ, Nat.reduceAdd, Array.getD_eq_getD_getElem?, List.getElem?_toArray, List.getElem?_cons_succ, List.getElem?_cons_zero, Option.getD_some]
            exact HK.out undef _ ⟨put_dig hy L (hl.trans zeros_len.symm), hr1.but (But.setCells g3 (L.map byteV) 3 w1) (Ne.symm hne), hx1.trans_but (But.setCells g3 (L.map byteV) 3 w1) hg3⟩
          intro v4 a4 ha
          simp only [Act.put, Act.eval, List.setIfInBounds_toArray, List.set_cons_zero, List.set_cons_succ, Nat.reduceAdd, Array.getD_eq_getD_getElem?, List.getElem?_toArray, List.getElem?_cons_succ, List.getElem?_cons_zero, Option.getD_some] at ha
          subst ha
          refine Rgp.TW.nil_ ?_
          intro w9 hA
          obtain ⟨hb9, hr9, hx9⟩ := hA.get0 (Or.inl rfl)
          have HY4 := Lib.hid hb9
          have HR4 := Lib.hid hr9
          have HX4 := Lib.hid hx9
          clear hA hb9 hr9 hx9
          go_upto_region 12 with (fail)
          refine wp_region_lit ?_
          refine wpList_rt rfl _ rfl g3 rfl _ (⟨3, repo, noStr, L⟩ : S) hl HY4 ?_
          simp only [Act.put, Act.eval, List.setIfInBounds_toArray, List.set_cons_zero, List.set_cons_succ, Nat.reduceAdd, Array.getD_eq_getD_getElem?, List.getElem?_toArray, List.getElem?_cons_succ, List.getElem?_cons_zero, Option.getD_some]
          refine wpList_store_mid rfl 26 _ _ rfl gr 0 (((⟨3, repo, noStr, L⟩ : S)).cells).toArray rfl rfl (HR4.out.there _ (by rw [List.size_toArray]; have a1 := cells_length ((⟨3, repo, noStr, L⟩ : S)) hl; have a2 := cells_length S.none none_dig; omega)) (by rw [List.size_toArray, cells_length _ hl]; exact size35) (all_oneCell_toArray (oneS _)) ?_
          simp only [List.toList_toArray]
          simp only [Act.put, Act.eval, List.setIfInBounds_toArray, List.set_cons_zero, List.set_cons_succ, Nat.reduceAdd, Array.getD_eq_getD_getElem?, List.getElem?_toArray, List.getElem?_cons_succ, List.getElem?_cons_zero, Option.getD_some]
          have HN := Lib.hid (HR4.out.setAll (((⟨3, repo, noStr, L⟩ : S)).cells) (by have a1 := cells_length ((⟨3, repo, noStr, L⟩ : S)) hl; have a2 := cells_length S.none none_dig; omega))
          have XN := Lib.hid (HX4.out.trans_but (But.setCells gr (((⟨3, repo, noStr, L⟩ : S)).cells) 0 w9) hgr)
          generalize w9.setCells gr 0 (((⟨3, repo, noStr, L⟩ : S)).cells) = wn at *
          go_wp2_with fail
          exact bodyPost_ret (results_row2 rfl _ _ gr 26 (((⟨3, repo, noStr, L⟩ : S)).cells).toArray (0, 0) _ rfl HN.out undS rfl (by rw [List.size_toArray, cells_length _ hl]; exact size35)) rfl ⟨by rw [HV.out]; rfl, XN.out⟩
        case hlen => rfl
end Pl
end Go.Proofs.YtdoplndijlfabaaDoor

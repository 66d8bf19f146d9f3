/- Package place: cutLast, Good. -/
import Derived.Test.YtdoplndijlfabaaDoorPlaceRepo
import Derived.Test.YtdoplndijlfabaaDoorPlaceQ
import Derived.BigQuiet
import Derived.BigRegion
import Derived.Deep.DeepCutAuto
set_option linter.unusedSimpArgs false
set_option linter.unusedVariables false
set_option linter.unusedSectionVars false
namespace Go.Proofs.YtdoplndijlfabaaDoor
open Go.RowKit
namespace Pl
open Rte
def cutV (l : List UInt8) : Value := match cutL l with
  | some (a, b) => .tuple #[.string ⟨a.toArray⟩, .string ⟨b.toArray⟩, .bool true]
  | none => .tuple #[.string ⟨#[]⟩, .string ⟨#[]⟩, .bool false]
set_option maxHeartbeats 2000000 in
theorem cutLast_any (s : ByteArray) (w : World) (hs : s.size ≤ 274877906944) :
    Calls Tryd.prog 20 #[.string s] w fun e w' => e = .returned (cutV s.data.toList) ∧ Reg.Ext w w' := by
  have HL := Lib.hid (Str.lastIndex_any s [47] (by omega) w)
  go_enter Tryd.func20, Tryd.ntmps20
  rcases last_cut s.data.toList with ⟨h1, h2⟩ | ⟨k, hk, h1, h2⟩
  · have HV := Lib.hid (show cutV s.data.toList = .tuple #[.string ⟨#[]⟩, .string ⟨#[]⟩, .bool false] by unfold cutV; rw [h2])
    rw [h1] at HL
    clear h1 h2
    go_wp2_with fail
    refine HL.out.mono ?_
    rintro e w' ⟨rfl, rfl⟩
    go_wp2_with fail
    go_ret3
    exact ⟨by rw [HV.out]; rfl, Reg.Ext.refl _⟩
  · rw [len_data] at hk
    have HA : Hid ((⟨(s.data.toList.take k).toArray⟩ : ByteArray) = s.extract 0 k) := by show _ = _; rw [← ext_to]
    have HB : Hid ((⟨(s.data.toList.drop (k + 1)).toArray⟩ : ByteArray) = s.extract (k + 1) s.size) := by show _ = _; rw [← ext_from]
    have HV := Lib.hid (show cutV s.data.toList = .tuple #[.string (s.extract 0 k), .string (s.extract (k + 1) s.size), .bool true] by unfold cutV; rw [h2]; simp only; rw [HA.out, HB.out])
    rw [h1] at HL
    clear h1 h2
    go_wp2_with fail
    refine HL.out.mono ?_
    rintro e w' ⟨rfl, rfl⟩
    have n1 : IntKind.i64.wrap ((k : Int) + 1) = (k : Int) + 1 := IntWalk.i64_in _ (by omega)
    have n2 : (0 : Int) ≤ (k : Int) + 1 := by omega
    have n3 : ((k : Int) + 1).toNat = k + 1 := by omega
    have n4 : (0 : Int) ≤ (k : Int) := by omega
    have n5 : (k : Int) ≤ (s.size : Int) := by omega
    have n6 : (k : Int) + 1 ≤ (s.size : Int) := by omega
    go_wp2_with fail
    go_quiet (fail)
    go_wp2_with fail
    go_ret3
    exact ⟨by rw [HV.out]; rfl, Reg.Ext.drewN _ _⟩
def zlitS (n : Int) : S := ⟨n, noStr, noStr, zeros⟩
theorem zlit_dig (n : Int) : (zlitS n).dig.length = 32 := zeros_len
set_option maxRecDepth 100000 in
set_option maxHeartbeats 4000000 in
theorem good_any (r : S) (hr : r.dig.length = 32) (w : World) :
    Calls Tryd.prog 17 #[.agg r.cells.toArray] w fun e w' => e = .returned (.bool (goodP r)) ∧ Reg.Ext w w' := by
  have hb := boxS w r
  have hx := Reg.Ext.alloc w (Obj.cells r.cells.toArray 26)
  go_enter Tryd.func17, Tryd.ntmps17
  go_upto_region 1 with (fail)
  generalize w.alloc (Obj.cells r.cells.toArray 26) = w0 at *
  generalize w.heap.size = g at hb ⊢
  have HB := Lib.hid hb
  have HX := Lib.hid hx
  have c0 : w0.cell? ⟨g, 0, none⟩ = some (.int .i64 r.k) := hb.cell 0
  have c1 : w0.cell? ⟨g, 1, none⟩ = some (.string r.repo) := hb.cell 1
  clear hb hx
  by_cases k1 : r.k = 1
  · have HV := Lib.hid (show goodP r = r.same (zlitS 1) by unfold goodP zlitS; rw [if_pos k1])
    have e1 : (r.k == 1) = true := by simpa using k1
    clear k1
    go_upto_region 3 with (fail)
    refine wp_region_lit ?_
    refine wpList_rt rfl _ rfl g rfl _ r hr HB ?_
    simp only [Act.put, Act.eval, List.setIfInBounds_toArray, List.set_cons_zero, List.set_cons_succ, Nat.reduceAdd, Array.getD_eq_getD_getElem?, List.getElem?_toArray, List.getElem?_cons_succ, List.getElem?_cons_zero, Option.getD_some]
    refine wpList_val rfl (.agg (zlitS 1).cells.toArray) (by as_aux_lemma => kernel_rfl) ?_
    simp only [Act.put, Act.eval, List.setIfInBounds_toArray, List.set_cons_zero, List.set_cons_succ, Nat.reduceAdd, Array.getD_eq_getD_getElem?, List.getElem?_toArray, List.getElem?_cons_succ, List.getElem?_cons_zero, Option.getD_some]
    refine wpList_val rfl (.bool (r.same (zlitS 1))) (exec_eql r (zlitS 1) hr (zlit_dig 1) _ _ rfl rfl rfl) ?_
    simp only [Act.put, Act.eval, List.setIfInBounds_toArray, List.set_cons_zero, List.set_cons_succ, Nat.reduceAdd, Array.getD_eq_getD_getElem?, List.getElem?_toArray, List.getElem?_cons_succ, List.getElem?_cons_zero, Option.getD_some]
    go_wp2_with fail
    go_ret
    exact ⟨by rw [HV.out]; rfl, HX.out⟩
  have e1 : (r.k == 1) = false := by simpa using k1
  by_cases k2 : r.k = 2
  · have e2 : (r.k == 2) = true := by simpa using k2
    have hv : goodP r = (repoP r.repo.data.toList && (tagP r.tag.data.toList && r.dig == zeros)) := by unfold goodP; rw [if_neg k1, if_pos k2]
    clear k1 k2
    go_wp2_with fail
    refine (repo_any r.repo w0).mono ?_
    rintro e w1 ⟨rfl, x1⟩
    have HX1 := Lib.hid (HX.out.trans x1)
    have HB1 := Lib.hid (HB.out.ext x1)
    clear x1 c0 c1 HX
    have c2 : w1.cell? ⟨g, 2, none⟩ = some (.string r.tag) := HB1.out.cell 2
    cases hb : repoP r.repo.data.toList with
    | false =>
      have HV := Lib.hid (show goodP r = false by rw [hv, hb]; rfl)
      clear hv hb
      go_wp2_with fail
      go_ret
      exact ⟨by rw [HV.out]; rfl, HX1.out⟩
    | true =>
      rw [hb] at hv
      clear hb
      go_wp2_with fail
      refine (tag_any r.tag w1).mono ?_
      rintro e w2 ⟨rfl, x2⟩
      have HX2 := Lib.hid (HX1.out.trans x2)
      have HB2 := Lib.hid (HB1.out.ext x2)
      clear x2 c2 HX1
      cases ht : tagP r.tag.data.toList with
      | false =>
        have HV := Lib.hid (show goodP r = false by rw [hv, ht]; rfl)
        clear hv ht
        go_wp2_with fail
        go_ret
        exact ⟨by rw [HV.out]; rfl, HX2.out⟩
      | true =>
        have HV := Lib.hid (show goodP r = (r.dig == zeros) by rw [hv, ht]; rfl)
        have HE := Lib.hid (fun w => equal_dig hr zeros_len 9998 w)
        clear hv ht
        rename_i hK
        refine hK _ _ ?_
        have he := HE.out w2
        repeat (first | refine wpList_rd rfl _ rfl g rfl _ r hr HB2 ?_ | refine wpList_valw rfl (.agg (zeros.map byteV).toArray) (by as_aux_lemma => kernel_rfl) ?_ | go_step)
        go_wp2_with fail
        go_ret
        exact ⟨by rw [HV.out]; rfl, HX2.out⟩
  have e2 : (r.k == 2) = false := by simpa using k2
  by_cases k34 : r.k = 3 ∨ r.k = 4
  · have hv : goodP r = (repoP r.repo.data.toList && decide (r.tag.size = 0)) := by unfold goodP; rw [if_neg k1, if_neg k2, if_pos k34]
    have ht : (r.tag.toList == []) = decide (r.tag.size = 0) := by
      rw [test_lit, Bool.eq_iff_iff, decide_eq_true_iff, decide_eq_true_iff, ← len_data]
      exact ⟨fun h => by rw [h]; rfl, fun h => List.eq_nil_of_length_eq_zero h⟩
    have ht2 : r.tag.toList.isEmpty = decide (r.tag.size = 0) := by rw [← ht]; cases r.tag.toList <;> rfl
    have e34 : (r.k == 3) = true ∨ ((r.k == 3) = false ∧ (r.k == 4) = true) := by
      rcases k34 with h | h
      · exact .inl (by simpa using h)
      · exact .inr ⟨by rw [h]; rfl, by simpa using h⟩
    generalize decide (r.tag.size = 0) = bt at *
    clear k1 k2 k34
    rcases e34 with e3 | ⟨e3, e4⟩
    all_goals
      go_wp2_with fail
      refine (repo_any r.repo w0).mono ?_
      rintro e w1 ⟨rfl, x1⟩
      have HX1 := Lib.hid (HX.out.trans x1)
      have HB1 := Lib.hid (HB.out.ext x1)
      clear x1 c0 c1 HX
      have c2 : w1.cell? ⟨g, 2, none⟩ = some (.string r.tag) := HB1.out.cell 2
      cases hb : repoP r.repo.data.toList with
      | false =>
        have HV := Lib.hid (show goodP r = false by rw [hv, hb]; rfl)
        clear hv hb
        go_wp2_with fail
        go_ret
        exact ⟨by rw [HV.out]; rfl, HX1.out⟩
      | true =>
        have HV := Lib.hid (show goodP r = bt by rw [hv, hb]; rfl)
        clear hv hb
        go_wp2_with fail
        go_ret
        exact ⟨by rw [HV.out]; rfl, HX1.out⟩
  · have HV := Lib.hid (show goodP r = false by unfold goodP; rw [if_neg k1, if_neg k2, if_neg k34])
    have e3 : (r.k == 3) = false := by rw [beq_eq_false_iff_ne]; exact fun h => k34 (.inl h)
    have e4 : (r.k == 4) = false := by rw [beq_eq_false_iff_ne]; exact fun h => k34 (.inr h)
    clear k1 k2 k34
    go_wp2_with fail
    go_ret
    exact ⟨by rw [HV.out]; rfl, HX.out⟩
end Pl
end Go.Proofs.YtdoplndijlfabaaDoor

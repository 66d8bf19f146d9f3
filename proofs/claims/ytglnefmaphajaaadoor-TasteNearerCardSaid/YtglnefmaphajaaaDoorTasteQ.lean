/- Package taste: weight, Quality. -/
import Derived.Test.YtglnefmaphajaaaDoorTasteS
import Derived.Test.YtglnefmaphajaaaDoorRealQual
set_option linter.unusedSimpArgs false
set_option linter.unusedVariables false
set_option linter.unusedSectionVars false
namespace Go.Proofs.YtglnefmaphajaaaDoor
open Go.RowKit
namespace Tst
open Fld
def weightV (p : Nat × Bool) : Value := .tuple #[.float .f64 p.1, .bool p.2]
theorem qual_lt {l : List UInt8} (h : FloatP.isW l = true) : FloatP.qv (FloatP.wn l) (FloatP.wk l) < 18446744073709551616 := by
  obtain ⟨hle, hk3⟩ := FloatP.wn_le h
  obtain ⟨r, _, _, _, _, _, _, h8⟩ := FloatP.good_spec (FloatP.good_all _ _ hk3 hle)
  exact h8
theorem weightP_cons (p : List UInt8 × List UInt8) (ps : List (List UInt8 × List UInt8)) : weightP (p :: ps) = if p.1 = [113] then (if FloatP.isW p.2 = true then (FloatP.qv (FloatP.wn p.2) (FloatP.wk p.2), true) else (0, false)) else weightP ps := rfl
theorem weight_lt : ∀ ps : List (List UInt8 × List UInt8), (weightP ps).1 < 18446744073709551616
  | [] => by decide
  | p :: ps => by
    unfold weightP
    split
    · split
      · next h => exact qual_lt h
      · decide
    · exact weight_lt ps
set_option maxRecDepth 100000 in
set_option maxHeartbeats 8000000 in
theorem weight_any (A : Option Addr) (cap : Nat) (fs : List Fld) (w : World) (HF : Hid (Fl w A fs)) (hn : fs.length ≤ 536870913) (HZ : Hid (∀ f ∈ fs, f.2.size ≤ 274877906944)) :
    Calls Tryd.prog 19 #[.slice A fs.length cap] w fun e w' => e = .returned (weightV (weightP (fs.map pd))) ∧ Reg.Ext w w' := by
  go_enter Tryd.func19, Tryd.ntmps19
  go_wp2_with fail
  go_loopw [5, 6, 7, 10] (fun _ _ _ i wr => ∃ k : Nat, i = .int .i64 (k : Int) ∧ k ≤ fs.length ∧ Hid (weightP (fs.map pd) = weightP ((fs.drop k).map pd)) ∧ Hid (Reg.Ext w wr)) (fun _ _ _ i _ => fs.length - (intOf i).toNat)
  case atStart => exact ⟨0, rfl, Nat.zero_le _, rfl, Reg.Ext.refl w⟩
  case round =>
    obtain ⟨k, rfl, hk, HW, HX⟩ := hrel
    by_cases hks : k < fs.length
    · obtain ⟨g, o, rfl, -, q1, q2⟩ := (HF.out.ext HX.out) k hks
      have hmem : fs[k] ∈ fs := List.getElem_mem hks
      have hz := HZ.out fs[k] hmem
      have hw := HW.out
      rw [List.drop_eq_getElem_cons hks, List.map_cons] at hw
      clear hmem HW
      generalize fs[k] = f at *
      rw [weightP_cons] at hw
      have HW := Lib.hid hw
      have t0 := test_lit f.1 [113]
      clear hw
      go_upto_region 3 with (fail)
      refine wp_region_lit ?_
      iterate 3 go_step
      refine wpList_fld rfl _ rfl g (o + k * 2) rfl f q1 q2 ?_
      simp only [Act.put, Act.eval, List.setIfInBounds_toArray, List.set_cons_zero, List.set_cons_succ, Nat.reduceAdd, Array.getD_eq_getD_getElem?, List.getElem?_toArray, List.getElem?_cons_succ, List.getElem?_cons_zero, Option.getD_some]
      iterate 3 go_step
      have hbf := Blk.new wr 35 #[.string ⟨#[]⟩, .string ⟨#[]⟩]
      refine wpList_stf rfl _ _ rfl wr.heap.size f rfl rfl [.string ⟨#[]⟩, .string ⟨#[]⟩] rfl (Lib.hid hbf) ?_
      simp only [Act.put, Act.eval, List.setIfInBounds_toArray, List.set_cons_zero, List.set_cons_succ, Nat.reduceAdd, Array.getD_eq_getD_getElem?, List.getElem?_toArray, List.getElem?_cons_succ, List.getElem?_cons_zero, Option.getD_some]
      clear hbf
      obtain ⟨hb8, hx8⟩ := newf wr f #[.string ⟨#[]⟩, .string ⟨#[]⟩] rfl
      generalize ((wr.alloc (Obj.cells #[.string ⟨#[]⟩, .string ⟨#[]⟩] 35)).setCells wr.heap.size 0 [.string f.1, .string f.2]) = w8 at *
      generalize wr.heap.size = g8 at *
      have H8 := Lib.hid hb8
      have X8 := Lib.hid hx8
      clear hb8 hx8 q1 q2
      have c0 : w8.cell? ⟨g8, 0, none⟩ = some (.string f.1) := H8.out.cell 0
      have c1 : w8.cell? ⟨g8, 1, none⟩ = some (.string f.2) := H8.out.cell 1
      have HX8 := Lib.hid (HX.out.trans X8.out)
      clear HX X8 H8
      by_cases h113 : f.1.data.toList = [113]
      · rw [decide_eq_true h113] at t0
        have hw2 : weightP (fs.map pd) = if FloatP.isW f.2.data.toList = true then (FloatP.qv (FloatP.wn f.2.data.toList) (FloatP.wk f.2.data.toList), true) else (0, false) := HW.out.trans (if_pos h113)
        have CQ := fun w => Lib.hid (Flt.quality_any f.2 w hz)
        unfold Flt.qualV at CQ
        clear HW h113
        cases hiw : FloatP.isW f.2.data.toList with
        | true =>
          rw [hiw, if_pos rfl] at hw2
          simp only [hiw, if_true] at CQ
          have HV := Lib.hid (show weightV (weightP (fs.map pd)) = .tuple #[.float .f64 (FloatP.qv (FloatP.wn f.2.data.toList) (FloatP.wk f.2.data.toList)), .bool true] by rw [hw2]; rfl)
          clear hw2 hiw
          generalize FloatP.qv (FloatP.wn f.2.data.toList) (FloatP.wk f.2.data.toList) = q at *
          go_wp2_with fail
          refine (CQ w8).out.mono ?_
          rintro e w9 ⟨rfl, x9⟩
          have HX9 := Lib.hid (HX8.out.trans x9)
          clear x9 HX8
          go_wp2_with fail
          go_ret2
          exact ⟨by rw [HV.out]; rfl, HX9.out⟩
        | false =>
          rw [hiw, if_neg (by decide)] at hw2
          simp only [hiw, if_false, Bool.false_eq_true] at CQ
          have HV := Lib.hid (show weightV (weightP (fs.map pd)) = .tuple #[.float .f64 0, .bool false] by rw [hw2]; rfl)
          clear hw2 hiw
          go_wp2_with fail
          refine (CQ w8).out.mono ?_
          rintro e w9 ⟨rfl, x9⟩
          have HX9 := Lib.hid (HX8.out.trans x9)
          clear x9 HX8
          go_wp2_with fail
          go_ret2
          exact ⟨by rw [HV.out]; rfl, HX9.out⟩
      · rw [decide_eq_false h113] at t0
        have HW2 : Hid (weightP (fs.map pd) = weightP ((fs.drop (k + 1)).map pd)) := HW.out.trans (if_neg h113)
        clear HW h113
        go_wp2_with fail
        go_roundw
        case rel => exact ⟨k + 1, by go_num, by omega, HW2, HX8⟩
        case measure => simp [intOf]; omega
    · have hw := HW.out
      rw [List.drop_of_length_le (by omega)] at hw
      have HV := Lib.hid (show weightV (weightP (fs.map pd)) = .tuple #[.float .f64 4607182418800017408, .bool true] by rw [hw]; rfl)
      clear hw
      go_wp2_with fail
      go_ret2
      exact ⟨by rw [HV.out]; rfl, HX.out⟩
end Tst
end Go.Proofs.YtglnefmaphajaaaDoor

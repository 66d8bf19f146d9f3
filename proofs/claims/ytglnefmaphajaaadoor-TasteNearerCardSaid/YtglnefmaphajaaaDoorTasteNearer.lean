/- Chapter 17: TasteNearer, the walk. -/
import Derived.Test.YtglnefmaphajaaaDoorTasteN
set_option linter.unusedSimpArgs false
set_option linter.unusedVariables false
set_option linter.unusedSectionVars false
namespace Go.Proofs.YtglnefmaphajaaaDoor
open Go.RowKit
namespace Tst
open Fld
theorem sz_n1 (f : Fld) (h1 : f.1.size ≤ 536870912) (h2 : f.2.size ≤ 536870912) : Sz [f] := ⟨by simp, fun x hx => by rw [List.mem_singleton.1 hx]; exact ⟨h1, h2⟩⟩
theorem sz_n2 (f h : Fld) (h1 : f.1.size ≤ 536870912) (h2 : f.2.size ≤ 536870912) (h3 : h.1.size ≤ 536870912) (h4 : h.2.size ≤ 536870912) : Sz [f, h] := ⟨by simp, fun x hx => by
  rcases List.mem_cons.1 hx with rfl | hx
  · exact ⟨h1, h2⟩
  · rw [List.mem_singleton.1 hx]; exact ⟨h3, h4⟩⟩
def fiveV : List Value := [.string (wB 0), .string (wB 1), .string (wB 2), .string (wB 3), .string (wB 4)]
theorem five_at {k : Nat} (h : k ≤ 4) : fiveV[k]? = some (.string (wB k)) := by
  rcases (by omega : k = 0 ∨ k = 1 ∨ k = 2 ∨ k = 3 ∨ k = 4) with rfl | rfl | rfl | rfl | rfl <;> rfl
theorem wB_size {k : Nat} (h : k ≤ 4) : (wB k).size ≤ 5 := by
  rcases (by omega : k = 0 ∨ k = 1 ∨ k = 2 ∨ k = 3 ∨ k = 4) with rfl | rfl | rfl | rfl | rfl <;> decide
theorem ext3 (V : ByteArray) (j : Nat) : (V.extract j (j + 3)).data.toList = (V.data.toList.drop j).take 3 := by
  rw [ext_data, Nat.add_sub_cancel_left]
set_option maxRecDepth 100000 in
set_option maxHeartbeats 32000000 in
theorem nearer_law (V : ByteArray) (n : Int) (ah : Bool) (w : World) (hV : V.size ≤ maxLen) :
    Calls Tryd.prog 4 #[.string V, .int .i64 n, .bool ah] w fun e w' => e = .returned (.bool true) ∧ Reg.Ext w w' := by
  unfold maxLen at hV
  go_enter Tryd.func4, Tryd.ntmps4
  go_wp2_with fail
  refine (awake_any w).mono ?_
  rintro e w1 ⟨rfl, x1⟩
  have X1 := Lib.hid x1
  clear x1
  by_cases hl : 512 < V.size
  · have d1 : decide ((512 : Int) < (V.size : Int)) = true := by rw [decide_eq_true_iff]; omega
    go_wp2_with fail
    go_ret
    exact ⟨rfl, X1.out⟩
  have d1 : decide ((512 : Int) < (V.size : Int)) = false := by rw [decide_eq_false_iff_not]; omega
  go_upto_region 5 with (fail)
  refine wp_region_lit ?_
  refine wpList_valF rfl (.agg fiveV.toArray) (by as_aux_lemma => kernel_rfl) ?_
  simp only [Act.put, Act.eval, List.setIfInBounds_toArray, List.set_cons_zero, List.set_cons_succ, Nat.reduceAdd, Array.getD_eq_getD_getElem?, List.getElem?_toArray, List.getElem?_cons_succ, List.getElem?_cons_zero, Option.getD_some]
  iterate 3 go_step
  have hbf := Blk.new w1 31 #[.string ⟨#[]⟩, .string ⟨#[]⟩, .string ⟨#[]⟩, .string ⟨#[]⟩, .string ⟨#[]⟩]
  have hxf := Reg.Ext.alloc w1 (Obj.cells #[.string ⟨#[]⟩, .string ⟨#[]⟩, .string ⟨#[]⟩, .string ⟨#[]⟩, .string ⟨#[]⟩] 31)
  have hxs := hxf.trans_but (But.setCells w1.heap.size fiveV 0 _) (Nat.le_refl _)
  generalize w1.alloc (Obj.cells #[.string ⟨#[]⟩, .string ⟨#[]⟩, .string ⟨#[]⟩, .string ⟨#[]⟩, .string ⟨#[]⟩] 31) = wf at *
  have HBF := Lib.hid hbf
  clear hbf hxf
  refine wpList_store_mid rfl 31 _ _ rfl w1.heap.size 0 fiveV.toArray rfl rfl (HBF.out.there _ (Nat.le_refl 5)) (by kernel_rfl) (by simp [fiveV, Value.oneCell']) ?_
  simp only [List.toList_toArray]
  simp only [Act.put, Act.eval, List.setIfInBounds_toArray, List.set_cons_zero, List.set_cons_succ, Nat.reduceAdd, Array.getD_eq_getD_getElem?, List.getElem?_toArray, List.getElem?_cons_succ, List.getElem?_cons_zero, Option.getD_some]
  have hbs := HBF.out.setAll fiveV rfl
  generalize wf.setCells w1.heap.size 0 fiveV = w2 at *
  have HB2 := Lib.hid hbs
  have X2 := Lib.hid (X1.out.trans hxs)
  clear hbs hxs HBF X1
  generalize w1.heap.size = g7 at *
  obtain ⟨k, hk, ek⟩ := umod n 4 (by omega)
  rw [show (((4 : Nat) : Int) + 1) = 5 from rfl] at ek
  have ck : w2.cell? ⟨g7, k, none⟩ = some (.string (wB k)) := by rw [HB2.out.cell, five_at hk]
  have hws := wB_size hk
  obtain ⟨O, hO⟩ : ∃ O : ByteArray, ⟨#[122, 122, 57, 47, 111, 119, 110, 59, 113, 61]⟩ ++ wB k = O := ⟨_, rfl⟩
  have hOl : O.data.toList = ownL k := by rw [← hO]; simp [ownL]
  have hOs : O.size ≤ 20 := by
    have e1 : (⟨#[122, 122, 57, 47, 111, 119, 110, 59, 113, 61]⟩ : ByteArray).size = 10 := rfl
    rw [← hO, ByteArray.size_append, e1]; omega
  go_wp2_with fail
  first | rw [hO] | skip
  refine (accept_any O w2).mono ?_
  rintro e w3 ⟨g9, rfl, hr3, x3⟩
  have X3 := Lib.hid (X2.out.trans x3)
  have HB3 := Lib.hid (HB2.out.ext x3)
  have HR3 := Lib.hid hr3
  clear x3 X2 HB2 ck hr3
  obtain ⟨ad, ead, -, c0, c1⟩ := RdF.at_ HR3.out 0 (by simp)
  injection ead with ead
  subst ead
  rw [add_plain] at c0 c1
  have c0' : w3.cell? ⟨g9, 0, none⟩ = some (.string accB) := c0
  have c1' : w3.cell? ⟨g9, 0 + 1, none⟩ = some (.string O) := c1
  clear c0 c1
  go_upto_region 8 with (fail)
  refine wp_region_lit ?_
  iterate 12 go_step
  refine wpList_fld rfl _ rfl g9 0 rfl (accB, O) c0' c1' ?_
  simp only [Act.put, Act.eval, List.setIfInBounds_toArray, List.set_cons_zero, List.set_cons_succ, Nat.reduceAdd, Array.getD_eq_getD_getElem?, List.getElem?_toArray, List.getElem?_cons_succ, List.getElem?_cons_zero, Option.getD_some]
  simp only [fv]
  iterate 3 go_step
  have hx := Reg.Ext.alloc w3 (.cells #[.string ⟨#[65, 99, 99, 101, 112, 116]⟩, .string V, .string accB, .string O] 35)
  have hr : RdF (w3.alloc (.cells #[.string ⟨#[65, 99, 99, 101, 112, 116]⟩, .string V, .string accB, .string O] 35)) (some ⟨w3.heap.size, 0, none⟩) [(accB, V), (accB, O)] := Rd.new w3 35 #[_, _, _, _]
  generalize w3.alloc (.cells #[.string ⟨#[65, 99, 99, 101, 112, 116]⟩, .string V, .string accB, .string O] 35) = wl at *
  generalize w3.heap.size = gl at *
  have XL := Lib.hid (X3.out.trans hx)
  have HBl := Lib.hid (HB3.out.ext hx)
  have HL := Lib.hid hr
  have c0 := hx.at_ c0'
  have c1 := hx.at_ c1'
  clear hx hr X3 HB3 HR3 c0' c1'
  cases ah with
  | false =>
    clear c0 c1
    have ck2 : wl.cell? ⟨g7, k, none⟩ = some (.string (wB k)) := by rw [HBl.out.cell, five_at hk]
    go_wp2_with fail
    first | rw [hO] | skip
    refine (accept_any O wl).mono ?_
    rintro e wm ⟨g11, rfl, hrm, xm⟩
    have XM := Lib.hid (XL.out.trans xm)
    have HLm := Lib.hid (HL.out.ext xm)
    have QO := Lib.hid (quality_any (some ⟨g11, 0, none⟩) 1 [(accB, O)] ⟨#[122, 122, 57, 47, 111, 119, 110]⟩ wm (Lib.hid (Fl.of_rd hrm)) (sz_n1 _ (by decide : accB.size ≤ 536870912) (by show O.size ≤ _; omega)) (by decide))
    rw [show (⟨#[122, 122, 57, 47, 111, 119, 110]⟩ : ByteArray).data.toList = kL from rfl, qual_one (own_all hk) O hOl] at QO
    clear xm hrm XL HL ck2 HBl
    go_wp2_with fail
    refine QO.out.mono ?_
    rintro e wn ⟨rfl, xn⟩
    have XN := Lib.hid (XM.out.trans xn)
    have HLn := Lib.hid (HLm.out.ext xn)
    clear xn XM HLm QO
    go_wp2_with fail
    go_loopw [12, 13] (fun i _ wr => ∃ j : Nat, i = .int .i64 (j : Int) ∧ j ≤ V.size ∧ Hid (∀ p, p < j → p + 3 ≤ V.data.toList.length → ¬ bad3 ((V.data.toList.drop p).take 3)) ∧ wn = wr) (fun i _ _ => V.size + 1 - (intOf i).toNat)
    case atStart => exact ⟨0, rfl, Nat.zero_le _, Lib.hid (fun p hp => by omega), rfl⟩
    case round =>
      obtain ⟨j, rfl, hj, HZ, rfl⟩ := hrel
      by_cases hj3 : j + 3 ≤ V.size
      · have d3 : decide ((j : Int) + 3 ≤ (V.size : Int)) = true := by rw [decide_eq_true_iff]; omega
        have t1 := test_lit (V.extract j (j + 3)) [122, 122, 57]
        have t2 := test_lit (V.extract j (j + 3)) [90, 90, 57]
        have t3 := test_lit (V.extract j (j + 3)) [90, 122, 57]
        have t4 := test_lit (V.extract j (j + 3)) [122, 90, 57]
        rw [ext3] at t1 t2 t3 t4
        have HB : Hid (¬ bad3 ((V.data.toList.drop j).take 3) → ∀ p, p < j + 1 → p + 3 ≤ V.data.toList.length → ¬ bad3 ((V.data.toList.drop p).take 3)) := fun hb p hp h3 => by
          rcases Nat.lt_or_ge p j with h | h
          · exact HZ.out p h h3
          · have : p = j := by omega
            subst this; exact hb
        generalize (V.data.toList.drop j).take 3 = t at *
        by_cases b1 : t = [122, 122, 57]
        · rw [decide_eq_true b1] at t1
          clear b1
          go_wp2_with fail
          go_ret
          exact ⟨rfl, XN.out⟩
        rw [decide_eq_false b1] at t1
        by_cases b2 : t = [90, 90, 57]
        · rw [decide_eq_true b2] at t2
          clear b1 b2
          go_wp2_with fail
          go_ret
          exact ⟨rfl, XN.out⟩
        rw [decide_eq_false b2] at t2
        by_cases b3 : t = [90, 122, 57]
        · rw [decide_eq_true b3] at t3
          clear b1 b2 b3
          go_wp2_with fail
          go_ret
          exact ⟨rfl, XN.out⟩
        rw [decide_eq_false b3] at t3
        by_cases b4 : t = [122, 90, 57]
        · rw [decide_eq_true b4] at t4
          clear b1 b2 b3 b4
          go_wp2_with fail
          go_ret
          exact ⟨rfl, XN.out⟩
        rw [decide_eq_false b4] at t4
        have HZ2 := Lib.hid (HB.out (by rintro (h | h | h | h); exact b1 h; exact b2 h; exact b3 h; exact b4 h))
        clear b1 b2 b3 b4 HB HZ
        go_wp2_with fail
        go_roundw
        case rel => exact ⟨j + 1, by go_num, by omega, HZ2, trivial⟩
        case measure => simp [intOf]; omega
      · have d3 : decide ((j : Int) + 3 ≤ (V.size : Int)) = false := by rw [decide_eq_false_iff_not]; omega
        have hno : NoZ V.data.toList := fun p hp => by
          refine HZ.out p ?_ hp
          rw [len_data] at hp; omega
        have QL := fun w' (h : Reg.Ext wn w') => Lib.hid (quality_any (some ⟨gl, 0, none⟩) 2 [(accB, V), (accB, O)] ⟨#[122, 122, 57, 47, 111, 119, 110]⟩ w' (Lib.hid (Fl.of_rd (HLn.out.ext h))) (sz_n2 _ _ (by decide : accB.size ≤ 536870912) (by show V.size ≤ _; omega) (by decide : accB.size ≤ 536870912) (by show O.size ≤ _; omega)) (by decide))
        have QU := fun w' (h : Reg.Ext wn w') => Lib.hid (quality_any (some ⟨gl, 0, none⟩) 2 [(accB, V), (accB, O)] ⟨#[90, 90, 57, 47, 79, 119, 110]⟩ w' (Lib.hid (Fl.of_rd (HLn.out.ext h))) (sz_n2 _ _ (by decide : accB.size ≤ 536870912) (by show V.size ≤ _; omega) (by decide : accB.size ≤ 536870912) (by show O.size ≤ _; omega)) (by decide))
        rw [show (⟨#[122, 122, 57, 47, 111, 119, 110]⟩ : ByteArray).data.toList = kL from rfl, qual_behind (own_all hk) O V hOl hno] at QL
        rw [show (⟨#[90, 90, 57, 47, 79, 119, 110]⟩ : ByteArray).data.toList = kU from rfl, qual_kU, qual_behind (own_all hk) O V hOl hno] at QU
        have hself := fin_self hk
        have hself' : (FloatKind.f64.format.order (qW k) (qW k) == some .eq) = true := hself
        clear hno HZ HLn hOl hself
        by_cases k0 : k = 0
        · subst k0
          have f0 : (FloatKind.f64.format.order (qW 0) 0 == some .eq) = true := fin0
          generalize qW 0 = q at *
          go_wp2_with fail
          refine (QL wn (Reg.Ext.refl _)).out.mono ?_
          rintro e wo ⟨rfl, xo⟩
          have XO := Lib.hid (XN.out.trans xo)
          go_wp2_with fail
          refine (QU wo xo).out.mono ?_
          rintro e wp ⟨rfl, xp⟩
          have XP := Lib.hid (XO.out.trans xp)
          clear xo xp XO
          go_wp2_with fail
          go_ret
          exact ⟨rfl, XP.out⟩
        by_cases k4 : k = 4
        · subst k4
          have f4 : (FloatKind.f64.format.order (qW 4) 4607182418800017408 == some .eq) = true := fin4
          generalize qW 4 = q at *
          go_wp2_with fail
          refine (QL wn (Reg.Ext.refl _)).out.mono ?_
          rintro e wo ⟨rfl, xo⟩
          have XO := Lib.hid (XN.out.trans xo)
          go_wp2_with fail
          refine (QU wo xo).out.mono ?_
          rintro e wp ⟨rfl, xp⟩
          have XP := Lib.hid (XO.out.trans xp)
          clear xo xp XO
          go_wp2_with fail
          go_ret
          exact ⟨rfl, XP.out⟩
        obtain ⟨h1, h2⟩ := fin1 (k := k) (by omega)
        have f1 : (FloatKind.f64.format.order (qW k) 0 == some .gt) = true := h1
        have f2 : (FloatKind.f64.format.order (qW k) 4607182418800017408 == some .lt) = true := h2
        have e0 : ((k : Int) == 0) = false := by rw [beq_eq_false_iff_ne]; omega
        have e4 : ((k : Int) == 4) = false := by rw [beq_eq_false_iff_ne]; omega
        clear h1 h2
        generalize qW k = q at *
        go_wp2_with fail
        refine (QL wn (Reg.Ext.refl _)).out.mono ?_
        rintro e wo ⟨rfl, xo⟩
        have XO := Lib.hid (XN.out.trans xo)
        go_wp2_with fail
        refine (QU wo xo).out.mono ?_
        rintro e wp ⟨rfl, xp⟩
        have XP := Lib.hid (XO.out.trans xp)
        clear xo xp XO
        go_wp2_with fail
        go_ret
        exact ⟨rfl, XP.out⟩
  | true =>
    go_upto_region 10 with (fail)
    refine wp_region_lit ?_
    iterate 6 go_step
    refine wpList_fld rfl _ rfl g9 0 rfl (accB, O) c0 c1 ?_
    simp only [Act.put, Act.eval, List.setIfInBounds_toArray, List.set_cons_zero, List.set_cons_succ, Nat.reduceAdd, Array.getD_eq_getD_getElem?, List.getElem?_toArray, List.getElem?_cons_succ, List.getElem?_cons_zero, Option.getD_some]
    simp only [fv]
    iterate 9 go_step
    have hx := Reg.Ext.alloc wl (.cells #[.string accB, .string O, .string ⟨#[65, 99, 99, 101, 112, 116]⟩, .string V] 35)
    have hr : RdF (wl.alloc (.cells #[.string accB, .string O, .string ⟨#[65, 99, 99, 101, 112, 116]⟩, .string V] 35)) (some ⟨wl.heap.size, 0, none⟩) [(accB, O), (accB, V)] := Rd.new wl 35 #[_, _, _, _]
    have XL2 := Lib.hid (XL.out.trans hx)
    have HBl2 := Lib.hid (HBl.out.ext hx)
    clear XL HBl HL c0 c1
    generalize wl.heap.size = gl at *
    generalize wl.alloc (.cells #[.string accB, .string O, .string ⟨#[65, 99, 99, 101, 112, 116]⟩, .string V] 35) = wl at *
    have HL := Lib.hid hr
    have XL := XL2
    have HBl := HBl2
    clear hx hr XL2 HBl2
    have ck2 : wl.cell? ⟨g7, k, none⟩ = some (.string (wB k)) := by rw [HBl.out.cell, five_at hk]
    go_wp2_with fail
    first | rw [hO] | skip
    refine (accept_any O wl).mono ?_
    rintro e wm ⟨g11, rfl, hrm, xm⟩
    have XM := Lib.hid (XL.out.trans xm)
    have HLm := Lib.hid (HL.out.ext xm)
    have QO := Lib.hid (quality_any (some ⟨g11, 0, none⟩) 1 [(accB, O)] ⟨#[122, 122, 57, 47, 111, 119, 110]⟩ wm (Lib.hid (Fl.of_rd hrm)) (sz_n1 _ (by decide : accB.size ≤ 536870912) (by show O.size ≤ _; omega)) (by decide))
    rw [show (⟨#[122, 122, 57, 47, 111, 119, 110]⟩ : ByteArray).data.toList = kL from rfl, qual_one (own_all hk) O hOl] at QO
    clear xm hrm XL HL ck2 HBl
    go_wp2_with fail
    refine QO.out.mono ?_
    rintro e wn ⟨rfl, xn⟩
    have XN := Lib.hid (XM.out.trans xn)
    have HLn := Lib.hid (HLm.out.ext xn)
    clear xn XM HLm QO
    go_wp2_with fail
    go_loopw [12, 13] (fun i _ wr => ∃ j : Nat, i = .int .i64 (j : Int) ∧ j ≤ V.size ∧ Hid (∀ p, p < j → p + 3 ≤ V.data.toList.length → ¬ bad3 ((V.data.toList.drop p).take 3)) ∧ wn = wr) (fun i _ _ => V.size + 1 - (intOf i).toNat)
    case atStart => exact ⟨0, rfl, Nat.zero_le _, Lib.hid (fun p hp => by omega), rfl⟩
    case round =>
      obtain ⟨j, rfl, hj, HZ, rfl⟩ := hrel
      by_cases hj3 : j + 3 ≤ V.size
      · have d3 : decide ((j : Int) + 3 ≤ (V.size : Int)) = true := by rw [decide_eq_true_iff]; omega
        have t1 := test_lit (V.extract j (j + 3)) [122, 122, 57]
        have t2 := test_lit (V.extract j (j + 3)) [90, 90, 57]
        have t3 := test_lit (V.extract j (j + 3)) [90, 122, 57]
        have t4 := test_lit (V.extract j (j + 3)) [122, 90, 57]
        rw [ext3] at t1 t2 t3 t4
        have HB : Hid (¬ bad3 ((V.data.toList.drop j).take 3) → ∀ p, p < j + 1 → p + 3 ≤ V.data.toList.length → ¬ bad3 ((V.data.toList.drop p).take 3)) := fun hb p hp h3 => by
          rcases Nat.lt_or_ge p j with h | h
          · exact HZ.out p h h3
          · have : p = j := by omega
            subst this; exact hb
        generalize (V.data.toList.drop j).take 3 = t at *
        by_cases b1 : t = [122, 122, 57]
        · rw [decide_eq_true b1] at t1
          clear b1
          go_wp2_with fail
          go_ret
          exact ⟨rfl, XN.out⟩
        rw [decide_eq_false b1] at t1
        by_cases b2 : t = [90, 90, 57]
        · rw [decide_eq_true b2] at t2
          clear b1 b2
          go_wp2_with fail
          go_ret
          exact ⟨rfl, XN.out⟩
        rw [decide_eq_false b2] at t2
        by_cases b3 : t = [90, 122, 57]
        · rw [decide_eq_true b3] at t3
          clear b1 b2 b3
          go_wp2_with fail
          go_ret
          exact ⟨rfl, XN.out⟩
        rw [decide_eq_false b3] at t3
        by_cases b4 : t = [122, 90, 57]
        · rw [decide_eq_true b4] at t4
          clear b1 b2 b3 b4
          go_wp2_with fail
          go_ret
          exact ⟨rfl, XN.out⟩
        rw [decide_eq_false b4] at t4
        have HZ2 := Lib.hid (HB.out (by rintro (h | h | h | h); exact b1 h; exact b2 h; exact b3 h; exact b4 h))
        clear b1 b2 b3 b4 HB HZ
        go_wp2_with fail
        go_roundw
        case rel => exact ⟨j + 1, by go_num, by omega, HZ2, trivial⟩
        case measure => simp [intOf]; omega
      · have d3 : decide ((j : Int) + 3 ≤ (V.size : Int)) = false := by rw [decide_eq_false_iff_not]; omega
        have hno : NoZ V.data.toList := fun p hp => by
          refine HZ.out p ?_ hp
          rw [len_data] at hp; omega
        have QL := fun w' (h : Reg.Ext wn w') => Lib.hid (quality_any (some ⟨gl, 0, none⟩) 2 [(accB, O), (accB, V)] ⟨#[122, 122, 57, 47, 111, 119, 110]⟩ w' (Lib.hid (Fl.of_rd (HLn.out.ext h))) (sz_n2 _ _ (by decide : accB.size ≤ 536870912) (by show O.size ≤ _; omega) (by decide : accB.size ≤ 536870912) (by show V.size ≤ _; omega)) (by decide))
        have QU := fun w' (h : Reg.Ext wn w') => Lib.hid (quality_any (some ⟨gl, 0, none⟩) 2 [(accB, O), (accB, V)] ⟨#[90, 90, 57, 47, 79, 119, 110]⟩ w' (Lib.hid (Fl.of_rd (HLn.out.ext h))) (sz_n2 _ _ (by decide : accB.size ≤ 536870912) (by show O.size ≤ _; omega) (by decide : accB.size ≤ 536870912) (by show V.size ≤ _; omega)) (by decide))
        rw [show (⟨#[122, 122, 57, 47, 111, 119, 110]⟩ : ByteArray).data.toList = kL from rfl, qual_ahead (own_all hk) O V hOl hno] at QL
        rw [show (⟨#[90, 90, 57, 47, 79, 119, 110]⟩ : ByteArray).data.toList = kU from rfl, qual_kU, qual_ahead (own_all hk) O V hOl hno] at QU
        have hself := fin_self hk
        have hself' : (FloatKind.f64.format.order (qW k) (qW k) == some .eq) = true := hself
        clear hno HZ HLn hOl hself
        by_cases k0 : k = 0
        · subst k0
          have f0 : (FloatKind.f64.format.order (qW 0) 0 == some .eq) = true := fin0
          generalize qW 0 = q at *
          go_wp2_with fail
          refine (QL wn (Reg.Ext.refl _)).out.mono ?_
          rintro e wo ⟨rfl, xo⟩
          have XO := Lib.hid (XN.out.trans xo)
          go_wp2_with fail
          refine (QU wo xo).out.mono ?_
          rintro e wp ⟨rfl, xp⟩
          have XP := Lib.hid (XO.out.trans xp)
          clear xo xp XO
          go_wp2_with fail
          go_ret
          exact ⟨rfl, XP.out⟩
        by_cases k4 : k = 4
        · subst k4
          have f4 : (FloatKind.f64.format.order (qW 4) 4607182418800017408 == some .eq) = true := fin4
          generalize qW 4 = q at *
          go_wp2_with fail
          refine (QL wn (Reg.Ext.refl _)).out.mono ?_
          rintro e wo ⟨rfl, xo⟩
          have XO := Lib.hid (XN.out.trans xo)
          go_wp2_with fail
          refine (QU wo xo).out.mono ?_
          rintro e wp ⟨rfl, xp⟩
          have XP := Lib.hid (XO.out.trans xp)
          clear xo xp XO
          go_wp2_with fail
          go_ret
          exact ⟨rfl, XP.out⟩
        obtain ⟨h1, h2⟩ := fin1 (k := k) (by omega)
        have f1 : (FloatKind.f64.format.order (qW k) 0 == some .gt) = true := h1
        have f2 : (FloatKind.f64.format.order (qW k) 4607182418800017408 == some .lt) = true := h2
        have e0 : ((k : Int) == 0) = false := by rw [beq_eq_false_iff_ne]; omega
        have e4 : ((k : Int) == 4) = false := by rw [beq_eq_false_iff_ne]; omega
        clear h1 h2
        generalize qW k = q at *
        go_wp2_with fail
        refine (QL wn (Reg.Ext.refl _)).out.mono ?_
        rintro e wo ⟨rfl, xo⟩
        have XO := Lib.hid (XN.out.trans xo)
        go_wp2_with fail
        refine (QU wo xo).out.mono ?_
        rintro e wp ⟨rfl, xp⟩
        have XP := Lib.hid (XO.out.trans xp)
        clear xo xp XO
        go_wp2_with fail
        go_ret
        exact ⟨rfl, XP.out⟩
end Tst
end Go.Proofs.YtglnefmaphajaaaDoor

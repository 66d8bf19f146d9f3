/- The walk of SlipBack. -/
import Derived.Test.YtbeghdoffiidoaaDoorSlipAwake
import Derived.Test.YtbeghdoffiidoaaDoorSlipGreat
set_option linter.unusedSimpArgs false
set_option linter.unusedVariables false
set_option linter.unusedSectionVars false
namespace Go.Proofs.YtbeghdoffiidoaaDoor
open Go.RowKit
namespace Slp
def wS (x : S) : ByteArray := if good x = true then ⟨(frame (body x)).toArray⟩ else ⟨#[]⟩
def wE (x : S) : Int := if good x = true then 0 else 1
theorem write_any (x : S) (hx : x.dig.length = 32) (w : World) (hT : Crc.Tab w) :
    Calls Tryd.prog 9 #[.agg x.cells.toArray] w fun e w' => e = .returned (.tuple #[.string (wS x), .int .i64 (wE x)]) ∧ Reg.Ext w w' := by
  unfold wS wE
  cases hg : good x with
  | true => exact write_ok x hx hg w hT
  | false => exact write_bad x hx hg w
def okL (xs : List S) : List S := xs.filter good
theorem okL_fit {xs : List S} (h : ∀ x ∈ xs, x.dig.length = 32) : Fit (okL xs) := fun x hx => ⟨h x (List.mem_filter.1 hx).1, (List.mem_filter.1 hx).2⟩
theorem okL_next {xs : List S} {k : Nat} (h : k < xs.length) : okL (xs.take (k + 1)) = if good xs[k] = true then okL (xs.take k) ++ [xs[k]] else okL (xs.take k) := by
  unfold okL
  rw [List.take_succ_eq_append_getElem h, List.filter_append]
  cases hg : good xs[k] <;> simp [hg]
theorem frame_le {x : S} (hx : x.dig.length = 32) (hg : good x = true) : (frame (body x)).length ≤ 1030 := by
  have := body_len x hx hg
  rw [frame_len]; omega
theorem Row.empty (w : World) (B : Nat) (hB : B ≤ w.heap.size) : Row B (.slice (some ⟨w.heap.size, 0, none⟩) 0 0) [] (w.alloc (.cells #[] 25)) :=
  ⟨World.ownsRow_made w #[] 0 hB (Nat.zero_le _) rfl, by simp⟩
theorem frame_same {x y : S} (hx : x.dig.length = 32) (hy : y.dig.length = 32) (gx : good x = true) (gy : good y = true) : ((wS x).toList == (wS y).toList) = x.same y := by
  unfold wS
  rw [if_pos gx, if_pos gy, ByteArray.toList_eq, ByteArray.toList_eq, Bool.eq_iff_iff, beq_iff_eq, same_iff]
  constructor
  · intro h
    simp only [List.toList_toArray] at h
    exact body_inj hx hy gx gy (frame_inj h)
  · intro h; rw [h]
set_option maxRecDepth 100000 in
set_option maxHeartbeats 4000000 in
theorem back_law (v : Value) (xs : List S) (y : S) (w : World) (hr : RdS v xs w) (hy : y.dig.length = 32) (hT : Crc.Tab w) :
    Calls Tryd.prog 5 #[v, .agg y.cells.toArray] w fun e w' => e = .returned (.bool true) ∧ Reg.Ext w w' := by
  have HT := Lib.hid hT
  have HDX := Lib.hid hr.1
  have HR := Lib.hid hr
  obtain ⟨-, p, c, rfl, hmx, -⟩ := hr
  clear hT
  have hb3 := boxS w y
  have hx3 := Reg.Ext.alloc w (Obj.cells y.cells.toArray 25)
  go_enter Tryd.func5, Tryd.ntmps5
  go_upto_region 1 with (fail)
  generalize w.alloc (Obj.cells y.cells.toArray 25) = wB at *
  obtain ⟨g3, hg3⟩ : ∃ g, w.heap.size = g := ⟨_, rfl⟩
  rw [hg3] at hb3 ⊢
  have HB3 := Lib.hid hb3
  have HXB := Lib.hid hx3
  have hTB : Hid (Crc.Tab wB) := HT.out.below hx3
  have HRB := Lib.hid (HR.out.ext hx3)
  clear HR HT hb3 hx3 hg3
  go_wp2_with fail
  refine (awake_any wB hTB.out).mono ?_
  rintro e wi ⟨rfl, xi⟩
  have X := Lib.hid xi
  clear xi
  by_cases h40 : 40 < xs.length
  · have d40 : decide ((40 : Int) < (xs.length : Int)) = true := by rw [decide_eq_true_iff]; omega
    clear h40
    go_wp2_with fail
    go_ret
    exact ⟨rfl, HXB.out.trans X.out⟩
  have d40 : decide ((40 : Int) < (xs.length : Int)) = false := by rw [decide_eq_false_iff_not]; omega
  have CG := Lib.hid (great_any y hy)
  have H3 : Hid (Blk wi g3 25 y.cells) := HB3.out.ext X.out
  go_upto_region 3 with (fail)
  refine wp_region_lit ?_
  repeat (first | refine wpList_ldr rfl _ _ rfl g3 rfl _ _ _ H3 undS (by rw [cells_length y hy]; exact size38) ?_ | go_step)
  refine (CG.out wi).mono ?_
  rintro e wj ⟨rfl, xj⟩
  rename_i hK
  refine hK _ _ ?_
  have Xn := Lib.hid (X.out.trans xj)
  clear X
  have X := Xn
  clear Xn
  clear CG H3 xj
  clear wi
  generalize wj = wi at *
  cases hgy : great y with
  | true =>
    go_wp2_with fail
    go_ret
    exact ⟨rfl, HXB.out.trans X.out⟩
  | false =>
    go_upto_region 7 with (fail)
    have hrow := Row.empty wi wB.heap.size X.out.size
    have hxa := Reg.Ext.alloc wi (.cells #[] 25)
    have X7 := Lib.hid (X.out.trans hxa)
    clear hgy X hxa
    generalize wi.alloc (.cells #[] 25) = w7 at *
    generalize wi.heap.size = g6 at *
    clear wi
    have h3 : Blk w7 g3 25 y.cells := HB3.out.ext X7.out
    refine wp_region_lit ?_
    refine wpList_load_row rfl 25 _ rfl g3 rfl 25 (y.cells).toArray (0, 0) _ h3 undS rfl (by rw [List.size_toArray, cells_length y hy]; exact size38) ?_
    simp only [Act.put, Act.eval, List.setIfInBounds_toArray, List.set_cons_zero, List.set_cons_succ, Nat.reduceAdd, Array.getD_eq_getD_getElem?, List.getElem?_toArray, List.getElem?_cons_succ, List.getElem?_cons_zero, Option.getD_some]
    clear h3
    repeat go_step
    refine (write_any y hy w7 (hTB.out.below X7.out)).mono ?_
    rintro e wi ⟨rfl, xi⟩
    rename_i hK
    refine hK _ _ ?_
    have HROW := Lib.hid (hrow.ext xi)
    have X := Lib.hid (X7.out.trans xi)
    clear hrow X7 xi w7
    have hFX : ∀ x ∈ xs, good x = true → good y = true → x.dig.length = 32 → ((wS x).toList == (wS y).toList) = x.same y := fun x _ gx gy hx => frame_same hx hy gx gy
    have HFX := Lib.hid hFX
    have hey : wE y = if good y = true then 0 else 1 := rfl
    have HEY := Lib.hid hey
    generalize hO : wS y = O at *
    generalize wE y = eo at *
    clear hFX hey hO
    go_wp2_with fail
    go_loopw [5, 6, 9, 10, 11] (fun a u i _ _ wr => ∃ (k : Nat) (A : ByteArray), k ≤ xs.length ∧ i = .int .i64 (k : Int) ∧ a = .string A ∧ Hid (A.data.toList = frames (okL (xs.take k))) ∧ A.size ≤ 1030 * k ∧ Hid (Row wB.heap.size u (okL (xs.take k)) wr) ∧ Hid (Reg.Ext wB wr)) (fun _ _ i _ _ _ => xs.length - (intOf i).toNat)
    case atStart => exact ⟨0, ⟨#[]⟩, by omega, rfl, rfl, rfl, Nat.le_refl 0, HROW, X⟩
    case round =>
      obtain ⟨k, A, hk, rfl, rfl, HA, hAs, HW, HX⟩ := hrel
      clear HROW X
      by_cases hkl : k < xs.length
      · have dk : decide ((k : Int) < (xs.length : Int)) = true := by rw [decide_eq_true_iff]; omega
        obtain ⟨_, p', c', hpc, _, hra0⟩ := HRB.out
        injection hpc with hp hn hc
        subst hp
        obtain ⟨ga, oa, rfl, hra⟩ := hra0 k hkl
        have HRX := Lib.hid (rangeAt_ext hra HX.out)
        have hx := HDX.out xs[k] (List.getElem_mem hkl)
        have hmem := List.getElem_mem hkl
        have hnext := okL_next hkl
        generalize xs[k] = x at *
        have hfx := HFX.out x hmem
        have HNX := Lib.hid hnext
        have HFX1 := Lib.hid hfx
        clear hra0 hra hn hc hnext hfx hmem
        have CG := Lib.hid (fun w => great_any x hx w)
        have CWX := Lib.hid (fun w hT => write_any x hx w hT)
        go_upto_region 11 with (fail)
        refine wp_region_lit ?_
        repeat (first | refine wpList_ldm rfl _ _ rfl ga (oa + k * 38) rfl _ _ HRX undS (by rw [cells_length x hx]; exact size38) ?_ | go_step)
        refine (CG.out wr).mono ?_
        rintro e wj ⟨rfl, xj⟩
        rename_i hK
        refine hK _ _ ?_
        have HWn := Lib.hid (HW.out.ext xj)
        have HXn := Lib.hid (HX.out.trans xj)
        have HRXn := Lib.hid (rangeAt_ext HRX.out xj)
        clear HW HX HRX xj wr
        have HW := HWn
        have HX := HXn
        have HRX := HRXn
        clear HWn HXn HRXn
        generalize wj = wr at *
        clear CG
        cases hgx : great x with
        | true =>
          go_wp2_with fail
          go_ret
          exact ⟨rfl, HXB.out.trans HX.out⟩
        | false =>
          clear hgx
          go_upto_region 13 with (fail)
          refine wp_region_lit ?_
          repeat (first | refine wpList_ldm rfl _ _ rfl ga (oa + k * 38) rfl _ _ HRX undS (by rw [cells_length x hx]; exact size38) ?_ | go_step)
          refine (CWX.out wr (hTB.out.below HX.out)).mono ?_
          rintro e wj ⟨rfl, xj⟩
          rename_i hK
          refine hK _ _ ?_
          have HWn := Lib.hid (HW.out.ext xj)
          have HXn := Lib.hid (HX.out.trans xj)
          have HRXn := Lib.hid (rangeAt_ext HRX.out xj)
          clear HW HX HRX xj wr
          have HW := HWn
          have HX := HXn
          have HRX := HRXn
          clear HWn HXn HRXn
          generalize wj = wr at *
          clear CWX
          cases hg : good x with
          | false =>
            have hee : wE x = 1 := by unfold wE; rw [hg]; rfl
            rw [hee]
            have HN2 : Hid (okL (xs.take (k + 1)) = okL (xs.take k)) := by
              show _ = _
              rw [HNX.out, hg]; rfl
            clear hee hg HNX HFX1
            go_wp2_with fail
            go_roundw
            case rel => exact ⟨k + 1, A, by omega, by go_num, rfl, (by show _ = _; rw [HN2.out]; exact HA.out), by omega, (by show Row _ _ _ _; rw [HN2.out]; exact HW.out), HX⟩
            case measure => simp [intOf]; omega
          | true =>
            have hee : wE x = 0 := by unfold wE; rw [hg]; rfl
            rw [hee]
            have HN2 : Hid (okL (xs.take (k + 1)) = okL (xs.take k) ++ [x]) := by
              show _ = _
              rw [HNX.out, hg]; rfl
            have hFl : (wS x).data.toList = frame (body x) := by unfold wS; rw [if_pos hg]
            have hFs : (wS x).size ≤ 1030 := by rw [← len_data, hFl]; exact frame_le hx hg
            have HFL := Lib.hid hFl
            have HQ := Lib.hid (fun h => HFX1.out hg h hx)
            clear hee HNX HFX1 hFl hg
            generalize wS x = F at *
            go_upto_region 15 with (fail)
            obtain ⟨i0, hi, hz0, hz1, hz2, hz3⟩ := slipInfo_of
            have hgy := HEY.out
            cases hgy2 : good y with
            | false =>
              rw [hgy2, if_neg (by decide)] at hgy
              subst hgy
              clear hgy2
              apply Reg.wp_tab Reg.Ext (by kernel_rfl) (by kernel_rfl) Reg.Ext.refl (fun _ _ _ => Reg.Ext.trans) (Reg.Ext.drew _)
              case h =>
                intro O2
                repeat (first
                  | (apply Reg.TW.move_ Reg.Ext.refl _ rfl rfl
                     · simp only [Act.put, Act.eval, List.setIfInBounds_toArray, List.set_cons_zero, List.set_cons_succ, Nat.reduceAdd, Array.getD_eq_getD_getElem?, List.getElem?_toArray, List.getElem?_cons_succ, List.getElem?_cons_zero, Option.getD_some]
                       rfl)
                  | (apply Reg.TW.assign_ Reg.Ext.refl _ rfl rfl
                     · simp only [Act.put, Act.eval, List.setIfInBounds_toArray, List.set_cons_zero, List.set_cons_succ, Nat.reduceAdd, Array.getD_eq_getD_getElem?, List.getElem?_toArray, List.getElem?_cons_succ, List.getElem?_cons_zero, Option.getD_some]
                       rfl)
                  | (apply Reg.TW.skip_ rfl
                     · simp only [Act.put, Act.eval, List.setIfInBounds_toArray, List.set_cons_zero, List.set_cons_succ, Nat.reduceAdd, Array.getD_eq_getD_getElem?, List.getElem?_toArray, List.getElem?_cons_succ, List.getElem?_cons_zero, Option.getD_some]
                       rfl)
                  | (apply Reg.TW.pure_ rfl
                     · intro w1 hw1 hf K hK
                       simp only [Act.put, List.setIfInBounds_toArray, List.set_cons_zero, List.set_cons_succ] at hK
                       have HK := Lib.hid hK
                       clear hf hK
                       unfold Reg.One; dsimp only
                       go_wp2_with fail
                       exact HK.out _ (Reg.Ext.refl _)
                     · simp only [Act.put, Act.eval, List.setIfInBounds_toArray, List.set_cons_zero, List.set_cons_succ, Nat.reduceAdd, Array.getD_eq_getD_getElem?, List.getElem?_toArray, List.getElem?_cons_succ, List.getElem?_cons_zero, Option.getD_some]
                       rfl))
                refine Reg.TW.nil_ ?_
                intro wj xj _
                have HWn := Lib.hid (HW.out.ext xj)
                have HXn := Lib.hid (HX.out.trans xj)
                have HRXn := Lib.hid (rangeAt_ext HRX.out xj)
                clear HW HX HRX xj wr
                have HW := HWn
                have HX := HXn
                have HRX := HRXn
                clear HWn HXn HRXn
                generalize wj = wr at *
                go_upto_region 18 with (fail)
                refine wp_region_lit ?_
                iterate 12 go_step
                refine wpList_ldm rfl _ _ rfl ga (oa + k * 38) rfl _ _ HRX undS (by rw [cells_length x hx]; exact size38) ?_
                simp only [Act.put, Act.eval, List.setIfInBounds_toArray, List.set_cons_zero, List.set_cons_succ, Nat.reduceAdd, Array.getD_eq_getD_getElem?, List.getElem?_toArray, List.getElem?_cons_succ, List.getElem?_cons_zero, Option.getD_some]
                refine wpList_valw rfl _ (exec_one_row wr _ _ (.tmp 71) 34 25 x.cells.toArray rfl rfl i0 (.agg S.none.cells.toArray) Tryd.underlying34 hi hz0 (by rw [hz1, List.size_toArray, cells_length x hx]) (by rw [List.size_toArray, cells_length x hx]; decide) (by rw [List.size_toArray, cells_length x hx]; decide)) ?_
                simp only [Act.put, Act.eval, List.setIfInBounds_toArray, List.set_cons_zero, List.set_cons_succ, Nat.reduceAdd, Array.getD_eq_getD_getElem?, List.getElem?_toArray, List.getElem?_cons_succ, List.getElem?_cons_zero, Option.getD_some]
                have hb9 := boxS wr x
                have hx9 := Reg.Ext.alloc wr (Obj.cells x.cells.toArray 25)
                have HR3 := Lib.hid (HW.out.ext hx9)
                have HX3 := Lib.hid (HX.out.trans hx9)
                clear HW HX hx9
                generalize wr.alloc (Obj.cells x.cells.toArray 25) = w9 at *
                generalize wr.heap.size = g9 at *
                have hol : (okL (xs.take k)).length ≤ 40 := by
                  have h1 := List.length_filter_le good (xs.take k)
                  rw [List.length_take] at h1
                  show (List.filter good (xs.take k)).length ≤ 40
                  omega
                refine wpList_append_own _ rfl _ _ 34 rfl wB.heap.size 25 i0 (.agg S.none.cells.toArray) 38 104 Tryd.underlying34 hi hz0 hz1 hz2 hz3 (by decide) u6 (okL (xs.take k)).length (flat (okL (xs.take k))) rfl HR3.out.1 ⟨g9, 0, none⟩ 1 1 x.cells rfl (cells_length x hx) ?c1 ?c2 ?c3 ?c4 ?c5 ?_
                case c1 =>
                  intro j u hj
                  rw [Addr.add_mid, Nat.zero_add, hb9.cell]
                  exact hj
                case c2 => exact oneS x
                case c3 => unfold maxLen; omega
                case c4 => omega
                case c5 => exact HX3.out.size
                intro v' w2 hown' hgrow _
                have HR4 : Hid (Row wB.heap.size v' (okL (xs.take (k + 1))) w2) := by
                  show Row _ _ _ _
                  rw [HN2.out]
                  exact ⟨by rw [flat_snoc, List.length_append]; exact hown', fun y hy => (List.mem_append.1 hy).elim (HR3.out.2 y) fun h => by rw [List.mem_singleton.1 h]; exact hx⟩
                have HX4 : Hid (Reg.Ext wB w2) := Below.grown HX3.out hgrow HX3.out.size (fun k hk => (HR3.out.1.lt k hk).1)
                have HA2 : Hid ((A ++ F).data.toList = frames (okL (xs.take (k + 1)))) := by
                  show _ = _
                  rw [HN2.out, frames_snoc, ← HA.out, ← HFL.out]
                  simp
                have hAF : (A ++ F).size ≤ 1030 * (k + 1) := by rw [ByteArray.size_append]; omega
                clear hown' hgrow HR3 HX3 hb9 HA HFL
                simp only [Act.put, Act.eval, List.setIfInBounds_toArray, List.set_cons_zero, List.set_cons_succ, Nat.reduceAdd, Array.getD_eq_getD_getElem?, List.getElem?_toArray, List.getElem?_cons_succ, List.getElem?_cons_zero, Option.getD_some]
                go_wp2_with fail
                go_roundw
                case rel => exact ⟨k + 1, A ++ F, by omega, by go_num, rfl, HA2, hAF, HR4, HX4⟩
                case measure => simp [intOf]; omega
              case hlen => rfl
            | true =>
              rw [hgy2, if_pos rfl] at hgy
              subst hgy
              have q0 := HQ.out hgy2
              have HE := Lib.hid (fun w => equal_slip x y hx hy w)
              have H3 : Hid (Blk wr g3 25 y.cells) := HB3.out.ext HX.out
              clear hgy2
              apply Reg.wp_tab Reg.Ext (by kernel_rfl) (by kernel_rfl) Reg.Ext.refl (fun _ _ _ => Reg.Ext.trans) (Reg.Ext.drew _)
              case h =>
                intro O2
                repeat (first
                  | (apply Reg.TW.move_ Reg.Ext.refl _ rfl rfl
                     · simp only [Act.put, Act.eval, List.setIfInBounds_toArray, List.set_cons_zero, List.set_cons_succ, Nat.reduceAdd, Array.getD_eq_getD_getElem?, List.getElem?_toArray, List.getElem?_cons_succ, List.getElem?_cons_zero, Option.getD_some]
                       rfl)
                  | (apply Reg.TW.assign_ Reg.Ext.refl _ rfl rfl
                     · simp only [Act.put, Act.eval, List.setIfInBounds_toArray, List.set_cons_zero, List.set_cons_succ, Nat.reduceAdd, Array.getD_eq_getD_getElem?, List.getElem?_toArray, List.getElem?_cons_succ, List.getElem?_cons_zero, Option.getD_some]
                       rfl)
                  | (apply Reg.TW.skip_ rfl
                     · simp only [Act.put, Act.eval, List.setIfInBounds_toArray, List.set_cons_zero, List.set_cons_succ, Nat.reduceAdd, Array.getD_eq_getD_getElem?, List.getElem?_toArray, List.getElem?_cons_succ, List.getElem?_cons_zero, Option.getD_some]
                       rfl)
                  | (apply Reg.TW.pure_ rfl
                     · intro w1 hw1 hf K hK
                       simp only [Act.put, List.setIfInBounds_toArray, List.set_cons_zero, List.set_cons_succ] at hK
                       have HK := Lib.hid hK
                       clear hf hK
                       unfold Reg.One; dsimp only
                       go_wp2_with fail
                       exact HK.out _ (Reg.Ext.refl _)
                     · simp only [Act.put, Act.eval, List.setIfInBounds_toArray, List.set_cons_zero, List.set_cons_succ, Nat.reduceAdd, Array.getD_eq_getD_getElem?, List.getElem?_toArray, List.getElem?_cons_succ, List.getElem?_cons_zero, Option.getD_some]
                       rfl))
                apply Reg.TW.pure_ (c := .agg x.cells.toArray) rfl
                · intro w1 hw1 hf K hK
                  simp only [Act.put, List.setIfInBounds_toArray, List.set_cons_zero, List.set_cons_succ] at hK
                  have HK := Lib.hid hK
                  clear hK
                  unfold Reg.One; dsimp only
                  refine wpList_ldm rfl _ _ rfl ga (oa + k * 38) rfl _ _ (Lib.hid (rangeAt_ext HRX.out hw1)) undS (by rw [cells_length x hx]; exact size38) ?_
                  simp only [Act.put, Act.eval, List.setIfInBounds_toArray, List.set_cons_zero, List.set_cons_succ, Nat.reduceAdd, Array.getD_eq_getD_getElem?, List.getElem?_toArray, List.getElem?_cons_succ, List.getElem?_cons_zero, Option.getD_some]
                  go_wp2_with fail
                  exact HK.out _ (Reg.Ext.refl _)
                · simp only [Act.put, Act.eval, List.setIfInBounds_toArray, List.set_cons_zero, List.set_cons_succ, Nat.reduceAdd, Array.getD_eq_getD_getElem?, List.getElem?_toArray, List.getElem?_cons_succ, List.getElem?_cons_zero, Option.getD_some]
                  rfl
                apply Reg.TW.pure_ (c := .agg y.cells.toArray) rfl
                · intro w1 hw1 hf K hK
                  simp only [Act.put, List.setIfInBounds_toArray, List.set_cons_zero, List.set_cons_succ] at hK
                  have HK := Lib.hid hK
                  clear hK
                  unfold Reg.One; dsimp only
                  refine wpList_ldr rfl _ _ rfl g3 rfl _ _ _ (Lib.hid (H3.out.ext hw1)) undS (by rw [cells_length y hy]; exact size38) ?_
                  simp only [Act.put, Act.eval, List.setIfInBounds_toArray, List.set_cons_zero, List.set_cons_succ, Nat.reduceAdd, Array.getD_eq_getD_getElem?, List.getElem?_toArray, List.getElem?_cons_succ, List.getElem?_cons_zero, Option.getD_some]
                  go_wp2_with fail
                  exact HK.out _ (Reg.Ext.refl _)
                · simp only [Act.put, Act.eval, List.setIfInBounds_toArray, List.set_cons_zero, List.set_cons_succ, Nat.reduceAdd, Array.getD_eq_getD_getElem?, List.getElem?_toArray, List.getElem?_cons_succ, List.getElem?_cons_zero, Option.getD_some]
                  rfl
                repeat (first
                  | (apply Reg.TW.move_ Reg.Ext.refl _ rfl rfl
                     · simp only [Act.put, Act.eval, List.setIfInBounds_toArray, List.set_cons_zero, List.set_cons_succ, Nat.reduceAdd, Array.getD_eq_getD_getElem?, List.getElem?_toArray, List.getElem?_cons_succ, List.getElem?_cons_zero, Option.getD_some]
                       rfl)
                  | (apply Reg.TW.assign_ Reg.Ext.refl _ rfl rfl
                     · simp only [Act.put, Act.eval, List.setIfInBounds_toArray, List.set_cons_zero, List.set_cons_succ, Nat.reduceAdd, Array.getD_eq_getD_getElem?, List.getElem?_toArray, List.getElem?_cons_succ, List.getElem?_cons_zero, Option.getD_some]
                       rfl)
                  | (apply Reg.TW.skip_ rfl
                     · simp only [Act.put, Act.eval, List.setIfInBounds_toArray, List.set_cons_zero, List.set_cons_succ, Nat.reduceAdd, Array.getD_eq_getD_getElem?, List.getElem?_toArray, List.getElem?_cons_succ, List.getElem?_cons_zero, Option.getD_some]
                       rfl)
                  | (apply Reg.TW.pure_ rfl
                     · intro w1 hw1 hf K hK
                       simp only [Act.put, List.setIfInBounds_toArray, List.set_cons_zero, List.set_cons_succ] at hK
                       have HK := Lib.hid hK
                       clear hf hK
                       have q1 := HE.out
                       unfold Reg.One; dsimp only
                       go_wp2_with fail
                       exact HK.out _ (Reg.Ext.refl _)
                     · simp only [Act.put, Act.eval, List.setIfInBounds_toArray, List.set_cons_zero, List.set_cons_succ, Nat.reduceAdd, Array.getD_eq_getD_getElem?, List.getElem?_toArray, List.getElem?_cons_succ, List.getElem?_cons_zero, Option.getD_some]
                       rfl))
                refine Reg.TW.nil_ ?_
                intro wj xj _
                clear H3 HE
                have HWn := Lib.hid (HW.out.ext xj)
                have HXn := Lib.hid (HX.out.trans xj)
                have HRXn := Lib.hid (rangeAt_ext HRX.out xj)
                clear HW HX HRX xj wr
                have HW := HWn
                have HX := HXn
                have HRX := HRXn
                clear HWn HXn HRXn
                generalize wj = wr at *
                clear q0
                go_upto_region 18 with (fail)
                refine wp_region_lit ?_
                iterate 12 go_step
                refine wpList_ldm rfl _ _ rfl ga (oa + k * 38) rfl _ _ HRX undS (by rw [cells_length x hx]; exact size38) ?_
                simp only [Act.put, Act.eval, List.setIfInBounds_toArray, List.set_cons_zero, List.set_cons_succ, Nat.reduceAdd, Array.getD_eq_getD_getElem?, List.getElem?_toArray, List.getElem?_cons_succ, List.getElem?_cons_zero, Option.getD_some]
                refine wpList_valw rfl _ (exec_one_row wr _ _ (.tmp 71) 34 25 x.cells.toArray rfl rfl i0 (.agg S.none.cells.toArray) Tryd.underlying34 hi hz0 (by rw [hz1, List.size_toArray, cells_length x hx]) (by rw [List.size_toArray, cells_length x hx]; decide) (by rw [List.size_toArray, cells_length x hx]; decide)) ?_
                simp only [Act.put, Act.eval, List.setIfInBounds_toArray, List.set_cons_zero, List.set_cons_succ, Nat.reduceAdd, Array.getD_eq_getD_getElem?, List.getElem?_toArray, List.getElem?_cons_succ, List.getElem?_cons_zero, Option.getD_some]
                have hb9 := boxS wr x
                have hx9 := Reg.Ext.alloc wr (Obj.cells x.cells.toArray 25)
                have HR3 := Lib.hid (HW.out.ext hx9)
                have HX3 := Lib.hid (HX.out.trans hx9)
                clear HW HX hx9
                generalize wr.alloc (Obj.cells x.cells.toArray 25) = w9 at *
                generalize wr.heap.size = g9 at *
                have hol : (okL (xs.take k)).length ≤ 40 := by
                  have h1 := List.length_filter_le good (xs.take k)
                  rw [List.length_take] at h1
                  show (List.filter good (xs.take k)).length ≤ 40
                  omega
                refine wpList_append_own _ rfl _ _ 34 rfl wB.heap.size 25 i0 (.agg S.none.cells.toArray) 38 104 Tryd.underlying34 hi hz0 hz1 hz2 hz3 (by decide) u6 (okL (xs.take k)).length (flat (okL (xs.take k))) rfl HR3.out.1 ⟨g9, 0, none⟩ 1 1 x.cells rfl (cells_length x hx) ?c1 ?c2 ?c3 ?c4 ?c5 ?_
                case c1 =>
                  intro j u hj
                  rw [Addr.add_mid, Nat.zero_add, hb9.cell]
                  exact hj
                case c2 => exact oneS x
                case c3 => unfold maxLen; omega
                case c4 => omega
                case c5 => exact HX3.out.size
                intro v' w2 hown' hgrow _
                have HR4 : Hid (Row wB.heap.size v' (okL (xs.take (k + 1))) w2) := by
                  show Row _ _ _ _
                  rw [HN2.out]
                  exact ⟨by rw [flat_snoc, List.length_append]; exact hown', fun y hy => (List.mem_append.1 hy).elim (HR3.out.2 y) fun h => by rw [List.mem_singleton.1 h]; exact hx⟩
                have HX4 : Hid (Reg.Ext wB w2) := Below.grown HX3.out hgrow HX3.out.size (fun k hk => (HR3.out.1.lt k hk).1)
                have HA2 : Hid ((A ++ F).data.toList = frames (okL (xs.take (k + 1)))) := by
                  show _ = _
                  rw [HN2.out, frames_snoc, ← HA.out, ← HFL.out]
                  simp
                have hAF : (A ++ F).size ≤ 1030 * (k + 1) := by rw [ByteArray.size_append]; omega
                clear hown' hgrow HR3 HX3 hb9 HA HFL
                simp only [Act.put, Act.eval, List.setIfInBounds_toArray, List.set_cons_zero, List.set_cons_succ, Nat.reduceAdd, Array.getD_eq_getD_getElem?, List.getElem?_toArray, List.getElem?_cons_succ, List.getElem?_cons_zero, Option.getD_some]
                go_wp2_with fail
                go_roundw
                case rel => exact ⟨k + 1, A ++ F, by omega, by go_num, rfl, HA2, hAF, HR4, HX4⟩
                case measure => simp [intOf]; omega
              case hlen => rfl
      · have dk : decide ((k : Int) < (xs.length : Int)) = false := by rw [decide_eq_false_iff_not]; omega
        have hke : k = xs.length := by omega
        subst hke
        have hA := HA.out
        rw [List.take_length] at hA
        have HWR := HW.out
        rw [List.take_length] at HWR
        have hall := allP_whole (okL xs) (okL_fit HDX.out)
        rw [← hA, len_data] at hall
        have CA := Lib.hid (all_any A wr (by omega) (hTB.out.below HX.out))
        rw [hall] at CA
        have HWL := Lib.hid HWR.rd
        clear HA HW hA hall HRB HWR HFX
        go_wp2_with fail
        refine (CA.out).mono ?_
        rintro e wj ⟨vl, rfl, hrow, xj⟩
        have CS := Lib.hid (same_any vl u6 (okL xs) (okL xs) wj hrow.rd (HWL.out.ext xj))
        rw [(sameL_iff _ _).2 rfl] at CS
        have HX2 := Lib.hid (HXB.out.trans (HX.out.trans xj))
        clear hrow xj CA HWL HX
        go_wp2_with fail
        refine (CS.out).mono ?_
        rintro e wk ⟨rfl, xk⟩
        have HX3 := Lib.hid (HX2.out.trans xk)
        clear xk CS HX2
        go_wp2_with fail
        go_ret
        exact ⟨rfl, HX3.out⟩
end Slp
end Go.Proofs.YtbeghdoffiidoaaDoor

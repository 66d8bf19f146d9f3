/- The walk of SlipTorn. -/
import Derived.Test.YtbeghdoffiidoaaDoorSlipTornQ
import Derived.BigQuiet
import Derived.BigRegion
set_option linter.unusedSimpArgs false
set_option linter.unusedVariables false
set_option linter.unusedSectionVars false
namespace Go.Proofs.YtbeghdoffiidoaaDoor
open Go.RowKit
namespace Slp
open CrcP (more tail le)
theorem idx_at (W : World) (g n c i : Nat) (h : i < n) : (Instr.indexAt 42 (.slice (some ⟨g, 0, none⟩) n c) (.int .i64 (i : Int))).run Tryd.prog W = .ok (.pointer (some ⟨g, i, none⟩)) W := by
  have h1 : ∀ W, (sizeOf (Tryd.prog.elem 42)).run Tryd.prog W = .ok 1 W := fun _ => by kernel_rfl
  rw [run_indexAt_slice (P := Tryd.prog) _ _ _ _ _ _ _ Tryd.underlying42, if_pos ⟨by omega, by omega⟩]
  simp [h1, Addr.add_mid]
set_option maxRecDepth 100000 in
set_option maxHeartbeats 8000000 in
theorem torn_law (v : Value) (xs : List S) (cut at_ : Int) (by4 : List UInt8) (w : World) (hr : RdS v xs w) (hcut : -9223372036854775808 ≤ cut ∧ cut ≤ 9223372036854775807) (hat : -9223372036854775808 ≤ at_ ∧ at_ ≤ 9223372036854775807) (hby : by4.length = 4) (hT : Crc.Tab w) :
    Calls Tryd.prog 6 #[v, .int .i64 cut, .int .i64 at_, .agg (by4.map byteV).toArray] w fun e w' => e = .returned (.bool true) ∧ Reg.Ext w w' := by
  have HT := Lib.hid hT
  have HDX := Lib.hid hr.1
  have HR := Lib.hid hr
  obtain ⟨-, p, c, rfl, hmx, -⟩ := hr
  clear hT
  have hb7 := Blk.new w 39 (by4.map byteV).toArray
  have hx7 := Reg.Ext.alloc w (Obj.cells (by4.map byteV).toArray 39)
  go_enter Tryd.func6, Tryd.ntmps6
  go_upto_region 1 with (fail)
  have HB7 : Hid (Blk (w.alloc (Obj.cells (by4.map byteV).toArray 39)) w.heap.size 39 (by4.map byteV)) := by
    show Blk _ _ _ _
    have := hb7
    rwa [List.toList_toArray] at this
  clear hb7
  generalize w.alloc (Obj.cells (by4.map byteV).toArray 39) = wB at *
  obtain ⟨g7, hg7⟩ : ∃ g, w.heap.size = g := ⟨_, rfl⟩
  rw [hg7] at HB7 ⊢
  have HXB := Lib.hid hx7
  have hTB : Hid (Crc.Tab wB) := HT.out.below hx7
  have HRB := Lib.hid (HR.out.ext hx7)
  clear HR HT hx7 hg7
  go_wp2_with fail
  refine (awake_any wB hTB.out).mono ?_
  rintro e wi ⟨rfl, xi⟩
  have X := Lib.hid xi
  clear xi
  by_cases h20 : 20 < xs.length
  · have d20 : decide ((20 : Int) < (xs.length : Int)) = true := by rw [decide_eq_true_iff]; omega
    clear h20
    go_wp2_with fail
    go_ret
    exact ⟨rfl, HXB.out.trans X.out⟩
  have d20 : decide ((20 : Int) < (xs.length : Int)) = false := by rw [decide_eq_false_iff_not]; omega
  go_upto_region 7 with (fail)
  have hi0 := Ints.new wi wB.heap.size X.out.size 0
  have hxi := Reg.Ext.alloc wi (.cells #[.int .i64 0] 3)
  have hsz : (wi.alloc (.cells #[.int .i64 0] 3)).heap.size = wi.heap.size + 1 := Array.size_push _
  rw [show ((0 : Nat) : Int) = 0 from rfl] at hi0
  generalize wi.alloc (.cells #[.int .i64 0] 3) = wi2 at *
  obtain ⟨ge, hge⟩ : ∃ g, wi.heap.size = g := ⟨_, rfl⟩
  rw [hge] at hi0 hsz ⊢
  have X2 := Lib.hid (X.out.trans hxi)
  have HSZ := Lib.hid hsz
  clear X hxi hge d20 hsz
  clear wi
  go_upto_region 8 with (fail)
  have hrow := Row.empty wi2 wB.heap.size X2.out.size
  have hxa := Reg.Ext.alloc wi2 (.cells #[] 25)
  have HI0 := Lib.hid (hi0.ext hxa)
  have X := Lib.hid (X2.out.trans hxa)
  have HAP : Hid (Apart (.slice (some ⟨ge, 0, none⟩) 1 1) (.slice (some ⟨wi2.heap.size, 0, none⟩) 0 0)) := fun k h1 h2 => by
    simp only [Value.ownBlock, Option.some.injEq] at h1 h2
    have := HSZ.out
    omega
  have HROW := Lib.hid hrow
  clear hrow hxa hi0 X2 HSZ
  generalize wi2.alloc (.cells #[] 25) = wi at *
  generalize wi2.heap.size = gw at *
  clear wi2
  obtain ⟨i0, hi, hz0, hz1, hz2, hz3⟩ := slipInfo_of
  obtain ⟨j0, ji, jz0, jz1, jz2, jz3⟩ := intInfo_of
  go_wp2_with fail
  go_loopw [9, 10, 11, 12, 13, 14] (fun a e u i _ _ wr => ∃ (k : Nat) (A : ByteArray), k ≤ xs.length ∧ i = .int .i64 (k : Int) ∧ a = .string A ∧ Hid (A.data.toList = frames (okL (xs.take k))) ∧ A.size ≤ 1030 * k ∧ Hid (Row wB.heap.size u (okL (xs.take k)) wr) ∧ Hid (Ints wB.heap.size e (endsL (okL (xs.take k))) wr) ∧ Hid (Apart e u) ∧ Hid (Reg.Ext wB wr)) (fun _ _ _ i _ _ _ => xs.length - (intOf i).toNat)
  case atStart => exact ⟨0, ⟨#[]⟩, by omega, rfl, rfl, rfl, Nat.le_refl 0, HROW, HI0, HAP, X⟩
  case round =>
    obtain ⟨k, A, hk, rfl, rfl, HA, hAs, HW, HI, HP, HX⟩ := hrel
    clear HROW X HI0 HAP
    by_cases hkl : k < xs.length
    · have dk : decide ((k : Int) < (xs.length : Int)) = true := by rw [decide_eq_true_iff]; omega
      obtain ⟨_, p', c', hpc, _, hra0⟩ := HRB.out
      injection hpc with hp hn hc
      subst hp
      obtain ⟨ga, oa, rfl, hra⟩ := hra0 k hkl
      have HRX := Lib.hid (rangeAt_ext hra HX.out)
      have hx := HDX.out xs[k] (List.getElem_mem hkl)
      have hnext := okL_next hkl
      generalize xs[k] = x at *
      have HNX := Lib.hid hnext
      have HRA := Lib.hid hra
      clear hra0 hra hn hc hnext
      have CG := Lib.hid (fun w => great_any x hx w)
      have CWX := Lib.hid (fun w hT => write_any x hx w hT)
      go_upto_region 11 with (fail)
      refine wp_region_lit ?_
      repeat (first | refine wpList_ldm rfl _ _ rfl ga (oa + k * 38) rfl _ _ HRX undS (by rw [cells_length x hx]; exact size38) ?_ | go_step)
      refine (CG.out wr).mono ?_
      rintro e wj ⟨rfl, xj⟩
      rename_i hK
      refine hK _ _ ?_
      have HWn := Lib.hid (HW.out.ext xj)
      have HIn := Lib.hid (HI.out.ext xj)
      have HXn := Lib.hid (HX.out.trans xj)
      have HRXn := Lib.hid (rangeAt_ext HRX.out xj)
      clear HW HI HX HRX xj wr
      have HW := HWn
      have HI := HIn
      have HX := HXn
      have HRX := HRXn
      clear HWn HIn HXn HRXn
      generalize wj = wr at *
      clear CG
      cases hgx : great x with
      | true =>
        go_wp2_with fail
        go_ret
        exact ⟨rfl, HXB.out.trans HX.out⟩
      | false =>
        clear hgx
        go_upto_region 13 with (fail)
        refine wp_region_lit ?_
        repeat (first | refine wpList_ldm rfl _ _ rfl ga (oa + k * 38) rfl _ _ HRX undS (by rw [cells_length x hx]; exact size38) ?_ | go_step)
        refine (CWX.out wr (hTB.out.below HX.out)).mono ?_
        rintro e wj ⟨rfl, xj⟩
        rename_i hK
        refine hK _ _ ?_
        have HWn := Lib.hid (HW.out.ext xj)
        have HIn := Lib.hid (HI.out.ext xj)
        have HXn := Lib.hid (HX.out.trans xj)
        have HRXn := Lib.hid (rangeAt_ext HRX.out xj)
        clear HW HI HX HRX xj wr
        have HW := HWn
        have HI := HIn
        have HX := HXn
        have HRX := HRXn
        clear HWn HIn HXn HRXn
        generalize wj = wr at *
        clear CWX
        cases hg : good x with
        | false =>
          have hee : wE x = 1 := by unfold wE; rw [hg]; rfl
          rw [hee]
          have HN2 : Hid (okL (xs.take (k + 1)) = okL (xs.take k)) := by
            show _ = _
            rw [HNX.out, hg]; rfl
          clear hee hg HNX
          -- {A
          go_wp2_with fail
          go_roundw
          case rel => exact ⟨k + 1, A, by omega, by go_num, rfl, (by show _ = _; rw [HN2.out]; exact HA.out), by omega, (by show Row _ _ _ _; rw [HN2.out]; exact HW.out), (by show Ints _ _ _ _; rw [HN2.out]; exact HI.out), HP, HX⟩
          case measure => simp [intOf]; omega
          -- A}
        | true =>
          have hee : wE x = 0 := by unfold wE; rw [hg]; rfl
          rw [hee]
          have HN2 : Hid (okL (xs.take (k + 1)) = okL (xs.take k) ++ [x]) := by
            show _ = _
            rw [HNX.out, hg]; rfl
          have hFl : (wS x).data.toList = frame (body x) := by unfold wS; rw [if_pos hg]
          have hFs : (wS x).size ≤ 1030 := by rw [← len_data, hFl]; exact frame_le hx hg
          have HFL := Lib.hid hFl
          clear hee HNX hFl hg
          generalize wS x = F at *
          have hol : (okL (xs.take k)).length ≤ 20 := by
            have h1 := List.length_filter_le good (xs.take k)
            rw [List.length_take] at h1
            show (List.filter good (xs.take k)).length ≤ 20
            omega
          -- {B
          go_upto_region 16 with (fail)
          have HA2 : Hid ((A ++ F).data.toList = frames (okL (xs.take (k + 1)))) := by
            show _ = _
            rw [HN2.out, frames_snoc, ← HA.out, ← HFL.out]
            simp
          have hAF : (A ++ F).size ≤ 1030 * (k + 1) := by rw [ByteArray.size_append]; omega
          obtain ⟨A2, hA2⟩ : ∃ A2, A ++ F = A2 := ⟨_, rfl⟩
          rw [hA2] at HA2 hAF ⊢
          clear hA2 HA HFL
          refine wp_region_lit ?_
          iterate 12 go_step
          have hxn := Reg.Ext.alloc wr (.cells #[.int .i64 (A2.size : Int)] 3)
          have hcn := cell_one_new wr (.int .i64 (A2.size : Int)) 3
          have HW1 := Lib.hid (HW.out.ext hxn)
          have HI1 := Lib.hid (HI.out.ext hxn)
          have HX1 := Lib.hid (HX.out.trans hxn)
          clear HW HI HX HRX hxn
          generalize wr.alloc (.cells #[.int .i64 (A2.size : Int)] 3) = w9 at *
          generalize wr.heap.size = g9 at *
          have hel := endsL_len (okL (xs.take k))
          refine wpList_append_own_at _ rfl _ _ 40 rfl wB.heap.size 3 j0 (.int .i64 0) 1 8 Tryd.underlying40 ji jz0 jz1 jz2 jz3 (by decide) u10 (endsL (okL (xs.take k))).length ((endsL (okL (xs.take k))).map intV) rfl HI1.out ⟨g9, 0, none⟩ 1 1 [.int .i64 (A2.size : Int)] rfl rfl ?c1 ?c2 ?c3 ?c4 ?c5 ?_
          case c1 => exact hcn
          case c2 =>
            intro q hq
            rw [List.mem_singleton.1 hq]
            rfl
          case c3 => unfold maxLen; omega
          case c4 => omega
          case c5 => exact HX1.out.size
          intro v' w2 hown' hgrow _ hat'
          have HI2 : Hid (Ints wB.heap.size v' (endsL (okL (xs.take (k + 1)))) w2) := by
            show Ints _ _ _ _
            have e : (frames (okL (xs.take k) ++ [x])).length = A2.size := by rw [← HN2.out, ← HA2.out, len_data]
            rw [HN2.out, endsL_snoc, e]
            unfold Ints
            rw [List.length_append, List.map_append]
            exact hown'
          have HW2 := Lib.hid (HW1.out.kept hgrow HP.out.symm.ne)
          have HP2 := Lib.hid (HP.out.moved hat' (fun q hq => (HW1.out.1.lt q hq).2))
          have HX2 : Hid (Reg.Ext wB w2) := Below.grown HX1.out hgrow HX1.out.size (fun q hq => (World.ownsRow.lt HI1.out q hq).1)
          clear hown' hgrow hat' HI1 HW1 HX1 HP hcn hel
          simp only [Act.put, Act.eval, List.setIfInBounds_toArray, List.set_cons_zero, List.set_cons_succ, Nat.reduceAdd, Array.getD_eq_getD_getElem?, List.getElem?_toArray, List.getElem?_cons_succ, List.getElem?_cons_zero, Option.getD_some]
          clear wr w9
          generalize w2 = wr at *
          have HRX := Lib.hid (rangeAt_ext HRA.out HX2.out)
          go_upto_region 17 with (fail)
          refine wp_region_lit ?_
          iterate 12 go_step
          refine wpList_ldm rfl _ _ rfl ga (oa + k * 38) rfl _ _ HRX undS (by rw [cells_length x hx]; exact size38) ?_
          simp only [Act.put, Act.eval, List.setIfInBounds_toArray, List.set_cons_zero, List.set_cons_succ, Nat.reduceAdd, Array.getD_eq_getD_getElem?, List.getElem?_toArray, List.getElem?_cons_succ, List.getElem?_cons_zero, Option.getD_some]
          refine wpList_valw rfl _ (exec_one_row wr _ _ (.tmp 63) 34 25 x.cells.toArray rfl rfl i0 (.agg S.none.cells.toArray) Tryd.underlying34 hi hz0 (by rw [hz1, List.size_toArray, cells_length x hx]) (by rw [List.size_toArray, cells_length x hx]; decide) (by rw [List.size_toArray, cells_length x hx]; decide)) ?_
          simp only [Act.put, Act.eval, List.setIfInBounds_toArray, List.set_cons_zero, List.set_cons_succ, Nat.reduceAdd, Array.getD_eq_getD_getElem?, List.getElem?_toArray, List.getElem?_cons_succ, List.getElem?_cons_zero, Option.getD_some]
          have hb9 := boxS wr x
          have hx9 := Reg.Ext.alloc wr (Obj.cells x.cells.toArray 25)
          have HW3 := Lib.hid (HW2.out.ext hx9)
          have HI3 := Lib.hid (HI2.out.ext hx9)
          have HX3 := Lib.hid (HX2.out.trans hx9)
          clear HW2 HI2 HX2 hx9 HRX
          generalize wr.alloc (Obj.cells x.cells.toArray 25) = w9 at *
          generalize wr.heap.size = g8 at *
          refine wpList_append_own_at _ rfl _ _ 34 rfl wB.heap.size 25 i0 (.agg S.none.cells.toArray) 38 104 Tryd.underlying34 hi hz0 hz1 hz2 hz3 (by decide) u11 (okL (xs.take k)).length (flat (okL (xs.take k))) rfl HW3.out.1 ⟨g8, 0, none⟩ 1 1 x.cells rfl (cells_length x hx) ?c1 ?c2 ?c3 ?c4 ?c5 ?_
          case c1 =>
            intro j u hj
            rw [Addr.add_mid, Nat.zero_add, hb9.cell]
            exact hj
          case c2 => exact oneS x
          case c3 => unfold maxLen; omega
          case c4 => omega
          case c5 => exact HX3.out.size
          intro vw w2 hown' hgrow _ hat'
          have HW4 : Hid (Row wB.heap.size vw (okL (xs.take (k + 1))) w2) := by
            show Row _ _ _ _
            rw [HN2.out]
            exact ⟨by rw [flat_snoc, List.length_append]; exact hown', fun y hy => (List.mem_append.1 hy).elim (HW3.out.2 y) fun h => by rw [List.mem_singleton.1 h]; exact hx⟩
          have HI4 := Lib.hid (HI3.out.kept hgrow HP2.out.ne)
          have HP4 := Lib.hid (Apart.symm (HP2.out.symm.moved hat' (fun q hq => (World.ownsRow.lt HI3.out q hq).2)))
          have HX4 : Hid (Reg.Ext wB w2) := Below.grown HX3.out hgrow HX3.out.size (fun q hq => (HW3.out.1.lt q hq).1)
          clear hown' hgrow hat' HI3 HW3 HX3 HP2 hb9
          simp only [Act.put, Act.eval, List.setIfInBounds_toArray, List.set_cons_zero, List.set_cons_succ, Nat.reduceAdd, Array.getD_eq_getD_getElem?, List.getElem?_toArray, List.getElem?_cons_succ, List.getElem?_cons_zero, Option.getD_some]
          clear w9 wr
          go_wp2_with fail
          go_roundw
          case rel => exact ⟨k + 1, A2, by omega, by go_num, rfl, HA2, hAF, HW4, HI4, HP4, HX4⟩
          case measure => simp [intOf]; omega
          -- B}
    · -- behind the first loop
      have dk : decide ((k : Int) < (xs.length : Int)) = false := by rw [decide_eq_false_iff_not]; omega
      have hke : k = xs.length := by omega
      subst hke
      have hfit := okL_fit HDX.out
      have hzl : (okL xs).length ≤ 20 := by
        have h1 := List.length_filter_le good xs
        show (List.filter good xs).length ≤ 20
        omega
      have hA := HA.out
      have hW := HW.out
      have hI := HI.out
      rw [List.take_length] at hA hW hI
      clear HA HW HI HRB HDX
      generalize okL xs = zs at *
      have HZ := Lib.hid hfit
      have HA := Lib.hid hA
      have HW := Lib.hid hW
      have HI := Lib.hid hI
      clear hfit hA hW hI hk
      obtain ⟨-, pw, cw, rfl, -, -⟩ := HW.out.rd
      by_cases hz : zs.length = 0
      · have dz : ((zs.length : Int) == 0) = true := by rw [hz]; rfl
        clear hz
        go_wp2_with fail
        go_ret
        exact ⟨rfl, HXB.out.trans HX.out⟩
      obtain ⟨m1, hm1⟩ : ∃ m1, zs.length = m1 + 1 := ⟨zs.length - 1, by omega⟩
      obtain ⟨gw, cw', hwv, hwc, hwm⟩ := HW.out.slice_of (by omega)
      obtain ⟨ge, ce, hev, hec⟩ := HI.out.at_ (by rw [endsL_len]; omega)
      have hne := endsL_len zs
      rw [hm1] at hne
      subst hev
      injection hwv with hwp _ hwcc
      subst hwp hwcc
      rw [hne]
      rw [hm1] at hwc hzl hz ⊢
      have HEC : Hid (∀ i, i ≤ m1 + 1 → ∀ w', Reg.Ext wr w' → w'.cell? ⟨ge, i, none⟩ = some (.int .i64 (((frames (zs.take i)).length : Nat) : Int))) := fun i hi w' hx => hx.at_ (hec i _ (endsL_at zs i (by omega)))
      have HWS : Hid (∀ i, i ≤ m1 + 1 → ∀ w', Reg.Ext wr w' → RdS (.slice (some ⟨gw, 0, none⟩) i cw) (zs.take i) w') := fun i hi w' hx => (Row.take_rd HW.out (by omega)).ext hx
      have hAs2 : A.size = (frames zs).length := by rw [← len_data, HA.out]
      have hAs3 : A.size ≤ 20600 := by omega
      obtain ⟨k0, hk0, ek⟩ := umod cut A.size (by omega)
      have HK := Lib.hid ek
      have HZL := Lib.hid hm1
      have HAS := Lib.hid hAs2
      have dz : (((m1 + 1 : Nat) : Int) == 0) = false := by rw [Bool.eq_false_iff, ne_eq, beq_iff_eq]; omega
      have dz2 : ((m1 : Int) + 1 == 0) = false := by rw [Bool.eq_false_iff, ne_eq, beq_iff_eq]; omega
      clear ek hm1 hAs2 hAs HW HI hec hne hz
      go_upto_region 21 with (fail)
      rw [HK.out]
      clear HK dz dz2
      have H7 := Lib.hid (HB7.out.ext HX.out)
      have HTR : Hid (Crc.Tab wr) := hTB.out.below HX.out
      have HXR := Lib.hid (HXB.out.trans HX.out)
      clear HB7 HX HXB hTB HP
      generalize wr = wS at *
      go_wp2_with fail
      go_loopw [16] (fun i wq => ∃ j : Nat, j ≤ m1 + 1 ∧ i = .int .i64 (j : Int) ∧ Hid ((frames (zs.take j)).length ≤ k0) ∧ Hid (Reg.Ext wS wq)) (fun i _ => m1 + 1 - (intOf i).toNat)
      case atStart => exact ⟨0, by omega, rfl, Nat.zero_le _, Reg.Ext.refl wS⟩
      case round =>
        obtain ⟨j, hj, rfl, HJ, HX⟩ := hrel
        by_cases hjm : j < m1 + 1
        · have dj : decide ((j : Int) + 1 < (m1 : Int) + 2) = true := by rw [decide_eq_true_iff]; omega
          have cj := HEC.out (j + 1) (by omega) wr HX.out
          obtain ⟨L, hL⟩ : ∃ L, (frames (zs.take (j + 1))).length = L := ⟨_, rfl⟩
          rw [hL] at cj
          have HL := Lib.hid hL
          clear hL
          by_cases hLk : L ≤ k0
          · have dL : decide ((L : Int) ≤ (k0 : Int)) = true := by rw [decide_eq_true_iff]; omega
            -- {D
            go_wp2_with fail
            go_roundw
            case rel => exact ⟨j + 1, by omega, by go_num, (by show _ ≤ _; rw [HL.out]; exact hLk), HX⟩
            case measure => simp [intOf]; omega
            -- D}
          · have dL : decide ((L : Int) ≤ (k0 : Int)) = false := by rw [decide_eq_false_iff_not]; omega
            have HC : Hid (allP ((frames zs).take k0) = (zs.take j, (frames (zs.take j)).length)) := allP_cut zs HZ.out k0 j (by rw [← HAS.out]; exact hk0) (by rw [HZL.out]; omega) HJ.out (fun _ => by rw [HL.out]; omega)
            clear HL HJ
            -- {E
            go_upto_region 24 with (fail)
            clear cj dL hLk dj
            obtain ⟨t, ht⟩ : ∃ t, t = A.extract 0 k0 := ⟨_, rfl⟩
            have htl : t.data.toList = (frames zs).take k0 := by rw [ht, ext_to, HA.out]
            have hts : t.size ≤ 1048576 := by rw [ht]; exact ext_le _ _ _ (by omega)
            have CA := Lib.hid (all_any t wr hts (HTR.out.below HX.out))
            rw [htl, HC.out] at CA
            obtain ⟨Lj, hLj⟩ : ∃ L, (frames (zs.take j)).length = L := ⟨_, rfl⟩
            simp only at CA
            rw [hLj] at CA
            have HLJ := Lib.hid hLj
            have HTT := Lib.hid ht
            clear htl hts HC hLj ht
            refine wp_region_lit ?_
            repeat go_step
            rw [← HTT.out]
            refine (CA.out).mono ?_
            rintro e wj ⟨vl, rfl, hrow, xj⟩
            have HX1 := Lib.hid (HX.out.trans xj)
            have CS := Lib.hid (same_any vl (.slice (some ⟨gw, 0, none⟩) j cw) (zs.take j) (zs.take j) wj hrow.rd (HWS.out j hj wj HX1.out))
            rw [(sameL_iff _ _).2 rfl] at CS
            have cLj : wj.cell? ⟨ge, j, none⟩ = some (.int .i64 (Lj : Int)) := by
              have := HEC.out j hj wj HX1.out
              rw [HLJ.out] at this
              exact this
            clear hrow xj CA HX HTT
            go_wp2_with fail
            refine (CS.out).mono ?_
            rintro e wk ⟨rfl, xk⟩
            have HX := Lib.hid (HX1.out.trans xk)
            have cLk : wk.cell? ⟨ge, j, none⟩ = some (.int .i64 (Lj : Int)) := by
              have := HEC.out j hj wk HX.out
              rw [HLJ.out] at this
              exact this
            have H7k := Lib.hid (H7.out.ext HX.out)
            clear cLj CS xk HX1 HLJ H7
            clear wj
            go_upto_region 27 with (fail)
            clear cLk
            refine wp_region_lit ?_
            refine wpList_load_row rfl 39 _ rfl g7 rfl 39 (by4.map byteV).toArray (0, 0) _ H7k.out Tryd.underlying39 rfl (by rw [List.size_toArray, List.length_map, hby]; kernel_rfl) ?_
            simp only [Act.put, Act.eval, List.setIfInBounds_toArray, List.set_cons_zero, List.set_cons_succ, Nat.reduceAdd, Array.getD_eq_getD_getElem?, List.getElem?_toArray, List.getElem?_cons_succ, List.getElem?_cons_zero, Option.getD_some]
            obtain ⟨z4, hz4⟩ : ∃ z4 : List UInt8, z4 = [0, 0, 0, 0] := ⟨_, rfl⟩
            refine wpList_val rfl (.agg (z4.map byteV).toArray) (by rw [hz4]; as_aux_lemma => kernel_rfl) ?_
            simp only [Act.put, Act.eval, List.setIfInBounds_toArray, List.set_cons_zero, List.set_cons_succ, Nat.reduceAdd, Array.getD_eq_getD_getElem?, List.getElem?_toArray, List.getElem?_cons_succ, List.getElem?_cons_zero, Option.getD_some]
            have heq : ∀ W, (Op.equalIn 10000 39 (.agg (by4.map byteV).toArray) (.agg (z4.map byteV).toArray)).run Tryd.prog W = .ok (by4 == z4) W := by
              obtain ⟨iu, hiu, _, _, _⟩ := byteInfo_of
              exact fun W => run_equal_bytes W 9998 Tryd.underlying39 hiu Tryd.underlying5 (by kernel_rfl) by4 z4 hby (by rw [hz4]; rfl)
            have HZ4 := Lib.hid hz4
            clear hz4
            cases hb4 : by4 == z4 with
            | true =>
              rw [hb4] at heq
              go_wp2_with fail
              go_ret
              exact ⟨rfl, HXR.out.trans HX.out⟩
            | false =>
              rw [hb4] at heq
              have HNB := Lib.hid hb4
              clear hb4
              go_upto_region 29 with (fail)
              clear heq
              -- the last record
              have hm1z : m1 < zs.length := by rw [HZL.out]; omega
              obtain ⟨y, hy⟩ : ∃ y, y = zs[m1] := ⟨_, rfl⟩
              have hfy := HZ.out zs[m1] (List.getElem_mem hm1z)
              rw [← hy] at hfy
              have hzy : zs = zs.take m1 ++ [y] := by
                have h := List.take_succ_eq_append_getElem hm1z
                rw [hy, ← h, List.take_of_length_le (by rw [HZL.out]; omega)]
              have hb5 := body_len5 y hfy.1 hfy.2
              have hb1024 := (body_len y hfy.1 hfy.2).2
              have hfz : frames zs = (frames (zs.take m1) ++ (headB (body y).length ++ tail (more 0 (headB (body y).length ++ body y)))) ++ body y := by
                conv => lhs; rw [hzy]
                rw [frames_snoc, frame_rec]
                unfold rec3
                rw [← List.append_assoc]
              have hsrc : ∀ c : List UInt8, c.length = (body y).length → more 0 (headB (body y).length ++ c) ≠ more 0 (headB (body y).length ++ body y) → allP ((frames (zs.take m1) ++ (headB (body y).length ++ tail (more 0 (headB (body y).length ++ body y)))) ++ c) = (zs.take m1, (frames (zs.take m1)).length) := by
                intro c hcl hne
                have h1 := readP_burst (body y) c [] hcl (by omega) hb1024 hne
                rw [List.append_nil] at h1
                have h2 := allP_frames (zs.take m1) (fun x hx => HZ.out x (List.mem_of_mem_take hx)) (rec3 (body y).length (tail (more 0 (headB (body y).length ++ body y))) c)
                rw [allP_end h1] at h2
                unfold rec3 at h2
                rw [← List.append_assoc] at h2
                rw [h2]
                simp
              obtain ⟨pre, hpre⟩ : ∃ pre, pre = frames (zs.take m1) ++ (headB (body y).length ++ tail (more 0 (headB (body y).length ++ body y))) := ⟨_, rfl⟩
              rw [← hpre] at hfz hsrc
              obtain ⟨Lp, hLp⟩ : ∃ L, (frames (zs.take m1)).length = L := ⟨_, rfl⟩
              have hprel : pre.length = Lp + 6 := by rw [hpre, ← hLp, List.length_append, List.length_append, CrcP.tail_length]; rfl
              have hAd : A.data.toList = pre ++ body y := by rw [HA.out, hfz]
              have hcm := HEC.out m1 (by omega) wk HX.out
              rw [hLp] at hcm hsrc
              clear hpre hLp hfz hzy hm1z hfy hy
              generalize body y = bd at *
              have hAl : A.size = Lp + 6 + bd.length := by rw [← len_data, hAd, List.length_append, hprel]
              have HSRC := Lib.hid hsrc
              have HAD := Lib.hid hAd
              have HPL := Lib.hid hprel
              clear hsrc hAd hprel y HA HAS HZ HZL HEC
              go_upto_region 30 with (fail)
              have hcv := fun w : World => Lib.run_convert_string_bytes (P := Tryd.prog) w 9 42 5 A Tryd.underlying9 Tryd.underlying42 Tryd.underlying5
              go_upto_region 31 with (fail)
              have hx2 := conv_ext wk 5 A
              have hwb := WB.conv wk 5 A
              rw [HAD.out] at hwb
              have HCM := Lib.hid hcm
              have g7lt := H7k.out.lt
              have gelt : ge < wk.heap.size := World.block_lt_of_cell? wk _ hcm
              have HX2 := Lib.hid hx2
              have HWB := Lib.hid hwb
              clear hcv hcm hwb hx2
              obtain ⟨gb, hgb⟩ : ∃ g, wk.heap.size = g := ⟨_, rfl⟩
              generalize Lib.bytesWorld wk 5 A = wm at *
              generalize grownCap wk (Lp + 6 + bd.length) 0 5 = cap at *
              rw [hgb] at HWB g7lt gelt ⊢
              have HGB := Lib.hid hgb
              clear hgb
              obtain ⟨q, hq, eq⟩ := umod at_ (bd.length - 4) (by omega)
              have eq2 : wrap64 ((IntKind.u64.wrap at_).tmod ((Lp : Int) + 6 + (bd.length : Int) - ((Lp : Int) + 6) - 3)) = (q : Int) := by
                rw [← eq]; congr 2; omega
              have eq3 : wrap64 ((Lp : Int) + 6 + (q : Int)) = ((Lp + 6 + q : Nat) : Int) := by
                rw [IntWalk.wrap64_in _ ⟨by omega, by omega⟩]; omega
              have HEQ := Lib.hid eq2
              have HEQ3 := Lib.hid eq3
              clear eq eq2 eq3
              go_upto_region 32 with (fail)
              rw [HEQ.out, HEQ3.out]
              clear HEQ HEQ3
              obtain ⟨p0, hp0⟩ : ∃ p0, Lp + 6 + q = p0 := ⟨_, rfl⟩
              rw [hp0]
              obtain ⟨b0, b1, b2, b3, hb4⟩ : ∃ b0 b1 b2 b3, by4 = [b0, b1, b2, b3] := by
                match by4, hby with
                | [b0, b1, b2, b3], _ => exact ⟨b0, b1, b2, b3, rfl⟩
              obtain ⟨mask, hmask⟩ : ∃ m, m = le by4 := ⟨_, rfl⟩
              have hmk : mask = b0.toNat + 256 * (b1.toNat + 256 * (b2.toNat + 256 * b3.toNat)) := by rw [hmask, hb4]; rfl
              have l0 := b0.toNat_lt
              have l1 := b1.toNat_lt
              have l2 := b2.toNat_lt
              have l3 := b3.toNat_lt
              have HM0 : Hid (mask ≠ 0) := by
                intro h0
                have h := HNB.out
                rw [HZ4.out, hb4] at h
                have e0 : b0 = 0 := UInt8.toNat_inj.1 (by show b0.toNat = 0; omega)
                have e1 : b1 = 0 := UInt8.toNat_inj.1 (by show b1.toNat = 0; omega)
                have e2 : b2 = 0 := UInt8.toNat_inj.1 (by show b2.toNat = 0; omega)
                have e3 : b3 = 0 := UInt8.toNat_inj.1 (by show b3.toNat = 0; omega)
                rw [e0, e1, e2, e3] at h
                simp at h
              have HML : Hid (mask < 4294967296) := by show _ < _; omega
              have HQ : Hid (p0 = Lp + 6 + q) := hp0.symm
              have HBY : Hid (∀ k, k < 4 → ∀ w', Reg.Ext wk w' → w'.cell? ⟨g7, k, none⟩ = some (.int .u8 ((mask / 2 ^ (8 * k) % 256 : Nat) : Int))) := by
                intro k hk4 w' hx
                rw [(H7k.out.ext hx).cell, hb4]
                rcases (by omega : k = 0 ∨ k = 1 ∨ k = 2 ∨ k = 3) with rfl | rfl | rfl | rfl
                · show some (byteV b0) = _
                  unfold byteV
                  rw [show mask / 2 ^ (8 * 0) % 256 = b0.toNat by rw [hmk]; simp only [Nat.reduceMul, Nat.reducePow]; omega]
                · show some (byteV b1) = _
                  unfold byteV
                  rw [show mask / 2 ^ (8 * 1) % 256 = b1.toNat by rw [hmk]; simp only [Nat.reduceMul, Nat.reducePow]; omega]
                · show some (byteV b2) = _
                  unfold byteV
                  rw [show mask / 2 ^ (8 * 2) % 256 = b2.toNat by rw [hmk]; simp only [Nat.reduceMul, Nat.reducePow]; omega]
                · show some (byteV b3) = _
                  unfold byteV
                  rw [show mask / 2 ^ (8 * 3) % 256 = b3.toNat by rw [hmk]; simp only [Nat.reduceMul, Nat.reducePow]; omega]
              clear hmk l0 l1 l2 l3 hmask HNB HZ4 H7k hp0 hb4
              have hLb : Lp + 6 + bd.length ≤ 20600 := by omega
              have HAL := Lib.hid hAl
              clear hAl
              rw [show m1 + 1 + 1 - 2 = m1 from rfl]
              go_wp2_with fail
              go_loopw [22] (fun i wr3 => ∃ (k : Nat) (c : List UInt8), k ≤ 4 ∧ i = .int .i64 (k : Int) ∧ c.length = bd.length ∧ Hid (WB wr3 gb (pre ++ c)) ∧ Hid (le c = le bd ^^^ 2 ^ (8 * q) * (mask % 2 ^ (8 * k))) ∧ Hid (Reg.Ext wk wr3)) (fun i _ => 4 - (intOf i).toNat)
              case atStart => exact ⟨0, bd, by omega, rfl, rfl, HWB, by show _ = _; rw [Nat.mul_zero, Nat.pow_zero, Nat.mod_one, Nat.mul_zero, Nat.xor_zero], HX2⟩
              case round =>
                obtain ⟨k, c, hk4, rfl, hcl, HB, HL, HXK⟩ := hrel
                clear HWB HX2
                rcases (by omega : k = 0 ∨ k = 1 ∨ k = 2 ∨ k = 3 ∨ k = 4) with rfl | rfl | rfl | rfl | rfl
                ·
                  -- {T
                  obtain ⟨c3, c2, c', cc, cf, cx, cb, cl, ce⟩ := burst_round wr gb pre c bd q 0 mask (by omega) HB.out HL.out
                  have cby := HBY.out 0 (by omega) wr HXK.out
                  rw [HPL.out, ← HQ.out] at cc cf cb
                  have hxs0 : Reg.Ext wk (wr.setCell ⟨gb, p0, none⟩ (.int .u8 (c2 : Int))) := HXK.out.setCell (Nat.le_of_eq HGB.out) _
                  have hxs : Reg.Ext wk (wr.setCell ⟨gb, p0, none⟩ (.int .u8 (c2 : Int))).drew := Below.drew hxs0
                  clear hxs0
                  have hbs : WB (wr.setCell ⟨gb, p0, none⟩ (.int .u8 (c2 : Int))).drew gb (pre ++ c') := cb.drew
                  have HF := Lib.hid ce
                  have HBS := Lib.hid hbs
                  have HXS := Lib.hid hxs
                  have HLS := Lib.hid (cl.trans hcl)
                  have hlt : p0 + 0 < Lp + 6 + bd.length := by have := HQ.out; omega
                  clear ce cb hxs cl HB HL HXK hbs
                  generalize (mask / 2 ^ (8 * 0) % 256) = bk at *
                  have ccd : wr.drew.cell? ⟨gb, p0, none⟩ = some (.int .u8 (c3 : Int)) := cc
                  have cbyd : wr.drew.cell? ⟨g7, 0, none⟩ = some (.int .u8 (bk : Int)) := cby
                  have cfd : wr.drew.frozen? ⟨gb, p0, none⟩ = false := cf
                  have hwr : IntKind.i64.wrap ((p0 : Int) + 0) = (p0 : Int) + 0 := by rw [IntKind.wrap_i64]; omega
                  have hwr2 : IntKind.i64.wrap (p0 : Int) = (p0 : Int) := by rw [IntKind.wrap_i64]; omega
                  have hix : ∀ W, (Instr.indexAt 42 (.slice (some ⟨gb, 0, none⟩) (Lp + 6 + bd.length) cap) (.int .i64 (p0 : Int))).run Tryd.prog W = .ok (.pointer (some ⟨gb, p0, none⟩)) W := fun W => by
                    refine Eq.trans (idx_at W gb (Lp + 6 + bd.length) cap (p0 + 0) hlt) ?_
                    rfl
                  clear cc cby cf
                  go_upto_region 35 with (fail)
                  go_still_tail 15, (by kernel_rfl)
                  change wpList _ _ _ _ _ wr.drew
                  iterate 2 go_step
                  go_wp2_with fail
                  clear hix hwr hwr2 ccd cbyd cfd cx
                  go_roundw
                  case rel => exact ⟨0 + 1, c', by omega, rfl, HLS.out, HBS, HF, HXS⟩
                  case measure => simp [intOf]
                  -- T}
                ·
                  -- {T1
                  obtain ⟨c3, c2, c', cc, cf, cx, cb, cl, ce⟩ := burst_round wr gb pre c bd q 1 mask (by omega) HB.out HL.out
                  have cby := HBY.out 1 (by omega) wr HXK.out
                  rw [HPL.out, ← HQ.out] at cc cf cb
                  have hxs0 : Reg.Ext wk (wr.setCell ⟨gb, p0 + 1, none⟩ (.int .u8 (c2 : Int))) := HXK.out.setCell (Nat.le_of_eq HGB.out) _
                  have hxs : Reg.Ext wk (wr.setCell ⟨gb, p0 + 1, none⟩ (.int .u8 (c2 : Int))).drew := Below.drew hxs0
                  clear hxs0
                  have hbs : WB (wr.setCell ⟨gb, p0 + 1, none⟩ (.int .u8 (c2 : Int))).drew gb (pre ++ c') := cb.drew
                  have HF := Lib.hid ce
                  have HBS := Lib.hid hbs
                  have HXS := Lib.hid hxs
                  have HLS := Lib.hid (cl.trans hcl)
                  have hlt : p0 + 1 < Lp + 6 + bd.length := by have := HQ.out; omega
                  clear ce cb hxs cl HB HL HXK hbs
                  generalize (mask / 2 ^ (8 * 1) % 256) = bk at *
                  have ccd : wr.drew.cell? ⟨gb, p0 + 1, none⟩ = some (.int .u8 (c3 : Int)) := cc
                  have cbyd : wr.drew.cell? ⟨g7, 1, none⟩ = some (.int .u8 (bk : Int)) := cby
                  have cfd : wr.drew.frozen? ⟨gb, p0 + 1, none⟩ = false := cf
                  have hwr : IntKind.i64.wrap ((p0 : Int) + 1) = (p0 : Int) + 1 := by rw [IntKind.wrap_i64]; omega
                  have hwr2 : IntKind.i64.wrap ((p0 : Int) + 1) = ((p0 : Int) + 1) := by rw [IntKind.wrap_i64]; omega
                  have hix : ∀ W, (Instr.indexAt 42 (.slice (some ⟨gb, 0, none⟩) (Lp + 6 + bd.length) cap) (.int .i64 ((p0 : Int) + 1))).run Tryd.prog W = .ok (.pointer (some ⟨gb, p0 + 1, none⟩)) W := fun W => by
                    refine Eq.trans (idx_at W gb (Lp + 6 + bd.length) cap (p0 + 1) hlt) ?_
                    rfl
                  clear cc cby cf
                  go_upto_region 35 with (fail)
                  go_still_tail 15, (by kernel_rfl)
                  change wpList _ _ _ _ _ wr.drew
                  iterate 2 go_step
                  go_wp2_with fail
                  clear hix hwr hwr2 ccd cbyd cfd cx
                  go_roundw
                  case rel => exact ⟨1 + 1, c', by omega, rfl, HLS.out, HBS, HF, HXS⟩
                  case measure => simp [intOf]
                  -- T1}
                ·
                  -- {T2
                  obtain ⟨c3, c2, c', cc, cf, cx, cb, cl, ce⟩ := burst_round wr gb pre c bd q 2 mask (by omega) HB.out HL.out
                  have cby := HBY.out 2 (by omega) wr HXK.out
                  rw [HPL.out, ← HQ.out] at cc cf cb
                  have hxs0 : Reg.Ext wk (wr.setCell ⟨gb, p0 + 2, none⟩ (.int .u8 (c2 : Int))) := HXK.out.setCell (Nat.le_of_eq HGB.out) _
                  have hxs : Reg.Ext wk (wr.setCell ⟨gb, p0 + 2, none⟩ (.int .u8 (c2 : Int))).drew := Below.drew hxs0
                  clear hxs0
                  have hbs : WB (wr.setCell ⟨gb, p0 + 2, none⟩ (.int .u8 (c2 : Int))).drew gb (pre ++ c') := cb.drew
                  have HF := Lib.hid ce
                  have HBS := Lib.hid hbs
                  have HXS := Lib.hid hxs
                  have HLS := Lib.hid (cl.trans hcl)
                  have hlt : p0 + 2 < Lp + 6 + bd.length := by have := HQ.out; omega
                  clear ce cb hxs cl HB HL HXK hbs
                  generalize (mask / 2 ^ (8 * 2) % 256) = bk at *
                  have ccd : wr.drew.cell? ⟨gb, p0 + 2, none⟩ = some (.int .u8 (c3 : Int)) := cc
                  have cbyd : wr.drew.cell? ⟨g7, 2, none⟩ = some (.int .u8 (bk : Int)) := cby
                  have cfd : wr.drew.frozen? ⟨gb, p0 + 2, none⟩ = false := cf
                  have hwr : IntKind.i64.wrap ((p0 : Int) + 2) = (p0 : Int) + 2 := by rw [IntKind.wrap_i64]; omega
                  have hwr2 : IntKind.i64.wrap ((p0 : Int) + 2) = ((p0 : Int) + 2) := by rw [IntKind.wrap_i64]; omega
                  have hix : ∀ W, (Instr.indexAt 42 (.slice (some ⟨gb, 0, none⟩) (Lp + 6 + bd.length) cap) (.int .i64 ((p0 : Int) + 2))).run Tryd.prog W = .ok (.pointer (some ⟨gb, p0 + 2, none⟩)) W := fun W => by
                    refine Eq.trans (idx_at W gb (Lp + 6 + bd.length) cap (p0 + 2) hlt) ?_
                    rfl
                  clear cc cby cf
                  go_upto_region 35 with (fail)
                  go_still_tail 15, (by kernel_rfl)
                  change wpList _ _ _ _ _ wr.drew
                  iterate 2 go_step
                  go_wp2_with fail
                  clear hix hwr hwr2 ccd cbyd cfd cx
                  go_roundw
                  case rel => exact ⟨2 + 1, c', by omega, rfl, HLS.out, HBS, HF, HXS⟩
                  case measure => simp [intOf]
                  -- T2}
                ·
                  -- {T3
                  obtain ⟨c3, c2, c', cc, cf, cx, cb, cl, ce⟩ := burst_round wr gb pre c bd q 3 mask (by omega) HB.out HL.out
                  have cby := HBY.out 3 (by omega) wr HXK.out
                  rw [HPL.out, ← HQ.out] at cc cf cb
                  have hxs0 : Reg.Ext wk (wr.setCell ⟨gb, p0 + 3, none⟩ (.int .u8 (c2 : Int))) := HXK.out.setCell (Nat.le_of_eq HGB.out) _
                  have hxs : Reg.Ext wk (wr.setCell ⟨gb, p0 + 3, none⟩ (.int .u8 (c2 : Int))).drew := Below.drew hxs0
                  clear hxs0
                  have hbs : WB (wr.setCell ⟨gb, p0 + 3, none⟩ (.int .u8 (c2 : Int))).drew gb (pre ++ c') := cb.drew
                  have HF := Lib.hid ce
                  have HBS := Lib.hid hbs
                  have HXS := Lib.hid hxs
                  have HLS := Lib.hid (cl.trans hcl)
                  have hlt : p0 + 3 < Lp + 6 + bd.length := by have := HQ.out; omega
                  clear ce cb hxs cl HB HL HXK hbs
                  generalize (mask / 2 ^ (8 * 3) % 256) = bk at *
                  have ccd : wr.drew.cell? ⟨gb, p0 + 3, none⟩ = some (.int .u8 (c3 : Int)) := cc
                  have cbyd : wr.drew.cell? ⟨g7, 3, none⟩ = some (.int .u8 (bk : Int)) := cby
                  have cfd : wr.drew.frozen? ⟨gb, p0 + 3, none⟩ = false := cf
                  have hwr : IntKind.i64.wrap ((p0 : Int) + 3) = (p0 : Int) + 3 := by rw [IntKind.wrap_i64]; omega
                  have hwr2 : IntKind.i64.wrap ((p0 : Int) + 3) = ((p0 : Int) + 3) := by rw [IntKind.wrap_i64]; omega
                  have hix : ∀ W, (Instr.indexAt 42 (.slice (some ⟨gb, 0, none⟩) (Lp + 6 + bd.length) cap) (.int .i64 ((p0 : Int) + 3))).run Tryd.prog W = .ok (.pointer (some ⟨gb, p0 + 3, none⟩)) W := fun W => by
                    refine Eq.trans (idx_at W gb (Lp + 6 + bd.length) cap (p0 + 3) hlt) ?_
                    rfl
                  clear cc cby cf
                  go_upto_region 35 with (fail)
                  go_still_tail 15, (by kernel_rfl)
                  change wpList _ _ _ _ _ wr.drew
                  iterate 2 go_step
                  go_wp2_with fail
                  clear hix hwr hwr2 ccd cbyd cfd cx
                  go_roundw
                  case rel => exact ⟨3 + 1, c', by omega, rfl, HLS.out, HBS, HF, HXS⟩
                  case measure => simp [intOf]
                  -- T3}
                ·
                  -- {L
                  have hl2 : le c = le bd ^^^ 2 ^ (8 * q) * mask := by
                    rw [HL.out, Nat.mod_eq_of_lt (show mask < 2 ^ (8 * 4) from HML.out)]
                  have hal := HSRC.out c hcl (burst_more bd.length bd c q mask hcl (by omega) HML.out HM0.out hl2)
                  obtain ⟨C, hC⟩ : ∃ C : ByteArray, C = ⟨(pre ++ c).toArray⟩ := ⟨_, rfl⟩
                  have hCl : C.data.toList = pre ++ c := by rw [hC]
                  have hCs : C.size ≤ 1048576 := by rw [← len_data, hCl, List.length_append, HPL.out, hcl]; omega
                  have hcs := conv_bytes (P := Tryd.prog) wr 42 9 5 Tryd.underlying42 Tryd.underlying5 Tryd.underlying9 gb 0 (Lp + 6 + bd.length) cap (pre ++ c) (by rw [List.length_append, HPL.out, hcl]) (fun j hj => by rw [Nat.zero_add]; exact HB.out.cell j hj)
                  rw [← hC] at hcs
                  have CA := Lib.hid (all_any C wr hCs (Crc.Tab.below HTR.out (HX.out.trans HXK.out)))
                  rw [hCl, hal] at CA
                  simp only at CA
                  have HXE := Lib.hid (HX.out.trans HXK.out)
                  have HCME : Hid (∀ w', Reg.Ext wk w' → w'.cell? ⟨ge, m1, none⟩ = some (.int .i64 (Lp : Int))) := fun w' hx => hx.at_ HCM.out
                  clear hl2 hal hC hCl hCs HB HL
                  go_wp2_with fail
                  refine (CA.out).mono ?_
                  rintro e wj ⟨vl2, rfl, hrow, xj⟩
                  have HX3 := Lib.hid (HXE.out.trans xj)
                  have HXK3 := Lib.hid (HXK.out.trans xj)
                  have CS := Lib.hid (same_any vl2 (.slice (some ⟨gw, 0, none⟩) m1 cw) (zs.take m1) (zs.take m1) wj hrow.rd (HWS.out m1 (by omega) wj HX3.out))
                  rw [(sameL_iff _ _).2 rfl] at CS
                  clear hrow xj CA hcs HXE HXK
                  go_wp2_with fail
                  refine (CS.out).mono ?_
                  rintro e wz ⟨rfl, xz⟩
                  have HX4 := Lib.hid (HX3.out.trans xz)
                  have hcm := HCME.out wz (HXK3.out.trans xz)
                  clear CS xz HX3 HXK3
                  go_wp2_with fail
                  go_ret
                  exact ⟨rfl, HXR.out.trans HX4.out⟩
                  -- L}
            -- E}
        · have dj : decide ((j : Int) + 1 < (m1 : Int) + 2) = false := by rw [decide_eq_false_iff_not]; omega
          have HC : Hid (allP ((frames zs).take k0) = (zs.take j, (frames (zs.take j)).length)) := allP_cut zs HZ.out k0 j (by rw [← HAS.out]; exact hk0) (by rw [HZL.out]; omega) HJ.out (fun h => by rw [HZL.out] at h; omega)
          clear HJ
          -- {F
          go_upto_region 24 with (fail)
          clear dj
          obtain ⟨t, ht⟩ : ∃ t, t = A.extract 0 k0 := ⟨_, rfl⟩
          have htl : t.data.toList = (frames zs).take k0 := by rw [ht, ext_to, HA.out]
          have hts : t.size ≤ 1048576 := by rw [ht]; exact ext_le _ _ _ (by omega)
          have CA := Lib.hid (all_any t wr hts (HTR.out.below HX.out))
          rw [htl, HC.out] at CA
          obtain ⟨Lj, hLj⟩ : ∃ L, (frames (zs.take j)).length = L := ⟨_, rfl⟩
          simp only at CA
          rw [hLj] at CA
          have HLJ := Lib.hid hLj
          have HTT := Lib.hid ht
          clear htl hts HC hLj ht
          refine wp_region_lit ?_
          repeat go_step
          rw [← HTT.out]
          refine (CA.out).mono ?_
          rintro e wj ⟨vl, rfl, hrow, xj⟩
          have HX1 := Lib.hid (HX.out.trans xj)
          have CS := Lib.hid (same_any vl (.slice (some ⟨gw, 0, none⟩) j cw) (zs.take j) (zs.take j) wj hrow.rd (HWS.out j hj wj HX1.out))
          rw [(sameL_iff _ _).2 rfl] at CS
          have cLj : wj.cell? ⟨ge, j, none⟩ = some (.int .i64 (Lj : Int)) := by
            have := HEC.out j hj wj HX1.out
            rw [HLJ.out] at this
            exact this
          clear hrow xj CA HX HTT
          go_wp2_with fail
          refine (CS.out).mono ?_
          rintro e wk ⟨rfl, xk⟩
          have HX := Lib.hid (HX1.out.trans xk)
          have cLk : wk.cell? ⟨ge, j, none⟩ = some (.int .i64 (Lj : Int)) := by
            have := HEC.out j hj wk HX.out
            rw [HLJ.out] at this
            exact this
          have H7k := Lib.hid (H7.out.ext HX.out)
          clear cLj CS xk HX1 HLJ H7
          clear wj
          go_upto_region 27 with (fail)
          clear cLk
          refine wp_region_lit ?_
          refine wpList_load_row rfl 39 _ rfl g7 rfl 39 (by4.map byteV).toArray (0, 0) _ H7k.out Tryd.underlying39 rfl (by rw [List.size_toArray, List.length_map, hby]; kernel_rfl) ?_
          simp only [Act.put, Act.eval, List.setIfInBounds_toArray, List.set_cons_zero, List.set_cons_succ, Nat.reduceAdd, Array.getD_eq_getD_getElem?, List.getElem?_toArray, List.getElem?_cons_succ, List.getElem?_cons_zero, Option.getD_some]
          obtain ⟨z4, hz4⟩ : ∃ z4 : List UInt8, z4 = [0, 0, 0, 0] := ⟨_, rfl⟩
          refine wpList_val rfl (.agg (z4.map byteV).toArray) (by rw [hz4]; as_aux_lemma => kernel_rfl) ?_
          simp only [Act.put, Act.eval, List.setIfInBounds_toArray, List.set_cons_zero, List.set_cons_succ, Nat.reduceAdd, Array.getD_eq_getD_getElem?, List.getElem?_toArray, List.getElem?_cons_succ, List.getElem?_cons_zero, Option.getD_some]
          have heq : ∀ W, (Op.equalIn 10000 39 (.agg (by4.map byteV).toArray) (.agg (z4.map byteV).toArray)).run Tryd.prog W = .ok (by4 == z4) W := by
            obtain ⟨iu, hiu, _, _, _⟩ := byteInfo_of
            exact fun W => run_equal_bytes W 9998 Tryd.underlying39 hiu Tryd.underlying5 (by kernel_rfl) by4 z4 hby (by rw [hz4]; rfl)
          have HZ4 := Lib.hid hz4
          clear hz4
          cases hb4 : by4 == z4 with
          | true =>
            rw [hb4] at heq
            go_wp2_with fail
            go_ret
            exact ⟨rfl, HXR.out.trans HX.out⟩
          | false =>
            rw [hb4] at heq
            have HNB := Lib.hid hb4
            clear hb4
            go_upto_region 29 with (fail)
            clear heq
            -- the last record
            have hm1z : m1 < zs.length := by rw [HZL.out]; omega
            obtain ⟨y, hy⟩ : ∃ y, y = zs[m1] := ⟨_, rfl⟩
            have hfy := HZ.out zs[m1] (List.getElem_mem hm1z)
            rw [← hy] at hfy
            have hzy : zs = zs.take m1 ++ [y] := by
              have h := List.take_succ_eq_append_getElem hm1z
              rw [hy, ← h, List.take_of_length_le (by rw [HZL.out]; omega)]
            have hb5 := body_len5 y hfy.1 hfy.2
            have hb1024 := (body_len y hfy.1 hfy.2).2
            have hfz : frames zs = (frames (zs.take m1) ++ (headB (body y).length ++ tail (more 0 (headB (body y).length ++ body y)))) ++ body y := by
              conv => lhs; rw [hzy]
              rw [frames_snoc, frame_rec]
              unfold rec3
              rw [← List.append_assoc]
            have hsrc : ∀ c : List UInt8, c.length = (body y).length → more 0 (headB (body y).length ++ c) ≠ more 0 (headB (body y).length ++ body y) → allP ((frames (zs.take m1) ++ (headB (body y).length ++ tail (more 0 (headB (body y).length ++ body y)))) ++ c) = (zs.take m1, (frames (zs.take m1)).length) := by
              intro c hcl hne
              have h1 := readP_burst (body y) c [] hcl (by omega) hb1024 hne
              rw [List.append_nil] at h1
              have h2 := allP_frames (zs.take m1) (fun x hx => HZ.out x (List.mem_of_mem_take hx)) (rec3 (body y).length (tail (more 0 (headB (body y).length ++ body y))) c)
              rw [allP_end h1] at h2
              unfold rec3 at h2
              rw [← List.append_assoc] at h2
              rw [h2]
              simp
            obtain ⟨pre, hpre⟩ : ∃ pre, pre = frames (zs.take m1) ++ (headB (body y).length ++ tail (more 0 (headB (body y).length ++ body y))) := ⟨_, rfl⟩
            rw [← hpre] at hfz hsrc
            obtain ⟨Lp, hLp⟩ : ∃ L, (frames (zs.take m1)).length = L := ⟨_, rfl⟩
            have hprel : pre.length = Lp + 6 := by rw [hpre, ← hLp, List.length_append, List.length_append, CrcP.tail_length]; rfl
            have hAd : A.data.toList = pre ++ body y := by rw [HA.out, hfz]
            have hcm := HEC.out m1 (by omega) wk HX.out
            rw [hLp] at hcm hsrc
            clear hpre hLp hfz hzy hm1z hfy hy
            generalize body y = bd at *
            have hAl : A.size = Lp + 6 + bd.length := by rw [← len_data, hAd, List.length_append, hprel]
            have HSRC := Lib.hid hsrc
            have HAD := Lib.hid hAd
            have HPL := Lib.hid hprel
            clear hsrc hAd hprel y HA HAS HZ HZL HEC
            go_upto_region 30 with (fail)
            have hcv := fun w : World => Lib.run_convert_string_bytes (P := Tryd.prog) w 9 42 5 A Tryd.underlying9 Tryd.underlying42 Tryd.underlying5
            go_upto_region 31 with (fail)
            have hx2 := conv_ext wk 5 A
            have hwb := WB.conv wk 5 A
            rw [HAD.out] at hwb
            have HCM := Lib.hid hcm
            have g7lt := H7k.out.lt
            have gelt : ge < wk.heap.size := World.block_lt_of_cell? wk _ hcm
            have HX2 := Lib.hid hx2
            have HWB := Lib.hid hwb
            clear hcv hcm hwb hx2
            obtain ⟨gb, hgb⟩ : ∃ g, wk.heap.size = g := ⟨_, rfl⟩
            generalize Lib.bytesWorld wk 5 A = wm at *
            generalize grownCap wk (Lp + 6 + bd.length) 0 5 = cap at *
            rw [hgb] at HWB g7lt gelt ⊢
            have HGB := Lib.hid hgb
            clear hgb
            obtain ⟨q, hq, eq⟩ := umod at_ (bd.length - 4) (by omega)
            have eq2 : wrap64 ((IntKind.u64.wrap at_).tmod ((Lp : Int) + 6 + (bd.length : Int) - ((Lp : Int) + 6) - 3)) = (q : Int) := by
              rw [← eq]; congr 2; omega
            have eq3 : wrap64 ((Lp : Int) + 6 + (q : Int)) = ((Lp + 6 + q : Nat) : Int) := by
              rw [IntWalk.wrap64_in _ ⟨by omega, by omega⟩]; omega
            have HEQ := Lib.hid eq2
            have HEQ3 := Lib.hid eq3
            clear eq eq2 eq3
            go_upto_region 32 with (fail)
            rw [HEQ.out, HEQ3.out]
            clear HEQ HEQ3
            obtain ⟨p0, hp0⟩ : ∃ p0, Lp + 6 + q = p0 := ⟨_, rfl⟩
            rw [hp0]
            obtain ⟨b0, b1, b2, b3, hb4⟩ : ∃ b0 b1 b2 b3, by4 = [b0, b1, b2, b3] := by
              match by4, hby with
              | [b0, b1, b2, b3], _ => exact ⟨b0, b1, b2, b3, rfl⟩
            obtain ⟨mask, hmask⟩ : ∃ m, m = le by4 := ⟨_, rfl⟩
            have hmk : mask = b0.toNat + 256 * (b1.toNat + 256 * (b2.toNat + 256 * b3.toNat)) := by rw [hmask, hb4]; rfl
            have l0 := b0.toNat_lt
            have l1 := b1.toNat_lt
            have l2 := b2.toNat_lt
            have l3 := b3.toNat_lt
            have HM0 : Hid (mask ≠ 0) := by
              intro h0
              have h := HNB.out
              rw [HZ4.out, hb4] at h
              have e0 : b0 = 0 := UInt8.toNat_inj.1 (by show b0.toNat = 0; omega)
              have e1 : b1 = 0 := UInt8.toNat_inj.1 (by show b1.toNat = 0; omega)
              have e2 : b2 = 0 := UInt8.toNat_inj.1 (by show b2.toNat = 0; omega)
              have e3 : b3 = 0 := UInt8.toNat_inj.1 (by show b3.toNat = 0; omega)
              rw [e0, e1, e2, e3] at h
              simp at h
            have HML : Hid (mask < 4294967296) := by show _ < _; omega
            have HQ : Hid (p0 = Lp + 6 + q) := hp0.symm
            have HBY : Hid (∀ k, k < 4 → ∀ w', Reg.Ext wk w' → w'.cell? ⟨g7, k, none⟩ = some (.int .u8 ((mask / 2 ^ (8 * k) % 256 : Nat) : Int))) := by
              intro k hk4 w' hx
              rw [(H7k.out.ext hx).cell, hb4]
              rcases (by omega : k = 0 ∨ k = 1 ∨ k = 2 ∨ k = 3) with rfl | rfl | rfl | rfl
              · show some (byteV b0) = _
                unfold byteV
                rw [show mask / 2 ^ (8 * 0) % 256 = b0.toNat by rw [hmk]; simp only [Nat.reduceMul, Nat.reducePow]; omega]
              · show some (byteV b1) = _
                unfold byteV
                rw [show mask / 2 ^ (8 * 1) % 256 = b1.toNat by rw [hmk]; simp only [Nat.reduceMul, Nat.reducePow]; omega]
              · show some (byteV b2) = _
                unfold byteV
                rw [show mask / 2 ^ (8 * 2) % 256 = b2.toNat by rw [hmk]; simp only [Nat.reduceMul, Nat.reducePow]; omega]
              · show some (byteV b3) = _
                unfold byteV
                rw [show mask / 2 ^ (8 * 3) % 256 = b3.toNat by rw [hmk]; simp only [Nat.reduceMul, Nat.reducePow]; omega]
            clear hmk l0 l1 l2 l3 hmask HNB HZ4 H7k hp0 hb4
            have hLb : Lp + 6 + bd.length ≤ 20600 := by omega
            have HAL := Lib.hid hAl
            clear hAl
            rw [show m1 + 1 + 1 - 2 = m1 from rfl]
            go_wp2_with fail
            go_loopw [22] (fun i wr3 => ∃ (k : Nat) (c : List UInt8), k ≤ 4 ∧ i = .int .i64 (k : Int) ∧ c.length = bd.length ∧ Hid (WB wr3 gb (pre ++ c)) ∧ Hid (le c = le bd ^^^ 2 ^ (8 * q) * (mask % 2 ^ (8 * k))) ∧ Hid (Reg.Ext wk wr3)) (fun i _ => 4 - (intOf i).toNat)
            case atStart => exact ⟨0, bd, by omega, rfl, rfl, HWB, by show _ = _; rw [Nat.mul_zero, Nat.pow_zero, Nat.mod_one, Nat.mul_zero, Nat.xor_zero], HX2⟩
            case round =>
              obtain ⟨k, c, hk4, rfl, hcl, HB, HL, HXK⟩ := hrel
              clear HWB HX2
              rcases (by omega : k = 0 ∨ k = 1 ∨ k = 2 ∨ k = 3 ∨ k = 4) with rfl | rfl | rfl | rfl | rfl
              ·
                -- {T
                obtain ⟨c3, c2, c', cc, cf, cx, cb, cl, ce⟩ := burst_round wr gb pre c bd q 0 mask (by omega) HB.out HL.out
                have cby := HBY.out 0 (by omega) wr HXK.out
                rw [HPL.out, ← HQ.out] at cc cf cb
                have hxs0 : Reg.Ext wk (wr.setCell ⟨gb, p0, none⟩ (.int .u8 (c2 : Int))) := HXK.out.setCell (Nat.le_of_eq HGB.out) _
                have hxs : Reg.Ext wk (wr.setCell ⟨gb, p0, none⟩ (.int .u8 (c2 : Int))).drew := Below.drew hxs0
                clear hxs0
                have hbs : WB (wr.setCell ⟨gb, p0, none⟩ (.int .u8 (c2 : Int))).drew gb (pre ++ c') := cb.drew
                have HF := Lib.hid ce
                have HBS := Lib.hid hbs
                have HXS := Lib.hid hxs
                have HLS := Lib.hid (cl.trans hcl)
                have hlt : p0 + 0 < Lp + 6 + bd.length := by have := HQ.out; omega
                clear ce cb hxs cl HB HL HXK hbs
                generalize (mask / 2 ^ (8 * 0) % 256) = bk at *
                have ccd : wr.drew.cell? ⟨gb, p0, none⟩ = some (.int .u8 (c3 : Int)) := cc
                have cbyd : wr.drew.cell? ⟨g7, 0, none⟩ = some (.int .u8 (bk : Int)) := cby
                have cfd : wr.drew.frozen? ⟨gb, p0, none⟩ = false := cf
                have hwr : IntKind.i64.wrap ((p0 : Int) + 0) = (p0 : Int) + 0 := by rw [IntKind.wrap_i64]; omega
                have hwr2 : IntKind.i64.wrap (p0 : Int) = (p0 : Int) := by rw [IntKind.wrap_i64]; omega
                have hix : ∀ W, (Instr.indexAt 42 (.slice (some ⟨gb, 0, none⟩) (Lp + 6 + bd.length) cap) (.int .i64 (p0 : Int))).run Tryd.prog W = .ok (.pointer (some ⟨gb, p0, none⟩)) W := fun W => by
                  refine Eq.trans (idx_at W gb (Lp + 6 + bd.length) cap (p0 + 0) hlt) ?_
                  rfl
                clear cc cby cf
                go_upto_region 35 with (fail)
                go_still_tail 15, (by kernel_rfl)
                change wpList _ _ _ _ _ wr.drew
                iterate 2 go_step
                go_wp2_with fail
                clear hix hwr hwr2 ccd cbyd cfd cx
                go_roundw
                case rel => exact ⟨0 + 1, c', by omega, rfl, HLS.out, HBS, HF, HXS⟩
                case measure => simp [intOf]
                -- T}
              ·
                -- {T1
                obtain ⟨c3, c2, c', cc, cf, cx, cb, cl, ce⟩ := burst_round wr gb pre c bd q 1 mask (by omega) HB.out HL.out
                have cby := HBY.out 1 (by omega) wr HXK.out
                rw [HPL.out, ← HQ.out] at cc cf cb
                have hxs0 : Reg.Ext wk (wr.setCell ⟨gb, p0 + 1, none⟩ (.int .u8 (c2 : Int))) := HXK.out.setCell (Nat.le_of_eq HGB.out) _
                have hxs : Reg.Ext wk (wr.setCell ⟨gb, p0 + 1, none⟩ (.int .u8 (c2 : Int))).drew := Below.drew hxs0
                clear hxs0
                have hbs : WB (wr.setCell ⟨gb, p0 + 1, none⟩ (.int .u8 (c2 : Int))).drew gb (pre ++ c') := cb.drew
                have HF := Lib.hid ce
                have HBS := Lib.hid hbs
                have HXS := Lib.hid hxs
                have HLS := Lib.hid (cl.trans hcl)
                have hlt : p0 + 1 < Lp + 6 + bd.length := by have := HQ.out; omega
                clear ce cb hxs cl HB HL HXK hbs
                generalize (mask / 2 ^ (8 * 1) % 256) = bk at *
                have ccd : wr.drew.cell? ⟨gb, p0 + 1, none⟩ = some (.int .u8 (c3 : Int)) := cc
                have cbyd : wr.drew.cell? ⟨g7, 1, none⟩ = some (.int .u8 (bk : Int)) := cby
                have cfd : wr.drew.frozen? ⟨gb, p0 + 1, none⟩ = false := cf
                have hwr : IntKind.i64.wrap ((p0 : Int) + 1) = (p0 : Int) + 1 := by rw [IntKind.wrap_i64]; omega
                have hwr2 : IntKind.i64.wrap ((p0 : Int) + 1) = ((p0 : Int) + 1) := by rw [IntKind.wrap_i64]; omega
                have hix : ∀ W, (Instr.indexAt 42 (.slice (some ⟨gb, 0, none⟩) (Lp + 6 + bd.length) cap) (.int .i64 ((p0 : Int) + 1))).run Tryd.prog W = .ok (.pointer (some ⟨gb, p0 + 1, none⟩)) W := fun W => by
                  refine Eq.trans (idx_at W gb (Lp + 6 + bd.length) cap (p0 + 1) hlt) ?_
                  rfl
                clear cc cby cf
                go_upto_region 35 with (fail)
                go_still_tail 15, (by kernel_rfl)
                change wpList _ _ _ _ _ wr.drew
                iterate 2 go_step
                go_wp2_with fail
                clear hix hwr hwr2 ccd cbyd cfd cx
                go_roundw
                case rel => exact ⟨1 + 1, c', by omega, rfl, HLS.out, HBS, HF, HXS⟩
                case measure => simp [intOf]
                -- T1}
              ·
                -- {T2
                obtain ⟨c3, c2, c', cc, cf, cx, cb, cl, ce⟩ := burst_round wr gb pre c bd q 2 mask (by omega) HB.out HL.out
                have cby := HBY.out 2 (by omega) wr HXK.out
                rw [HPL.out, ← HQ.out] at cc cf cb
                have hxs0 : Reg.Ext wk (wr.setCell ⟨gb, p0 + 2, none⟩ (.int .u8 (c2 : Int))) := HXK.out.setCell (Nat.le_of_eq HGB.out) _
                have hxs : Reg.Ext wk (wr.setCell ⟨gb, p0 + 2, none⟩ (.int .u8 (c2 : Int))).drew := Below.drew hxs0
                clear hxs0
                have hbs : WB (wr.setCell ⟨gb, p0 + 2, none⟩ (.int .u8 (c2 : Int))).drew gb (pre ++ c') := cb.drew
                have HF := Lib.hid ce
                have HBS := Lib.hid hbs
                have HXS := Lib.hid hxs
                have HLS := Lib.hid (cl.trans hcl)
                have hlt : p0 + 2 < Lp + 6 + bd.length := by have := HQ.out; omega
                clear ce cb hxs cl HB HL HXK hbs
                generalize (mask / 2 ^ (8 * 2) % 256) = bk at *
                have ccd : wr.drew.cell? ⟨gb, p0 + 2, none⟩ = some (.int .u8 (c3 : Int)) := cc
                have cbyd : wr.drew.cell? ⟨g7, 2, none⟩ = some (.int .u8 (bk : Int)) := cby
                have cfd : wr.drew.frozen? ⟨gb, p0 + 2, none⟩ = false := cf
                have hwr : IntKind.i64.wrap ((p0 : Int) + 2) = (p0 : Int) + 2 := by rw [IntKind.wrap_i64]; omega
                have hwr2 : IntKind.i64.wrap ((p0 : Int) + 2) = ((p0 : Int) + 2) := by rw [IntKind.wrap_i64]; omega
                have hix : ∀ W, (Instr.indexAt 42 (.slice (some ⟨gb, 0, none⟩) (Lp + 6 + bd.length) cap) (.int .i64 ((p0 : Int) + 2))).run Tryd.prog W = .ok (.pointer (some ⟨gb, p0 + 2, none⟩)) W := fun W => by
                  refine Eq.trans (idx_at W gb (Lp + 6 + bd.length) cap (p0 + 2) hlt) ?_
                  rfl
                clear cc cby cf
                go_upto_region 35 with (fail)
                go_still_tail 15, (by kernel_rfl)
                change wpList _ _ _ _ _ wr.drew
                iterate 2 go_step
                go_wp2_with fail
                clear hix hwr hwr2 ccd cbyd cfd cx
                go_roundw
                case rel => exact ⟨2 + 1, c', by omega, rfl, HLS.out, HBS, HF, HXS⟩
                case measure => simp [intOf]
                -- T2}
              ·
                -- {T3
                obtain ⟨c3, c2, c', cc, cf, cx, cb, cl, ce⟩ := burst_round wr gb pre c bd q 3 mask (by omega) HB.out HL.out
                have cby := HBY.out 3 (by omega) wr HXK.out
                rw [HPL.out, ← HQ.out] at cc cf cb
                have hxs0 : Reg.Ext wk (wr.setCell ⟨gb, p0 + 3, none⟩ (.int .u8 (c2 : Int))) := HXK.out.setCell (Nat.le_of_eq HGB.out) _
                have hxs : Reg.Ext wk (wr.setCell ⟨gb, p0 + 3, none⟩ (.int .u8 (c2 : Int))).drew := Below.drew hxs0
                clear hxs0
                have hbs : WB (wr.setCell ⟨gb, p0 + 3, none⟩ (.int .u8 (c2 : Int))).drew gb (pre ++ c') := cb.drew
                have HF := Lib.hid ce
                have HBS := Lib.hid hbs
                have HXS := Lib.hid hxs
                have HLS := Lib.hid (cl.trans hcl)
                have hlt : p0 + 3 < Lp + 6 + bd.length := by have := HQ.out; omega
                clear ce cb hxs cl HB HL HXK hbs
                generalize (mask / 2 ^ (8 * 3) % 256) = bk at *
                have ccd : wr.drew.cell? ⟨gb, p0 + 3, none⟩ = some (.int .u8 (c3 : Int)) := cc
                have cbyd : wr.drew.cell? ⟨g7, 3, none⟩ = some (.int .u8 (bk : Int)) := cby
                have cfd : wr.drew.frozen? ⟨gb, p0 + 3, none⟩ = false := cf
                have hwr : IntKind.i64.wrap ((p0 : Int) + 3) = (p0 : Int) + 3 := by rw [IntKind.wrap_i64]; omega
                have hwr2 : IntKind.i64.wrap ((p0 : Int) + 3) = ((p0 : Int) + 3) := by rw [IntKind.wrap_i64]; omega
                have hix : ∀ W, (Instr.indexAt 42 (.slice (some ⟨gb, 0, none⟩) (Lp + 6 + bd.length) cap) (.int .i64 ((p0 : Int) + 3))).run Tryd.prog W = .ok (.pointer (some ⟨gb, p0 + 3, none⟩)) W := fun W => by
                  refine Eq.trans (idx_at W gb (Lp + 6 + bd.length) cap (p0 + 3) hlt) ?_
                  rfl
                clear cc cby cf
                go_upto_region 35 with (fail)
                go_still_tail 15, (by kernel_rfl)
                change wpList _ _ _ _ _ wr.drew
                iterate 2 go_step
                go_wp2_with fail
                clear hix hwr hwr2 ccd cbyd cfd cx
                go_roundw
                case rel => exact ⟨3 + 1, c', by omega, rfl, HLS.out, HBS, HF, HXS⟩
                case measure => simp [intOf]
                -- T3}
              ·
                -- {L
                have hl2 : le c = le bd ^^^ 2 ^ (8 * q) * mask := by
                  rw [HL.out, Nat.mod_eq_of_lt (show mask < 2 ^ (8 * 4) from HML.out)]
                have hal := HSRC.out c hcl (burst_more bd.length bd c q mask hcl (by omega) HML.out HM0.out hl2)
                obtain ⟨C, hC⟩ : ∃ C : ByteArray, C = ⟨(pre ++ c).toArray⟩ := ⟨_, rfl⟩
                have hCl : C.data.toList = pre ++ c := by rw [hC]
                have hCs : C.size ≤ 1048576 := by rw [← len_data, hCl, List.length_append, HPL.out, hcl]; omega
                have hcs := conv_bytes (P := Tryd.prog) wr 42 9 5 Tryd.underlying42 Tryd.underlying5 Tryd.underlying9 gb 0 (Lp + 6 + bd.length) cap (pre ++ c) (by rw [List.length_append, HPL.out, hcl]) (fun j hj => by rw [Nat.zero_add]; exact HB.out.cell j hj)
                rw [← hC] at hcs
                have CA := Lib.hid (all_any C wr hCs (Crc.Tab.below HTR.out (HX.out.trans HXK.out)))
                rw [hCl, hal] at CA
                simp only at CA
                have HXE := Lib.hid (HX.out.trans HXK.out)
                have HCME : Hid (∀ w', Reg.Ext wk w' → w'.cell? ⟨ge, m1, none⟩ = some (.int .i64 (Lp : Int))) := fun w' hx => hx.at_ HCM.out
                clear hl2 hal hC hCl hCs HB HL
                go_wp2_with fail
                refine (CA.out).mono ?_
                rintro e wj ⟨vl2, rfl, hrow, xj⟩
                have HX3 := Lib.hid (HXE.out.trans xj)
                have HXK3 := Lib.hid (HXK.out.trans xj)
                have CS := Lib.hid (same_any vl2 (.slice (some ⟨gw, 0, none⟩) m1 cw) (zs.take m1) (zs.take m1) wj hrow.rd (HWS.out m1 (by omega) wj HX3.out))
                rw [(sameL_iff _ _).2 rfl] at CS
                clear hrow xj CA hcs HXE HXK
                go_wp2_with fail
                refine (CS.out).mono ?_
                rintro e wz ⟨rfl, xz⟩
                have HX4 := Lib.hid (HX3.out.trans xz)
                have hcm := HCME.out wz (HXK3.out.trans xz)
                clear CS xz HX3 HXK3
                go_wp2_with fail
                go_ret
                exact ⟨rfl, HXR.out.trans HX4.out⟩
                -- L}
          -- F}
end Slp
end Go.Proofs.YtbeghdoffiidoaaDoor

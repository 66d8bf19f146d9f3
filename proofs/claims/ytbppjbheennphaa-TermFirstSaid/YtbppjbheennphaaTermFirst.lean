/- The walk of the law TermFirst. -/
import Derived.Test.YtbppjbheennphaaTermNear
import Derived.Test.YtbppjbheennphaaFBuf
import Derived.Deep.MidRow
set_option linter.unusedSimpArgs false
set_option linter.unusedVariables false
set_option linter.unusedSectionVars false
namespace Go.Proofs.Ytbppjbheennphaa
open Go.RowKit
namespace FloatP
theorem found_cons (n x : Nat) (l : List Nat) : foundIn n (x :: l) = (foundIn n l || (good x && eqF x n)) := by
  unfold foundIn
  rw [List.any_cons]
  cases cls n == 7 <;> cases good x && eqF x n <;> simp
end FloatP
namespace Trm
open FloatP Flt
attribute [local go_sem] call_bits call_from unary_neg_float
set_option maxHeartbeats 4000000 in
theorem first_law (A : Option Addr) (n c : Nat) (l : List Nat) (w : World) (hn : l.length = n) (hr : Rd w A (l.map fV)) (hl : ∀ b ∈ l, b < 18446744073709551616) :
    Calls Try.prog 8 #[.slice A n c] w fun e w' => e = .returned (.bool true) ∧ Reg.Ext w w' := by
  have HN := Lib.hid hn
  have HR := Lib.hid hr
  have HL := Lib.hid hl
  clear hn hr hl
  go_enter Try.func8, Try.ntmps8
  go_wp2_with fail
  refine (awake_any w).mono ?_
  rintro e w1 ⟨rfl, x1⟩
  have HR1 := Lib.hid (Rd.below HR.out x1)
  have X1 := Lib.hid x1
  clear x1
  by_cases hm : n ≤ 60
  · have d1 : decide ((60 : Int) < (n : Int)) = false := by rw [decide_eq_false_iff_not]; omega
    obtain ⟨N, hN⟩ : ∃ N, nearest l = N := ⟨_, rfl⟩
    have CN := Lib.hid (nearest_any A n c l w1 HN.out hm HR1.out HL.out)
    rw [hN] at CN
    have hNi : N ≤ INF := by rw [← hN]; exact nearest_le l HL.out
    have HNL := Lib.hid (show N < 18446744073709551616 by unfold INF at hNi; omega)
    have HNI := Lib.hid hNi
    have HNE := Lib.hid hN
    clear hNi hN
    go_wp2_with fail
    refine CN.out.mono ?_
    rintro e w2 ⟨rfl, rfl⟩
    clear CN
    go_wp2_with fail
    have hb0 := FBuf.empty w1 w1 (Reg.Ext.refl w1)
    have HB0 := Lib.hid hb0
    clear hb0
    generalize w1.alloc (Obj.cells #[] 22) = w2 at *
    generalize Value.slice (some { block := w1.heap.size, off := 0 }) 0 0 = v0 at *
    refine (class_any N w2 HNL.out).mono ?_
    rintro e w3 ⟨rfl, rfl⟩
    obtain ⟨q, hq⟩ : ∃ q, ((cls N : Int) == 7) = q := ⟨_, rfl⟩
    have HQ0 : Hid (foundIn N [] = q) := by
      show _ = _
      rw [← hq]; unfold foundIn
      rw [List.any_nil, Bool.or_false, Bool.eq_iff_iff, beq_iff_eq, beq_iff_eq]; omega
    go_wp2_with fail
    go_loopw [4, 5, 6] (fun v f i wr => ∃ (j : Nat) (x : Int) (v' : Value), j ≤ n ∧ Hid (x = (j : Int) - 1) ∧ Hid (FBuf w1 wr v' (l.drop j).reverse) ∧ v = v' ∧ f = .bool (foundIn N (l.drop j)) ∧ i = .int .i64 x) (fun _ _ i _ => (intOf i + 1).toNat)
    case atStart =>
      have hd0 : l.drop n = [] := List.drop_of_length_le (by rw [HN.out]; omega)
      refine ⟨n, _, v0, Nat.le_refl _, rfl, ?_, rfl, ?_, rfl⟩
      · rw [hd0]; exact HB0.out
      · rw [hd0, HQ0.out]
    case round =>
      obtain ⟨j, x, v', hj, HJ, HB, rfl, rfl, rfl⟩ := hrel
      cases j with
      | zero =>
        have hx : x = -1 := by rw [HJ.out]; rfl
        subst hx
        have hfi : foundIn N (l.drop 0) = true := by
          rw [List.drop_zero, ← HNE.out]; exact nearest_found HL.out
        rw [hfi]
        have hb1 := HB.out
        rw [List.drop_zero] at hb1
        obtain ⟨A2, c2, hv2, hr2⟩ := hb1.rd
        rw [List.length_reverse, HN.out] at hv2
        have hl2 : ∀ b ∈ l.reverse, b < 18446744073709551616 := fun b hb => HL.out b (by simpa using hb)
        have CN := Lib.hid (nearest_any A2 n c2 l.reverse wr (by rw [List.length_reverse]; exact HN.out) hm hr2 hl2)
        rw [nearest_reverse l HL.out, HNE.out] at CN
        have CZ := Lib.hid (nearest_any none 0 0 [] wr rfl (by omega) (Rd.nil_ _ _) (by intro b hb; cases hb))
        have HX := Lib.hid (X1.out.trans hb1.ext)
        have HGN := Lib.hid (show good N = true by rw [← HNE.out]; exact nearest_good HL.out)
        clear hfi hb1 hr2 hl2 HB HJ
        rw [hv2]
        clear hv2
        go_wp2_with fail
        refine CN.out.mono ?_
        rintro e w3 ⟨rfl, rfl⟩
        clear CN
        go_wp2_with fail
        refine (same_any N N wr HNL.out HNL.out).mono ?_
        rintro e w3 ⟨rfl, rfl⟩
        rw [pos_same N HNI.out]
        go_wp2_with fail
        refine (good_any N wr HNL.out).mono ?_
        rintro e w3 ⟨rfl, rfl⟩
        rw [HGN.out]
        go_wp2_with fail
        refine CZ.out.mono ?_
        rintro e w3 ⟨rfl, rfl⟩
        clear CZ
        go_wp2_with fail
        refine (class_any (nearest []) wr (by decide)).mono ?_
        rintro e w3 ⟨rfl, rfl⟩
        rw [show cls (nearest []) = 7 by decide]
        go_wp2_with fail
        go_ret
        exact ⟨by first | rfl | simp, HX.out⟩
      | succ j =>
        have hx : x = (j : Int) := by rw [HJ.out]; omega
        subst hx
        have hjl : j < l.length := by rw [HN.out]; omega
        obtain ⟨ad, rfl, hb, hc⟩ := HR1.out j (by simpa using hjl)
        have HCL := Lib.hid (fun (w' : World) (hx : Reg.Ext w1 w') => show w'.cell? (ad.add j) = some (.float .f64 l[j]) by
          have hlt : (ad.add j).block < w1.heap.size := by unfold Addr.add; split <;> simpa using hb
          rw [hx.cell hlt]; simpa [fV] using hc)
        have hc' := HCL.out wr (FBuf.ext HB.out)
        have hlk := HL.out l[j] (List.getElem_mem hjl)
        have hdr : l.drop j = l[j] :: l.drop (j + 1) := List.drop_eq_getElem_cons hjl
        have HD := Lib.hid (show (l.drop (j + 1)).reverse ++ [l[j]] = (l.drop j).reverse by rw [hdr, List.reverse_cons])
        have hfc : foundIn N (l.drop j) = (foundIn N (l.drop (j + 1)) || (good l[j] && eqF l[j] N)) := by rw [hdr, found_cons]
        have HF := Lib.hid hfc
        have hnlt : good l[j] = true → lt l[j] N = false := fun hg => by rw [← HNE.out]; exact nearest_not_lt HL.out (List.getElem_mem hjl) hg
        have HNT := Lib.hid hnlt
        have hll : (l.drop (j + 1)).reverse.length + 1 ≤ 1099511627776 := by rw [List.length_reverse, List.length_drop, HN.out]; omega
        have HLL := Lib.hid hll
        generalize l[j] = b at *
        generalize foundIn N (l.drop (j + 1)) = fd at *
        clear hc hb hdr hfc hnlt hll
        go_upto_region 11 with (fail)
        refine wp_region_lit ?_
        iterate 18 go_step
        refine FBuf.push1 rfl _ _ rfl u4 _ rfl w1 wr b HB.out rfl HLL.out ?_
        intro v3 w3 hb3
        rw [HD.out] at hb3
        clear hc' HB HD
        have HB := Lib.hid hb3
        have hc' := HCL.out w3 (FBuf.ext hb3)
        clear hb3
        simp only [Act.put, Act.eval, List.setIfInBounds_toArray, List.set_cons_zero, List.set_cons_succ, Nat.reduceAdd, Array.getD_eq_getD_getElem?, List.getElem?_toArray, List.getElem?_cons_succ, List.getElem?_cons_zero, Option.getD_some]
        go_wp2_with fail
        refine (good_any b w3 hlk).mono ?_
        rintro e w4 ⟨rfl, rfl⟩
        cases hg : good b with
        | false =>
          have HF2 := Lib.hid (show fd = foundIn N (l.drop j) by rw [HF.out, hg]; simp)
          clear hg
          go_wp2_with fail
          go_roundw
          case rel => exact ⟨j, (j : Int) - 1, v3, by omega, rfl, HB, rfl, by rw [← HF2.out], by go_num⟩
          case measure => simp [intOf]
        | true =>
          have ht : (FloatKind.f64.format.order b N == some .lt) = false := HNT.out hg
          cases fd with
          | true =>
            have HF2 := Lib.hid (show true = foundIn N (l.drop j) by rw [HF.out]; simp)
            clear hg
            go_wp2_with fail
            go_roundw
            case rel => exact ⟨j, (j : Int) - 1, v3, by omega, rfl, HB, rfl, by rw [← HF2.out], by go_num⟩
            case measure => simp [intOf]
          | false =>
            have HF2 := Lib.hid (show (FloatKind.f64.format.order b N == some .eq) = foundIn N (l.drop j) by rw [HF.out, hg, Bool.false_or, Bool.true_and]; rfl)
            clear hg
            go_wp2_with fail
            go_roundw
            case rel => exact ⟨j, (j : Int) - 1, v3, by omega, rfl, HB, rfl, by rw [← HF2.out], by go_num⟩
            case measure => simp [intOf]
  · have d1 : decide ((60 : Int) < (n : Int)) = true := by rw [decide_eq_true_iff]; omega
    go_wp2_with fail
    go_ret
    exact ⟨rfl, X1.out⟩
end Trm
end Go.Proofs.Ytbppjbheennphaa

/- The reference's functions of chapter 4: hex, Print, File, Less, Of. -/
import Derived.Test.YtnaijnhpgalmjaaDoorStampLess
import Derived.Test.YtnaijnhpgalmjaaDoorHexRef2
set_option linter.unusedSimpArgs false
set_option linter.unusedVariables false
set_option linter.unusedSectionVars false
namespace Go.Proofs.YtnaijnhpgalmjaaDoor
open Go.RowKit
namespace Stp
set_option maxHeartbeats 2000000 in
theorem hexD_any (l : List UInt8) (hl : l.length = 32) (w : World) :
    Calls Tryd.prog 22 #[.agg (l.map byteV).toArray] w fun e w' => e = .returned (.string ⟨(HexP.hex l).toArray⟩) ∧ Reg.Ext w w' := by
  have hcv := box_str (box_blk w l) hl
  have HX := Lib.hid (Reg.Ext.alloc w (Obj.cells (l.map byteV).toArray 23))
  go_enter Tryd.func22, Tryd.ntmps22
  go_wp2_with fail
  clear hcv
  refine (Hex.hexR_any ⟨l.toArray⟩ _ (by rw [siz]; omega)).mono ?_
  rintro e w2 ⟨rfl, x2⟩
  rw [lst]
  have HX2 := Lib.hid (HX.out.trans x2)
  clear HX x2
  go_wp2_with fail
  go_ret
  exact ⟨rfl, HX2.out⟩
set_option maxHeartbeats 2000000 in
theorem printR_any (l : List UInt8) (hl : l.length = 32) (w : World) :
    Calls Tryd.prog 12 #[.agg (l.map byteV).toArray] w fun e w' => e = .returned (.string ⟨(pA ++ HexP.hex l).toArray⟩) ∧ Reg.Ext w w' := by
  have hb := box_blk w l
  have HX := Lib.hid (Reg.Ext.alloc w (Obj.cells (l.map byteV).toArray 23))
  go_enter Tryd.func12, Tryd.ntmps12
  go_upto_region 1 with (fail)
  generalize w.alloc (Obj.cells (l.map byteV).toArray 23) = w1 at *
  refine wp_region_lit ?_
  refine wpList_load_row rfl 23 _ rfl w.heap.size rfl 23 (l.map byteV).toArray (0, 0) _ hb Tryd.underlying23 rfl (by rw [List.size_toArray, List.length_map, hl]; kernel_rfl) ?_
  simp only [Act.put, Act.eval, List.setIfInBounds_toArray, List.set_cons_zero, List.set_cons_succ, Nat.reduceAdd, Array.getD_eq_getD_getElem?, List.getElem?_toArray, List.getElem?_cons_succ, List.getElem?_cons_zero, Option.getD_some]
  clear hb
  go_wp2_with fail
  refine (hexD_any l hl _).mono ?_
  rintro e w2 ⟨rfl, x2⟩
  have HX2 := Lib.hid (HX.out.trans x2)
  clear HX x2
  have hsz : (⟨(HexP.hex l).toArray⟩ : ByteArray).size ≤ 64 := by rw [siz, HexP.hex_length]; omega
  obtain ⟨D, hD⟩ : ∃ D : ByteArray, D = ⟨(HexP.hex l).toArray⟩ := ⟨_, rfl⟩
  rw [← hD] at hsz ⊢
  have HV := Lib.hid (show (⟨(pA ++ HexP.hex l).toArray⟩ : ByteArray) = ⟨pA.toArray⟩ ++ D by rw [hD]; exact ba_ext (by simp))
  clear hD
  go_wp2_with fail
  go_ret
  exact ⟨by rw [HV.out]; rfl, HX2.out⟩
set_option maxHeartbeats 2000000 in
theorem fileR_any (l : List UInt8) (hl : l.length = 32) (w : World) :
    Calls Tryd.prog 14 #[.agg (l.map byteV).toArray] w fun e w' => e = .returned (.string ⟨(pK ++ HexP.hex l).toArray⟩) ∧ Reg.Ext w w' := by
  have hb := box_blk w l
  have HX := Lib.hid (Reg.Ext.alloc w (Obj.cells (l.map byteV).toArray 23))
  go_enter Tryd.func14, Tryd.ntmps14
  go_upto_region 1 with (fail)
  generalize w.alloc (Obj.cells (l.map byteV).toArray 23) = w1 at *
  refine wp_region_lit ?_
  refine wpList_load_row rfl 23 _ rfl w.heap.size rfl 23 (l.map byteV).toArray (0, 0) _ hb Tryd.underlying23 rfl (by rw [List.size_toArray, List.length_map, hl]; kernel_rfl) ?_
  simp only [Act.put, Act.eval, List.setIfInBounds_toArray, List.set_cons_zero, List.set_cons_succ, Nat.reduceAdd, Array.getD_eq_getD_getElem?, List.getElem?_toArray, List.getElem?_cons_succ, List.getElem?_cons_zero, Option.getD_some]
  clear hb
  go_wp2_with fail
  refine (hexD_any l hl _).mono ?_
  rintro e w2 ⟨rfl, x2⟩
  have HX2 := Lib.hid (HX.out.trans x2)
  clear HX x2
  have hsz : (⟨(HexP.hex l).toArray⟩ : ByteArray).size ≤ 64 := by rw [siz, HexP.hex_length]; omega
  obtain ⟨D, hD⟩ : ∃ D : ByteArray, D = ⟨(HexP.hex l).toArray⟩ := ⟨_, rfl⟩
  rw [← hD] at hsz ⊢
  have HV := Lib.hid (show (⟨(pK ++ HexP.hex l).toArray⟩ : ByteArray) = ⟨pK.toArray⟩ ++ D by rw [hD]; exact ba_ext (by simp))
  clear hD
  go_wp2_with fail
  go_ret
  exact ⟨by rw [HV.out]; rfl, HX2.out⟩
theorem cmp_drop : ∀ (k : Nat) (l m : List UInt8), (∀ j, j < k → l[j]? = m[j]?) → Lib.compareBytes l m = Lib.compareBytes (l.drop k) (m.drop k)
  | 0, _, _, _ => by rw [List.drop_zero, List.drop_zero]
  | k + 1, [], [], _ => by simp
  | k + 1, [], b :: m, h => by have := h 0 (by omega); simp at this
  | k + 1, a :: l, [], h => by have := h 0 (by omega); simp at this
  | k + 1, a :: l, b :: m, h => by
    have h0 := h 0 (by omega)
    simp only [List.getElem?_cons_zero, Option.some.injEq] at h0
    subst h0
    rw [List.drop_succ_cons, List.drop_succ_cons, ← cmp_drop k l m (fun j hj => by have := h (j + 1) (by omega); simpa using this)]
    simp only [Lib.compareBytes]
    rw [if_neg (UInt8.lt_irrefl a), if_neg (UInt8.lt_irrefl a)]
theorem less_at (k : Nat) (l m : List UInt8) (h : ∀ j, j < k → l[j]? = m[j]?) (hk : k < l.length) (hm : k < m.length) (hne : l[k] ≠ m[k]) : lessL l m = decide (l[k].toNat < m[k].toNat) := by
  have e : Lib.compareBytes l m = if l[k] < m[k] then -1 else if m[k] < l[k] then 1 else Lib.compareBytes (l.drop (k + 1)) (m.drop (k + 1)) := by
    rw [cmp_drop k l m h, List.drop_eq_getElem_cons hk, List.drop_eq_getElem_cons hm, Lib.compareBytes]
  rw [Bool.eq_iff_iff]
  unfold lessL
  rw [decide_eq_true_iff, decide_eq_true_iff, e]
  by_cases h1 : l[k] < m[k]
  · rw [if_pos h1]
    have : l[k].toNat < m[k].toNat := UInt8.lt_iff_toNat_lt.1 h1
    simp [this]
  · rw [if_neg h1]
    have h2 : m[k] < l[k] := by
      rw [UInt8.lt_iff_toNat_lt] at h1 ⊢
      have : l[k].toNat ≠ m[k].toNat := fun e => hne (UInt8.toNat_inj.1 e)
      omega
    rw [if_pos h2]
    have : ¬ l[k].toNat < m[k].toNat := fun e => h1 (UInt8.lt_iff_toNat_lt.2 e)
    simp [this]
theorem less_end (l m : List UInt8) (hl : l.length = 32) (hm : m.length = 32) (h : ∀ j, j < 32 → l[j]? = m[j]?) : lessL l m = false := by
  have e : l = m := by
    apply List.ext_getElem?
    intro j
    by_cases hj : j < 32
    · exact h j hj
    · rw [List.getElem?_eq_none (by omega), List.getElem?_eq_none (by omega)]
  rw [e, less_self]
set_option maxHeartbeats 2000000 in
theorem lessR_any (l m : List UInt8) (hl : l.length = 32) (hm : m.length = 32) (w : World) :
    Calls Tryd.prog 15 #[.agg (l.map byteV).toArray, .agg (m.map byteV).toArray] w fun e w' => e = .returned (.bool (lessL l m)) ∧ Reg.Ext w w' := by
  have hb1 := box_blk w l
  have hx1 := Reg.Ext.alloc w (Obj.cells (l.map byteV).toArray 23)
  have hs1 : (w.alloc (Obj.cells (l.map byteV).toArray 23)).heap.size = w.heap.size + 1 := Array.size_push _
  go_enter Tryd.func15, Tryd.ntmps15
  go_wp2_with fail
  generalize w.alloc (Obj.cells (l.map byteV).toArray 23) = w1 at *
  have hb2 := box_blk w1 m
  have hx2 := Reg.Ext.alloc w1 (Obj.cells (m.map byteV).toArray 23)
  generalize w1.alloc (Obj.cells (m.map byteV).toArray 23) = w2 at *
  rw [hs1] at hb2
  have H1 := Lib.hid (hb1.ext hx2)
  have H2 := Lib.hid hb2
  have X := Lib.hid (hx1.trans hx2)
  clear hb1 hx1 hb2 hx2 hs1
  generalize w.heap.size = g1 at *
  generalize g1 + 1 = g2 at *
  go_loopw [5] (fun i wr => ∃ k : Nat, k ≤ 32 ∧ i = .int .i64 k ∧ Hid (∀ j, j < k → l[j]? = m[j]?) ∧ Hid (Reg.Ext w2 wr)) (fun i _ => 32 - (intOf i).toNat)
  case atStart => exact ⟨0, by omega, rfl, fun j hj => by omega, Reg.Ext.refl _⟩
  case round =>
    obtain ⟨k, hk, rfl, HE, HX⟩ := hrel
    by_cases hk32 : k < 32
    · have d1 : decide ((k : Int) < 32) = true := by rw [decide_eq_true_iff]; omega
      have C : Hid (∀ w1, Reg.Ext wr w1 → w1.cell? ⟨g1, k, none⟩ = some (.int .u8 ((l[k]'(by omega)).toNat : Int)) ∧ w1.cell? ⟨g2, k, none⟩ = some (.int .u8 ((m[k]'(by omega)).toNat : Int))) := fun w1 hx => by
        refine ⟨?_, ?_⟩
        · rw [((H1.out.ext HX.out).ext hx).cell, List.getElem?_map, List.getElem?_eq_getElem (by omega)]; rfl
        · rw [((H2.out.ext HX.out).ext hx).cell, List.getElem?_map, List.getElem?_eq_getElem (by omega)]; rfl
      have HLE := Lib.hid (less_at k l m HE.out (by omega) (by omega))
      have HEQ : Hid (l[k]'(by omega) = m[k]'(by omega) → ∀ j, j < k + 1 → l[j]? = m[j]?) := fun e j hj => by
        by_cases hjk : j < k
        · exact HE.out j hjk
        · have : j = k := by omega
          subst this
          rw [List.getElem?_eq_getElem (by omega), List.getElem?_eq_getElem (by omega), e]
      generalize l[k]'(by omega) = x at *
      generalize m[k]'(by omega) = y at *
      by_cases hxy : x = y
      · have HE2 := Lib.hid (HEQ.out hxy)
        subst hxy
        go_wp2_with fail
        apply Reg.wp_tab Reg.Ext (by kernel_rfl) (by kernel_rfl) Reg.Ext.refl (fun _ _ _ => Reg.Ext.trans) (Reg.Ext.drew _)
        case h =>
          intro O
          repeat (first
            | (apply Reg.TW.move_ Reg.Ext.refl _ rfl rfl
               · simp only [Act.put, Act.eval, List.setIfInBounds_toArray, List.set_cons_zero, List.set_cons_succ, Nat.reduceAdd, Array.getD_eq_getD_getElem?, List.getElem?_toArray, List.getElem?_cons_succ, List.getElem?_cons_zero, Option.getD_some]
                 rfl)
            | (apply Reg.TW.assign_ Reg.Ext.refl _ rfl rfl
               · simp only [Act.put, Act.eval, List.setIfInBounds_toArray, List.set_cons_zero, List.set_cons_succ, Nat.reduceAdd, Array.getD_eq_getD_getElem?, List.getElem?_toArray, List.getElem?_cons_succ, List.getElem?_cons_zero, Option.getD_some]
                 rfl)
            | (apply Reg.TW.skip_ rfl
               · simp only [Act.put, Act.eval, List.setIfInBounds_toArray, List.set_cons_zero, List.set_cons_succ, Nat.reduceAdd, Array.getD_eq_getD_getElem?, List.getElem?_toArray, List.getElem?_cons_succ, List.getElem?_cons_zero, Option.getD_some]
                 rfl)
            | (apply Reg.TW.pure_ rfl
               · intro w1 hw1 hf K hK
                 simp only [Act.put, List.setIfInBounds_toArray, List.set_cons_zero, List.set_cons_succ] at hK
                 have HK := Lib.hid hK
                 clear hf hK
                 obtain ⟨q1, q2⟩ := C.out w1 hw1
                 unfold Reg.One; dsimp only
                 go_wp2_with fail
                 exact HK.out _ (Reg.Ext.refl _)
               · simp only [Act.put, Act.eval, List.setIfInBounds_toArray, List.set_cons_zero, List.set_cons_succ, Nat.reduceAdd, Array.getD_eq_getD_getElem?, List.getElem?_toArray, List.getElem?_cons_succ, List.getElem?_cons_zero, Option.getD_some]
                 rfl))
          refine Reg.TW.nil_ ?_
          intro wa hwa _
          have HXA := Lib.hid (HX.out.trans hwa)
          clear hwa HX
          go_wp2_with fail
          exact ⟨⟨k + 1, by omega, by go_num, HE2, HXA⟩, by simp [intOf]; omega⟩
        case hlen => rfl
      · have hv := HLE.out hxy
        have hn : ((x.toNat : Int) != (y.toNat : Int)) = true := by
          rw [bne_iff_ne]
          intro e
          exact hxy (UInt8.toNat_inj.1 (by omega))
        have HV := Lib.hid hv
        clear hv HLE HEQ
        go_wp2_with fail
        apply Reg.wp_tab Reg.Ext (by kernel_rfl) (by kernel_rfl) Reg.Ext.refl (fun _ _ _ => Reg.Ext.trans) (Reg.Ext.drew _)
        case h =>
          intro O
          repeat (first
            | (apply Reg.TW.move_ Reg.Ext.refl _ rfl rfl
               · simp only [Act.put, Act.eval, List.setIfInBounds_toArray, List.set_cons_zero, List.set_cons_succ, Nat.reduceAdd, Array.getD_eq_getD_getElem?, List.getElem?_toArray, List.getElem?_cons_succ, List.getElem?_cons_zero, Option.getD_some]
                 rfl)
            | (apply Reg.TW.assign_ Reg.Ext.refl _ rfl rfl
               · simp only [Act.put, Act.eval, List.setIfInBounds_toArray, List.set_cons_zero, List.set_cons_succ, Nat.reduceAdd, Array.getD_eq_getD_getElem?, List.getElem?_toArray, List.getElem?_cons_succ, List.getElem?_cons_zero, Option.getD_some]
                 rfl)
            | (apply Reg.TW.skip_ rfl
               · simp only [Act.put, Act.eval, List.setIfInBounds_toArray, List.set_cons_zero, List.set_cons_succ, Nat.reduceAdd, Array.getD_eq_getD_getElem?, List.getElem?_toArray, List.getElem?_cons_succ, List.getElem?_cons_zero, Option.getD_some]
                 rfl)
            | (apply Reg.TW.pure_ rfl
               · intro w1 hw1 hf K hK
                 simp only [Act.put, List.setIfInBounds_toArray, List.set_cons_zero, List.set_cons_succ] at hK
                 have HK := Lib.hid hK
                 clear hf hK
                 obtain ⟨q1, q2⟩ := C.out w1 hw1
                 unfold Reg.One; dsimp only
                 go_wp2_with fail
                 exact HK.out _ (Reg.Ext.refl _)
               · simp only [Act.put, Act.eval, List.setIfInBounds_toArray, List.set_cons_zero, List.set_cons_succ, Nat.reduceAdd, Array.getD_eq_getD_getElem?, List.getElem?_toArray, List.getElem?_cons_succ, List.getElem?_cons_zero, Option.getD_some]
                 rfl))
          refine Reg.TW.nil_ ?_
          intro wa hwa _
          have HXA := Lib.hid (HX.out.trans hwa)
          have CA := Lib.hid fun w1 h => C.out w1 (Reg.Ext.trans hwa h)
          clear hwa HX
          go_wp2_with fail
          apply Reg.wp_tab Reg.Ext (by kernel_rfl) (by kernel_rfl) Reg.Ext.refl (fun _ _ _ => Reg.Ext.trans) (Reg.Ext.drew _)
          case h =>
            intro O
            repeat (first
              | (apply Reg.TW.move_ Reg.Ext.refl _ rfl rfl
                 · simp only [Act.put, Act.eval, List.setIfInBounds_toArray, List.set_cons_zero, List.set_cons_succ, Nat.reduceAdd, Array.getD_eq_getD_getElem?, List.getElem?_toArray, List.getElem?_cons_succ, List.getElem?_cons_zero, Option.getD_some]
                   rfl)
              | (apply Reg.TW.assign_ Reg.Ext.refl _ rfl rfl
                 · simp only [Act.put, Act.eval, List.setIfInBounds_toArray, List.set_cons_zero, List.set_cons_succ, Nat.reduceAdd, Array.getD_eq_getD_getElem?, List.getElem?_toArray, List.getElem?_cons_succ, List.getElem?_cons_zero, Option.getD_some]
                   rfl)
              | (apply Reg.TW.skip_ rfl
                 · simp only [Act.put, Act.eval, List.setIfInBounds_toArray, List.set_cons_zero, List.set_cons_succ, Nat.reduceAdd, Array.getD_eq_getD_getElem?, List.getElem?_toArray, List.getElem?_cons_succ, List.getElem?_cons_zero, Option.getD_some]
                   rfl)
              | (apply Reg.TW.pure_ rfl
                 · intro w1 hw1 hf K hK
                   simp only [Act.put, List.setIfInBounds_toArray, List.set_cons_zero, List.set_cons_succ] at hK
                   have HK := Lib.hid hK
                   clear hf hK
                   obtain ⟨q1, q2⟩ := CA.out w1 hw1
                   unfold Reg.One; dsimp only
                   go_wp2_with fail
                   exact HK.out _ (Reg.Ext.refl _)
                 · simp only [Act.put, Act.eval, List.setIfInBounds_toArray, List.set_cons_zero, List.set_cons_succ, Nat.reduceAdd, Array.getD_eq_getD_getElem?, List.getElem?_toArray, List.getElem?_cons_succ, List.getElem?_cons_zero, Option.getD_some]
                   rfl))
            refine Reg.TW.nil_ ?_
            intro wb hwb _
            have HXB := Lib.hid (X.out.trans (HXA.out.trans hwb))
            go_wp2_with fail
            go_ret
            exact ⟨by rw [HV.out]; simp, HXB.out⟩
          case hlen => rfl
        case hlen => rfl
    · have hk' : k = 32 := by omega
      subst hk'
      have HV := Lib.hid (less_end l m hl hm HE.out)
      go_wp2_with fail
      go_ret
      exact ⟨by rw [HV.out]; rfl, X.out.trans HX.out⟩
end Stp
end Go.Proofs.YtnaijnhpgalmjaaDoor

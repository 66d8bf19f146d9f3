/- The statements of layer 3 (crc): the walks of awake and of the four laws, each from the contracts of the functions that it calls. -/
import Derived.Test.YtphjephneaaohaaDoorCrcWalks
set_option linter.unusedSimpArgs false
set_option linter.unusedVariables false
set_option linter.unusedSectionVars false
namespace Go.Proofs.YtphjephneaaohaaDoor
open Go.RowKit
namespace Crc
open CrcP

theorem of_one (b n : Nat) (s : ByteArray) (w : World) (v : Nat) (hv : ofS [s] = v) (hr : Rd w (some ⟨b, 0, none⟩) [strV s]) (hs : s.size ≤ maxLen) (hT : Tab w) :
    Calls Tryd.prog 12 #[.slice (some ⟨b, 0, none⟩) 1 1] w fun e w' => e = .returned (.int .u32 (v : Int)) ∧ w = w' := by
  have := of_any (some ⟨b, 0, none⟩) 1 1 [s] w rfl (by decide) hr (fun s' hs' => by rw [List.mem_singleton.1 hs']; exact hs) hT
  rw [hv] at this
  exact this
theorem of_none (w : World) (hT : Tab w) : Calls Tryd.prog 12 #[.slice none 0 0] w fun e w' => e = .returned (.int .u32 0) ∧ w = w' :=
  of_any none 0 0 [] w rfl (by decide) (Rd.nil_ _ _) (by simp) hT
theorem tail_num (n : Nat) (s : ByteArray) (w : World) (hn : n < 4294967296) (hs : tail n = s.data.toList) :
    Calls Tryd.prog 13 #[.int .u32 (n : Int)] w fun e w' => e = .returned (.string s) ∧ Reg.Ext w w' := by
  have := tail_any n w hn
  rw [hs, ba_data] at this
  exact this
theorem ends_of (s : ByteArray) (b : Bool) (w : World) (hs : s.size ≤ maxLen) (hT : Tab w) (hb : ends s.data.toList = b) :
    Calls Tryd.prog 10 #[.string s] w fun e w' => e = .returned (.bool b) ∧ Reg.Ext w w' := by
  have := ends_any s w hs hT
  rw [hb] at this
  exact this

theorem more_of (x : Nat) (s : ByteArray) (w : World) (v : Nat) (hx : x < 4294967296) (hs : s.size ≤ maxLen) (hT : Tab w) (hv : more x s.data.toList = v) :
    Calls Tryd.prog 9 #[.int .u32 (x : Int), .string s] w fun e w' => e = .returned (.int .u32 (v : Int)) ∧ w = w' := by
  have := more_any x s w hx hs hT
  rw [hv] at this
  exact this
theorem of_two (b : Nat) (s t : ByteArray) (w : World) (v : Nat) (hv : ofS [s, t] = v) (hr : Rd w (some ⟨b, 0, none⟩) (List.map strV [s, t])) (hs : s.size ≤ maxLen) (ht : t.size ≤ maxLen) (hT : Tab w) :
    Calls Tryd.prog 12 #[.slice (some ⟨b, 0, none⟩) 2 2] w fun e w' => e = .returned (.int .u32 (v : Int)) ∧ w = w' := by
  have := of_any (some ⟨b, 0, none⟩) 2 2 [s, t] w rfl (by decide) hr (by intro s' hs'; simp at hs'; rcases hs' with rfl | rfl <;> assumption) hT
  rw [hv] at this
  exact this
def s9 : ByteArray := ⟨#[49, 50, 51, 52, 53, 54, 55, 56, 57]⟩
set_option maxHeartbeats 400000 in
theorem awake_any (w : World) (hT : Tab w) : Calls Tryd.prog 7 #[] w fun e w' => e = .returned (.bool true) ∧ Reg.Ext w w' := by
  have HT := Lib.hid hT
  clear hT
  have h9 : ofS [⟨#[49, 50, 51, 52, 53, 54, 55, 56, 57]⟩] = 3421780262 := by decide +kernel
  have H9 := Lib.hid h9
  clear h9
  go_enter Tryd.func7, Tryd.ntmps7
  go_wp2_with fail
  have x1 : Reg.Ext w (w.alloc (Obj.cells #[Value.string ⟨#[49, 50, 51, 52, 53, 54, 55, 56, 57]⟩] 9)) := Reg.Ext.alloc _ _
  have r1 := Rd.new w 9 #[strV ⟨#[49, 50, 51, 52, 53, 54, 55, 56, 57]⟩]
  refine (of_one _ 1 _ _ 3421780262 H9.out r1 (by decide) (HT.out.below x1)).mono ?_
  rintro e w' ⟨rfl, rfl⟩
  go_wp2_with fail
  refine (of_none _ (HT.out.below x1)).mono ?_
  rintro e w' ⟨rfl, rfl⟩
  go_wp2_with fail
  refine (tail_num 1 ⟨#[1, 0, 0, 0]⟩ _ (by decide) (by decide)).mono ?_
  rintro e w2 ⟨rfl, hx⟩
  have x2 := Reg.Ext.trans x1 hx
  clear hx
  go_wp2_with fail
  refine (tail_num 0 ⟨#[0, 0, 0, 0]⟩ _ (by decide) (by decide)).mono ?_
  rintro e w3 ⟨rfl, hx⟩
  have x3 := Reg.Ext.trans x2 hx
  clear hx
  go_wp2_with fail
  refine (ends_of ⟨#[0, 0, 0, 0]⟩ true _ (by decide) (HT.out.below x3) (by decide)).mono ?_
  rintro e w4 ⟨rfl, hx⟩
  have x4 := Reg.Ext.trans x3 hx
  clear hx
  go_wp2_with fail
  refine (ends_of ⟨#[97, 98, 99]⟩ false _ (by decide) (HT.out.below x4) (by decide)).mono ?_
  rintro e w5 ⟨rfl, hx⟩
  have x5 := Reg.Ext.trans x4 hx
  clear hx
  go_wp2_with fail
  go_ret
  exact ⟨rfl, x5⟩

set_option maxHeartbeats 400000 in
theorem parts_law (s : ByteArray) (at_ : Int) (w : World) (hs : s.size ≤ maxLen) (h1 : -9223372036854775808 ≤ at_) (h2 : at_ ≤ 9223372036854775807) (hT : Tab w) :
    Calls Tryd.prog 4 #[.string s, .int .i64 at_] w fun e w' => e = .returned (.bool true) ∧ Reg.Ext w w' := by
  unfold maxLen at hs
  have HT := Lib.hid hT
  clear hT
  by_cases hl : s.size ≤ 4096
  · have d1 : decide ((4096 : Int) < (s.size : Int)) = false := by simp; omega
    go_enter Tryd.func4, Tryd.ntmps4
    go_wp2_with fail
    refine (awake_any _ HT.out).mono ?_
    rintro e w1 ⟨rfl, x1⟩
    obtain ⟨k, hk, ek⟩ := umod at_ s.size (by omega)
    go_wp2_with fail
    have x2 := x1.trans (Reg.Ext.alloc w1 (Obj.cells #[Value.string s] 9))
    have r2 : Rd (w1.alloc (Obj.cells #[Value.string s] 9)) (some ⟨w1.heap.size, 0, none⟩) [strV s] := Rd.new w1 9 #[strV s]
    refine (of_one _ 1 s _ (ofS [s]) rfl r2 hs (HT.out.below x2)).mono ?_
    rintro e w' ⟨rfl, rfl⟩
    have HT2 := Lib.hid (HT.out.below x2)
    have hq1 : ofS [s.extract 0 k] < 4294967296 := ofS_lt _
    have hq2 : ofS [s] < 4294967296 := ofS_lt _
    have hsz : (s.extract 0 k).size ≤ maxLen := maxLen_of (ext_le _ _ _ hs)
    have hsz2 : (s.extract k s.size).size ≤ maxLen := maxLen_of (ext_le _ _ _ hs)
    have m1 : more (ofS [s.extract 0 k]) (s.extract k s.size).data.toList = ofS [s] := by
      simp only [ofS, ofParts, List.map_cons, List.map_nil, List.foldl_cons, List.foldl_nil]
      rw [← more_append, ext_to, ext_from, List.take_append_drop]
    have m2 : ofS [s.extract 0 k, s.extract k s.size] = ofS [s] := by
      rw [← m1]; rfl
    have m3 : ofS [s, ⟨(tail (ofS [s])).toArray⟩] = 558161692 := residue hq2
    have m4 : ends (s ++ ⟨(tail (ofS [s])).toArray⟩ : ByteArray).data.toList = true := by
      have : (s ++ ⟨(tail (ofS [s])).toArray⟩ : ByteArray).data.toList = s.data.toList ++ tail (ofS [s]) := by simp
      rw [this]
      exact ends_tail _
    have hsz3 : (s ++ ⟨(tail (ofS [s])).toArray⟩ : ByteArray).size ≤ maxLen := by
      rw [ByteArray.size_append]
      show s.size + (tail (ofS [s])).toArray.size ≤ maxLen
      simp only [List.size_toArray, tail_length, maxLen]
      omega
    have hsz4 : (⟨(tail (ofS [s])).toArray⟩ : ByteArray).size ≤ maxLen := by
      show (tail (ofS [s])).toArray.size ≤ maxLen
      simp only [List.size_toArray, tail_length, maxLen]
      omega
    have hst : s.size + (⟨(tail (ofS [s])).toArray⟩ : ByteArray).size ≤ 4100 := by
      show s.size + (tail (ofS [s])).toArray.size ≤ 4100
      simp only [List.size_toArray, tail_length]
      omega
    have M1 := Lib.hid m1
    have M2 := Lib.hid m2
    have M3 := Lib.hid m3
    have M4 := Lib.hid m4
    clear m1 m2 m3 m4
    have Z1 := Lib.hid hsz
    have Z2 := Lib.hid hsz2
    have Z3 := Lib.hid hsz3
    have Z4 := Lib.hid hsz4
    clear hsz hsz2 hsz3 hsz4
    generalize hQ : ofS [s] = q at *
    have HQ := Lib.hid hQ
    clear hQ
    generalize hT4 : (⟨(tail q).toArray⟩ : ByteArray) = t4 at *
    have HT4 := Lib.hid hT4
    clear hT4
    generalize w1.alloc (Obj.cells #[Value.string s] 9) = w2 at *
    go_wp2_with fail
    apply Reg.wp_tab Reg.Ext (by kernel_rfl) (by kernel_rfl) Reg.Ext.refl (fun _ _ _ => Reg.Ext.trans) (Reg.Ext.drew _)
    case h =>
      intro O
      repeat (first
        | (apply Reg.TW.move_ Reg.Ext.refl _ rfl rfl
           · simp only [Act.put, Act.eval, List.setIfInBounds_toArray, List.set_cons_zero, List.set_cons_succ, Nat.reduceAdd, Array.getD_eq_getD_getElem?, List.getElem?_toArray, List.getElem?_cons_succ, List.getElem?_cons_zero, Option.getD_some]
             rfl)
        | (apply Reg.TW.assign_ Reg.Ext.refl _ rfl rfl
           · simp only [Act.put, Act.eval, List.setIfInBounds_toArray, List.set_cons_zero, List.set_cons_succ, Nat.reduceAdd, Array.getD_eq_getD_getElem?, List.getElem?_toArray, List.getElem?_cons_succ, List.getElem?_cons_zero, Option.getD_some]
             rfl)
        | (apply Reg.TW.skip_ rfl
           · simp only [Act.put, Act.eval, List.setIfInBounds_toArray, List.set_cons_zero, List.set_cons_succ, Nat.reduceAdd, Array.getD_eq_getD_getElem?, List.getElem?_toArray, List.getElem?_cons_succ, List.getElem?_cons_zero, Option.getD_some]
             rfl)
        | (apply Reg.TW.pure_ rfl
           · intro w1 hw1 hf K hK
             simp only [Act.put, List.setIfInBounds_toArray, List.set_cons_zero, List.set_cons_succ] at hK
             have HK := Lib.hid hK
             clear hf hK
             unfold Reg.One; dsimp only
             go_wp2_with fail
             exact HK.out _ (Reg.Ext.refl _)
           · simp only [Act.put, Act.eval, List.setIfInBounds_toArray, List.set_cons_zero, List.set_cons_succ, Nat.reduceAdd, Array.getD_eq_getD_getElem?, List.getElem?_toArray, List.getElem?_cons_succ, List.getElem?_cons_zero, Option.getD_some]
             rfl))
      apply Reg.TW.any_ (fun vq wq => ∃ bq, vq = .slice (some ⟨bq, 0, none⟩) 1 1 ∧ Rd wq (some ⟨bq, 0, none⟩) (List.map strV [s.extract 0 k])) rfl (fun _ _ _ h ⟨bq, e, hr⟩ => ⟨bq, e, hr.below h⟩)
      · intro w1 hw1 hf K hK
        simp only [Act.put, List.setIfInBounds_toArray, List.set_cons_zero, List.set_cons_succ] at hK
        have HK := Lib.hid hK
        clear hK
        unfold Reg.One; dsimp only
        go_wp2_with fail
        exact HK.out _ _ (Reg.Ext.alloc _ _) ⟨_, rfl, Rd.new w1 9 (List.map strV [s.extract 0 k]).toArray⟩
      intro v26 a1 ha
      simp only [Act.put, Act.eval, List.setIfInBounds_toArray, List.set_cons_zero, List.set_cons_succ, Nat.reduceAdd, Array.getD_eq_getD_getElem?, List.getElem?_toArray, List.getElem?_cons_succ, List.getElem?_cons_zero, Option.getD_some] at ha
      subst ha
      apply Reg.TW.call_ (c := .int .u32 (ofS [s.extract 0 k] : Nat)) (fun _ => True) rfl (fun _ _ _ h => h)
      · intro w1 hw1 hf K hK
        simp only [Act.put, List.setIfInBounds_toArray, List.set_cons_zero, List.set_cons_succ] at hK
        have HK := Lib.hid hK
        clear hK
        unfold Reg.One; dsimp only
        obtain ⟨b, rfl, hr⟩ := hf.get0 (by kernel_rfl)
        have HT1 := HT2.out.below hw1
        go_wp2_with fail
        refine (of_one _ 1 _ _ _ rfl hr Z1.out HT1).mono ?_
        rintro e w' ⟨rfl, rfl⟩
        go_wp2_with fail
        exact HK.out _ (Reg.Ext.refl _) trivial
      · simp only [Act.put, Act.eval, List.setIfInBounds_toArray, List.set_cons_zero, List.set_cons_succ, Nat.reduceAdd, Array.getD_eq_getD_getElem?, List.getElem?_toArray, List.getElem?_cons_succ, List.getElem?_cons_zero, Option.getD_some]
        rfl
      repeat (first
        | (apply Reg.TW.move_ Reg.Ext.refl _ rfl rfl
           · simp only [Act.put, Act.eval, List.setIfInBounds_toArray, List.set_cons_zero, List.set_cons_succ, Nat.reduceAdd, Array.getD_eq_getD_getElem?, List.getElem?_toArray, List.getElem?_cons_succ, List.getElem?_cons_zero, Option.getD_some]
             rfl)
        | (apply Reg.TW.assign_ Reg.Ext.refl _ rfl rfl
           · simp only [Act.put, Act.eval, List.setIfInBounds_toArray, List.set_cons_zero, List.set_cons_succ, Nat.reduceAdd, Array.getD_eq_getD_getElem?, List.getElem?_toArray, List.getElem?_cons_succ, List.getElem?_cons_zero, Option.getD_some]
             rfl)
        | (apply Reg.TW.skip_ rfl
           · simp only [Act.put, Act.eval, List.setIfInBounds_toArray, List.set_cons_zero, List.set_cons_succ, Nat.reduceAdd, Array.getD_eq_getD_getElem?, List.getElem?_toArray, List.getElem?_cons_succ, List.getElem?_cons_zero, Option.getD_some]
             rfl)
        | (apply Reg.TW.pure_ rfl
           · intro w1 hw1 hf K hK
             simp only [Act.put, List.setIfInBounds_toArray, List.set_cons_zero, List.set_cons_succ] at hK
             have HK := Lib.hid hK
             clear hf hK
             unfold Reg.One; dsimp only
             go_wp2_with fail
             exact HK.out _ (Reg.Ext.refl _)
           · simp only [Act.put, Act.eval, List.setIfInBounds_toArray, List.set_cons_zero, List.set_cons_succ, Nat.reduceAdd, Array.getD_eq_getD_getElem?, List.getElem?_toArray, List.getElem?_cons_succ, List.getElem?_cons_zero, Option.getD_some]
             rfl))
      apply Reg.TW.call_ (c := .int .u32 (q : Nat)) (fun _ => True) rfl (fun _ _ _ h => h)
      · intro w1 hw1 hf K hK
        simp only [Act.put, List.setIfInBounds_toArray, List.set_cons_zero, List.set_cons_succ] at hK
        have HK := Lib.hid hK
        clear hK
        unfold Reg.One; dsimp only
        go_wp2_with fail
        refine (more_of _ _ _ q hq1 Z2.out (HT2.out.below hw1) M1.out).mono ?_
        rintro e w' ⟨rfl, rfl⟩
        go_wp2_with fail
        exact HK.out _ (Reg.Ext.refl _) trivial
      · simp only [Act.put, Act.eval, List.setIfInBounds_toArray, List.set_cons_zero, List.set_cons_succ, Nat.reduceAdd, Array.getD_eq_getD_getElem?, List.getElem?_toArray, List.getElem?_cons_succ, List.getElem?_cons_zero, Option.getD_some]
        rfl
      repeat (first
        | (apply Reg.TW.move_ Reg.Ext.refl _ rfl rfl
           · simp only [Act.put, Act.eval, List.setIfInBounds_toArray, List.set_cons_zero, List.set_cons_succ, Nat.reduceAdd, Array.getD_eq_getD_getElem?, List.getElem?_toArray, List.getElem?_cons_succ, List.getElem?_cons_zero, Option.getD_some]
             rfl)
        | (apply Reg.TW.assign_ Reg.Ext.refl _ rfl rfl
           · simp only [Act.put, Act.eval, List.setIfInBounds_toArray, List.set_cons_zero, List.set_cons_succ, Nat.reduceAdd, Array.getD_eq_getD_getElem?, List.getElem?_toArray, List.getElem?_cons_succ, List.getElem?_cons_zero, Option.getD_some]
             rfl)
        | (apply Reg.TW.skip_ rfl
           · simp only [Act.put, Act.eval, List.setIfInBounds_toArray, List.set_cons_zero, List.set_cons_succ, Nat.reduceAdd, Array.getD_eq_getD_getElem?, List.getElem?_toArray, List.getElem?_cons_succ, List.getElem?_cons_zero, Option.getD_some]
             rfl)
        | (apply Reg.TW.pure_ rfl
           · intro w1 hw1 hf K hK
             simp only [Act.put, List.setIfInBounds_toArray, List.set_cons_zero, List.set_cons_succ] at hK
             have HK := Lib.hid hK
             clear hf hK
             unfold Reg.One; dsimp only
             go_wp2_with fail
             exact HK.out _ (Reg.Ext.refl _)
           · simp only [Act.put, Act.eval, List.setIfInBounds_toArray, List.set_cons_zero, List.set_cons_succ, Nat.reduceAdd, Array.getD_eq_getD_getElem?, List.getElem?_toArray, List.getElem?_cons_succ, List.getElem?_cons_zero, Option.getD_some]
             rfl))
      apply Reg.TW.any_ (fun vq wq => ∃ bq, vq = .slice (some ⟨bq, 0, none⟩) 2 2 ∧ Rd wq (some ⟨bq, 0, none⟩) (List.map strV [s.extract 0 k, s.extract k s.size])) rfl (fun _ _ _ h ⟨bq, e, hr⟩ => ⟨bq, e, hr.below h⟩)
      · intro w1 hw1 hf K hK
        simp only [Act.put, List.setIfInBounds_toArray, List.set_cons_zero, List.set_cons_succ] at hK
        have HK := Lib.hid hK
        clear hK
        unfold Reg.One; dsimp only
        go_wp2_with fail
        exact HK.out _ _ (Reg.Ext.alloc _ _) ⟨_, rfl, Rd.new w1 9 (List.map strV [s.extract 0 k, s.extract k s.size]).toArray⟩
      intro v41 a1 ha
      simp only [Act.put, Act.eval, List.setIfInBounds_toArray, List.set_cons_zero, List.set_cons_succ, Nat.reduceAdd, Array.getD_eq_getD_getElem?, List.getElem?_toArray, List.getElem?_cons_succ, List.getElem?_cons_zero, Option.getD_some] at ha
      subst ha
      apply Reg.TW.call_ (c := .int .u32 (q : Nat)) (fun _ => True) rfl (fun _ _ _ h => h)
      · intro w1 hw1 hf K hK
        simp only [Act.put, List.setIfInBounds_toArray, List.set_cons_zero, List.set_cons_succ] at hK
        have HK := Lib.hid hK
        clear hK
        unfold Reg.One; dsimp only
        obtain ⟨b, rfl, hr⟩ := hf.get0 (by kernel_rfl)
        have HT1 := HT2.out.below hw1
        go_wp2_with fail
        refine (of_two _ _ _ _ _ M2.out hr Z1.out Z2.out HT1).mono ?_
        rintro e w' ⟨rfl, rfl⟩
        go_wp2_with fail
        exact HK.out _ (Reg.Ext.refl _) trivial
      · simp only [Act.put, Act.eval, List.setIfInBounds_toArray, List.set_cons_zero, List.set_cons_succ, Nat.reduceAdd, Array.getD_eq_getD_getElem?, List.getElem?_toArray, List.getElem?_cons_succ, List.getElem?_cons_zero, Option.getD_some]
        rfl
      repeat (first
        | (apply Reg.TW.move_ Reg.Ext.refl _ rfl rfl
           · simp only [Act.put, Act.eval, List.setIfInBounds_toArray, List.set_cons_zero, List.set_cons_succ, Nat.reduceAdd, Array.getD_eq_getD_getElem?, List.getElem?_toArray, List.getElem?_cons_succ, List.getElem?_cons_zero, Option.getD_some]
             rfl)
        | (apply Reg.TW.assign_ Reg.Ext.refl _ rfl rfl
           · simp only [Act.put, Act.eval, List.setIfInBounds_toArray, List.set_cons_zero, List.set_cons_succ, Nat.reduceAdd, Array.getD_eq_getD_getElem?, List.getElem?_toArray, List.getElem?_cons_succ, List.getElem?_cons_zero, Option.getD_some]
             rfl)
        | (apply Reg.TW.skip_ rfl
           · simp only [Act.put, Act.eval, List.setIfInBounds_toArray, List.set_cons_zero, List.set_cons_succ, Nat.reduceAdd, Array.getD_eq_getD_getElem?, List.getElem?_toArray, List.getElem?_cons_succ, List.getElem?_cons_zero, Option.getD_some]
             rfl)
        | (apply Reg.TW.pure_ rfl
           · intro w1 hw1 hf K hK
             simp only [Act.put, List.setIfInBounds_toArray, List.set_cons_zero, List.set_cons_succ] at hK
             have HK := Lib.hid hK
             clear hf hK
             unfold Reg.One; dsimp only
             go_wp2_with fail
             exact HK.out _ (Reg.Ext.refl _)
           · simp only [Act.put, Act.eval, List.setIfInBounds_toArray, List.set_cons_zero, List.set_cons_succ, Nat.reduceAdd, Array.getD_eq_getD_getElem?, List.getElem?_toArray, List.getElem?_cons_succ, List.getElem?_cons_zero, Option.getD_some]
             rfl))
      apply Reg.TW.call_ (c := .string t4) (fun _ => True) rfl (fun _ _ _ h => h)
      · intro w1 hw1 hf K hK
        simp only [Act.put, List.setIfInBounds_toArray, List.set_cons_zero, List.set_cons_succ] at hK
        have HK := Lib.hid hK
        clear hK
        unfold Reg.One; dsimp only
        go_wp2_with fail
        refine (tail_num q t4 _ hq2 (by rw [← HT4.out])).mono ?_
        rintro e w' ⟨rfl, hx⟩
        go_wp2_with fail
        exact HK.out _ hx trivial
      · simp only [Act.put, Act.eval, List.setIfInBounds_toArray, List.set_cons_zero, List.set_cons_succ, Nat.reduceAdd, Array.getD_eq_getD_getElem?, List.getElem?_toArray, List.getElem?_cons_succ, List.getElem?_cons_zero, Option.getD_some]
        rfl
      apply Reg.TW.any_ (fun vq wq => ∃ bq, vq = .slice (some ⟨bq, 0, none⟩) 2 2 ∧ Rd wq (some ⟨bq, 0, none⟩) (List.map strV [s, t4])) rfl (fun _ _ _ h ⟨bq, e, hr⟩ => ⟨bq, e, hr.below h⟩)
      · intro w1 hw1 hf K hK
        simp only [Act.put, List.setIfInBounds_toArray, List.set_cons_zero, List.set_cons_succ] at hK
        have HK := Lib.hid hK
        clear hK
        unfold Reg.One; dsimp only
        go_wp2_with fail
        exact HK.out _ _ (Reg.Ext.alloc _ _) ⟨_, rfl, Rd.new w1 9 (List.map strV [s, t4]).toArray⟩
      intro v50 a1 ha
      simp only [Act.put, Act.eval, List.setIfInBounds_toArray, List.set_cons_zero, List.set_cons_succ, Nat.reduceAdd, Array.getD_eq_getD_getElem?, List.getElem?_toArray, List.getElem?_cons_succ, List.getElem?_cons_zero, Option.getD_some] at ha
      subst ha
      apply Reg.TW.call_ (c := .int .u32 558161692) (fun _ => True) rfl (fun _ _ _ h => h)
      · intro w1 hw1 hf K hK
        simp only [Act.put, List.setIfInBounds_toArray, List.set_cons_zero, List.set_cons_succ] at hK
        have HK := Lib.hid hK
        clear hK
        unfold Reg.One; dsimp only
        obtain ⟨b, rfl, hr⟩ := hf.get0 (by kernel_rfl)
        have HT1 := HT2.out.below hw1
        go_wp2_with fail
        refine (of_two _ _ _ _ 558161692 M3.out hr hs Z4.out HT1).mono ?_
        rintro e w' ⟨rfl, rfl⟩
        go_wp2_with fail
        exact HK.out _ (Reg.Ext.refl _) trivial
      · simp only [Act.put, Act.eval, List.setIfInBounds_toArray, List.set_cons_zero, List.set_cons_succ, Nat.reduceAdd, Array.getD_eq_getD_getElem?, List.getElem?_toArray, List.getElem?_cons_succ, List.getElem?_cons_zero, Option.getD_some]
        rfl
      repeat (first
        | (apply Reg.TW.move_ Reg.Ext.refl _ rfl rfl
           · simp only [Act.put, Act.eval, List.setIfInBounds_toArray, List.set_cons_zero, List.set_cons_succ, Nat.reduceAdd, Array.getD_eq_getD_getElem?, List.getElem?_toArray, List.getElem?_cons_succ, List.getElem?_cons_zero, Option.getD_some]
             rfl)
        | (apply Reg.TW.assign_ Reg.Ext.refl _ rfl rfl
           · simp only [Act.put, Act.eval, List.setIfInBounds_toArray, List.set_cons_zero, List.set_cons_succ, Nat.reduceAdd, Array.getD_eq_getD_getElem?, List.getElem?_toArray, List.getElem?_cons_succ, List.getElem?_cons_zero, Option.getD_some]
             rfl)
        | (apply Reg.TW.skip_ rfl
           · simp only [Act.put, Act.eval, List.setIfInBounds_toArray, List.set_cons_zero, List.set_cons_succ, Nat.reduceAdd, Array.getD_eq_getD_getElem?, List.getElem?_toArray, List.getElem?_cons_succ, List.getElem?_cons_zero, Option.getD_some]
             rfl)
        | (apply Reg.TW.pure_ rfl
           · intro w1 hw1 hf K hK
             simp only [Act.put, List.setIfInBounds_toArray, List.set_cons_zero, List.set_cons_succ] at hK
             have HK := Lib.hid hK
             clear hf hK
             unfold Reg.One; dsimp only
             go_wp2_with fail
             exact HK.out _ (Reg.Ext.refl _)
           · simp only [Act.put, Act.eval, List.setIfInBounds_toArray, List.set_cons_zero, List.set_cons_succ, Nat.reduceAdd, Array.getD_eq_getD_getElem?, List.getElem?_toArray, List.getElem?_cons_succ, List.getElem?_cons_zero, Option.getD_some]
             rfl))
      apply Reg.TW.call_ (c := .string t4) (fun _ => True) rfl (fun _ _ _ h => h)
      · intro w1 hw1 hf K hK
        simp only [Act.put, List.setIfInBounds_toArray, List.set_cons_zero, List.set_cons_succ] at hK
        have HK := Lib.hid hK
        clear hK
        unfold Reg.One; dsimp only
        go_wp2_with fail
        refine (tail_num q t4 _ hq2 (by rw [← HT4.out])).mono ?_
        rintro e w' ⟨rfl, hx⟩
        go_wp2_with fail
        exact HK.out _ hx trivial
      · simp only [Act.put, Act.eval, List.setIfInBounds_toArray, List.set_cons_zero, List.set_cons_succ, Nat.reduceAdd, Array.getD_eq_getD_getElem?, List.getElem?_toArray, List.getElem?_cons_succ, List.getElem?_cons_zero, Option.getD_some]
        rfl
      repeat (first
        | (apply Reg.TW.move_ Reg.Ext.refl _ rfl rfl
           · simp only [Act.put, Act.eval, List.setIfInBounds_toArray, List.set_cons_zero, List.set_cons_succ, Nat.reduceAdd, Array.getD_eq_getD_getElem?, List.getElem?_toArray, List.getElem?_cons_succ, List.getElem?_cons_zero, Option.getD_some]
             rfl)
        | (apply Reg.TW.assign_ Reg.Ext.refl _ rfl rfl
           · simp only [Act.put, Act.eval, List.setIfInBounds_toArray, List.set_cons_zero, List.set_cons_succ, Nat.reduceAdd, Array.getD_eq_getD_getElem?, List.getElem?_toArray, List.getElem?_cons_succ, List.getElem?_cons_zero, Option.getD_some]
             rfl)
        | (apply Reg.TW.skip_ rfl
           · simp only [Act.put, Act.eval, List.setIfInBounds_toArray, List.set_cons_zero, List.set_cons_succ, Nat.reduceAdd, Array.getD_eq_getD_getElem?, List.getElem?_toArray, List.getElem?_cons_succ, List.getElem?_cons_zero, Option.getD_some]
             rfl)
        | (apply Reg.TW.pure_ rfl
           · intro w1 hw1 hf K hK
             simp only [Act.put, List.setIfInBounds_toArray, List.set_cons_zero, List.set_cons_succ] at hK
             have HK := Lib.hid hK
             clear hf hK
             unfold Reg.One; dsimp only
             go_wp2_with fail
             exact HK.out _ (Reg.Ext.refl _)
           · simp only [Act.put, Act.eval, List.setIfInBounds_toArray, List.set_cons_zero, List.set_cons_succ, Nat.reduceAdd, Array.getD_eq_getD_getElem?, List.getElem?_toArray, List.getElem?_cons_succ, List.getElem?_cons_zero, Option.getD_some]
             rfl))
      apply Reg.TW.call_ (c := .bool true) (fun _ => True) rfl (fun _ _ _ h => h)
      · intro w1 hw1 hf K hK
        simp only [Act.put, List.setIfInBounds_toArray, List.set_cons_zero, List.set_cons_succ] at hK
        have HK := Lib.hid hK
        clear hK
        unfold Reg.One; dsimp only
        go_wp2_with fail
        refine (ends_of _ true _ Z3.out (HT2.out.below hw1) M4.out).mono ?_
        rintro e w' ⟨rfl, hx⟩
        go_wp2_with fail
        exact HK.out _ hx trivial
      · simp only [Act.put, Act.eval, List.setIfInBounds_toArray, List.set_cons_zero, List.set_cons_succ, Nat.reduceAdd, Array.getD_eq_getD_getElem?, List.getElem?_toArray, List.getElem?_cons_succ, List.getElem?_cons_zero, Option.getD_some]
        rfl
      repeat (first
        | (apply Reg.TW.move_ Reg.Ext.refl _ rfl rfl
           · simp only [Act.put, Act.eval, List.setIfInBounds_toArray, List.set_cons_zero, List.set_cons_succ, Nat.reduceAdd, Array.getD_eq_getD_getElem?, List.getElem?_toArray, List.getElem?_cons_succ, List.getElem?_cons_zero, Option.getD_some]
             rfl)
        | (apply Reg.TW.assign_ Reg.Ext.refl _ rfl rfl
           · simp only [Act.put, Act.eval, List.setIfInBounds_toArray, List.set_cons_zero, List.set_cons_succ, Nat.reduceAdd, Array.getD_eq_getD_getElem?, List.getElem?_toArray, List.getElem?_cons_succ, List.getElem?_cons_zero, Option.getD_some]
             rfl)
        | (apply Reg.TW.skip_ rfl
           · simp only [Act.put, Act.eval, List.setIfInBounds_toArray, List.set_cons_zero, List.set_cons_succ, Nat.reduceAdd, Array.getD_eq_getD_getElem?, List.getElem?_toArray, List.getElem?_cons_succ, List.getElem?_cons_zero, Option.getD_some]
             rfl)
        | (apply Reg.TW.pure_ rfl
           · intro w1 hw1 hf K hK
             simp only [Act.put, List.setIfInBounds_toArray, List.set_cons_zero, List.set_cons_succ] at hK
             have HK := Lib.hid hK
             clear hf hK
             unfold Reg.One; dsimp only
             go_wp2_with fail
             exact HK.out _ (Reg.Ext.refl _)
           · simp only [Act.put, Act.eval, List.setIfInBounds_toArray, List.set_cons_zero, List.set_cons_succ, Nat.reduceAdd, Array.getD_eq_getD_getElem?, List.getElem?_toArray, List.getElem?_cons_succ, List.getElem?_cons_zero, Option.getD_some]
             rfl))
      refine Reg.TW.nil_ ?_
      intro w3 hw3 _
      go_wp2
      go_ret
      exact ⟨rfl, x2.trans hw3⟩
    case hlen => rfl
  · have d1 : decide ((4096 : Int) < (s.size : Int)) = true := by simp; omega
    go_enter Tryd.func4, Tryd.ntmps4
    go_wp2_with fail
    refine (awake_any _ HT.out).mono ?_
    rintro e w1 ⟨rfl, x1⟩
    go_wp2_with fail
    go_ret
    exact ⟨rfl, x1⟩
end Crc
end Go.Proofs.YtphjephneaaohaaDoor

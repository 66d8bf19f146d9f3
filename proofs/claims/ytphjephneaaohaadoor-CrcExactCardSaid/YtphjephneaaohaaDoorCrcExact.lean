/- CrcExact: all functions agree with the reference, for any texts and any sum. -/
import Derived.Test.YtphjephneaaohaaDoorCrcLaws
set_option linter.unusedSimpArgs false
set_option linter.unusedVariables false
set_option linter.unusedSectionVars false
namespace Go.Proofs.YtphjephneaaohaaDoor
open Go.RowKit
namespace Crc
open CrcP

theorem moreR_of (x : Nat) (s : ByteArray) (w : World) (v : Nat) (hx : x < 4294967296) (hs : s.size ≤ maxLen) (hv : more x s.data.toList = v) :
    Calls Tryd.prog 8 #[.int .u32 (x : Int), .string s] w fun e w' => e = .returned (.int .u32 (v : Int)) ∧ w = w' := by
  have := moreR_any x s w hx hs
  rw [← more_moreR, hv] at this
  exact this
theorem moreR_zero (s : ByteArray) (w : World) (v : Nat) (hs : s.size ≤ maxLen) (hv : more 0 s.data.toList = v) :
    Calls Tryd.prog 8 #[.int .u32 0, .string s] w fun e w' => e = .returned (.int .u32 (v : Int)) ∧ w = w' :=
  moreR_of 0 s w v (by decide) hs hv
theorem tailR_num (n : Nat) (s : ByteArray) (w : World) (hn : n < 4294967296) (hs : tail n = s.data.toList) :
    Calls Tryd.prog 11 #[.int .u32 (n : Int)] w fun e w' => e = .returned (.string s) ∧ Reg.Ext w w' := by
  have := tailR_any n w hn
  rw [hs, ba_data] at this
  exact this

set_option maxRecDepth 100000 in
set_option maxHeartbeats 1600000 in
theorem exact_law (A : Option Addr) (n c : Nat) (ss : List ByteArray) (sum : Nat) (w : World) (hn : ss.length = n) (hm : n ≤ maxLen) (hr : Rd w A (ss.map strV)) (hz : ∀ s ∈ ss, s.size ≤ maxLen) (hsum : sum < 4294967296) (hT : Tab w) :
    Calls Tryd.prog 3 #[.slice A n c, .int .u32 (sum : Int)] w fun e w' => e = .returned (.bool true) ∧ Reg.Ext w w' := by
  unfold maxLen at hm
  have HT := Lib.hid hT
  have HR := Lib.hid hr
  have HN := Lib.hid hn
  have HZ := Lib.hid hz
  clear hT hr hn hz
  by_cases hl : n ≤ 20
  · have d1 : decide ((20 : Int) < (n : Int)) = false := by simp; omega
    go_enter Tryd.func3, Tryd.ntmps3
    go_wp2_with fail
    refine (awake_any _ HT.out).mono ?_
    rintro e w1 ⟨rfl, x1⟩
    go_wp2_with fail
    go_loopw [5, 6] (fun v i wr => ∃ k : Nat, k ≤ n ∧ i = .int .i64 k ∧ v = .int .u32 (ofS (ss.take k) : Nat) ∧ Reg.Ext w wr) (fun _ i _ => n - (intOf i).toNat)
    case atStart => exact ⟨0, Nat.zero_le _, rfl, rfl, x1⟩
    case round =>
      obtain ⟨k, hk, rfl, rfl, hx⟩ := hrel
      have HX := Lib.hid hx
      clear hx
      have hlt := ofS_lt (ss.take k)
      by_cases hkn : k < n
      · have hkl : k < ss.length := by rw [HN.out]; exact hkn
        obtain ⟨ad, rfl, hb, hc⟩ := HR.out k (by simpa using hkl)
        have hc0 : w.cell? (ad.add k) = some (.string ss[k]) := by simpa [strV] using hc
        have hc' := HX.out.at_ hc0
        have hsn : ofS (ss.take (k + 1)) = more (ofS (ss.take k)) (ss[k]).data.toList := by
          rw [List.take_succ_eq_append_getElem hkl, ofS_snoc]
        have HS := Lib.hid hsn
        clear hsn hc hc0 hb
        generalize ss[k] = s at *
        generalize ofS (ss.take k) = r at *
        by_cases h4k : s.size ≤ 4096
        · have d2 : decide ((4096 : Int) < (s.size : Int)) = false := by simp; omega
          have hsz : s.size ≤ maxLen := maxLen_of (by omega)
          have HSZ := Lib.hid hsz
          clear hsz
          have HT1 := Lib.hid (HT.out.below HX.out)
          go_wp2_with fail
          refine (moreR_of _ s _ _ hlt HSZ.out rfl).mono ?_
          rintro e w' ⟨rfl, rfl⟩
          go_wp2_with fail
          generalize hq1 : more sum s.data.toList = q1
          have Q1 := Lib.hid hq1
          clear hq1
          generalize heb : ends s.data.toList = eb
          have EB := Lib.hid heb
          clear heb
          by_cases h4 : 4 ≤ s.size
          · have d3 : decide ((4 : Int) ≤ (s.size : Int)) = true := by simp; omega
            have hsz2 : (s.extract 0 (s.size - 4)).size ≤ maxLen := maxLen_of (ext_le _ _ _ (by omega))
            have hql := more_lt 0 (s.extract 0 (s.size - 4)).data.toList
            have he : (tail (more 0 (s.extract 0 (s.size - 4)).data.toList) == (s.extract (s.size - 4) s.size).toList) = eb := by
              rw [← EB.out]
              have h4' : decide (4 ≤ s.data.toList.length) = true := by rw [len_data]; simpa using h4
              rw [ByteArray.toList_eq, ext_from, ext_to]
              unfold ends
              rw [h4', len_data]
              rfl
            generalize hq2 : more 0 (s.extract 0 (s.size - 4)).data.toList = q2 at *
            have Q2 := Lib.hid hq2
            have Z2 := Lib.hid hsz2
            clear hq2 hsz2
            apply Reg.wp_tab Reg.Ext (by kernel_rfl) (by kernel_rfl) Reg.Ext.refl (fun _ _ _ => Reg.Ext.trans) (Reg.Ext.drew _)
            case h =>
              intro O
              repeat (first
                | (apply Reg.TW.move_ Reg.Ext.refl _ rfl rfl
                   · simp only [Act.put, Act.eval, List.setIfInBounds_toArray, List.set_cons_zero, List.set_cons_succ, Nat.reduceAdd, Array.getD_eq_getD_getElem?, List.getElem?_toArray, List.getElem?_cons_succ, List.getElem?_cons_zero, Option.getD_some]
                     rfl)
                | (apply Reg.TW.assign_ Reg.Ext.refl _ rfl rfl
                   · simp only [Act.put, Act.eval, List.setIfInBounds_toArray, List.set_cons_zero, List.set_cons_succ, Nat.reduceAdd, Array.getD_eq_getD_getElem?, List.getElem?_toArray, List.getElem?_cons_succ, List.getElem?_cons_zero, Option.getD_some]
                     rfl)
                | (apply Reg.TW.skip_ rfl
                   · simp only [Act.put, Act.eval, List.setIfInBounds_toArray, List.set_cons_zero, List.set_cons_succ, Nat.reduceAdd, Array.getD_eq_getD_getElem?, List.getElem?_toArray, List.getElem?_cons_succ, List.getElem?_cons_zero, Option.getD_some]
                     rfl)
                | (apply Reg.TW.pure_ rfl
                   · intro w1 hw1 hf K hK
                     simp only [Act.put, List.setIfInBounds_toArray, List.set_cons_zero, List.set_cons_succ] at hK
                     have HK := Lib.hid hK
                     clear hf hK
                     have c1 := hw1.at_ hc'
                     unfold Reg.One; dsimp only
                     go_wp2_with fail
                     exact HK.out _ (Reg.Ext.refl _)
                   · simp only [Act.put, Act.eval, List.setIfInBounds_toArray, List.set_cons_zero, List.set_cons_succ, Nat.reduceAdd, Array.getD_eq_getD_getElem?, List.getElem?_toArray, List.getElem?_cons_succ, List.getElem?_cons_zero, Option.getD_some]
                     rfl))
              apply Reg.TW.call_ (c := .int .u32 (q1 : Nat)) (fun _ => True) rfl (fun _ _ _ h => h)
              · intro w1 hw1 hf K hK
                simp only [Act.put, List.setIfInBounds_toArray, List.set_cons_zero, List.set_cons_succ] at hK
                have HK := Lib.hid hK
                clear hK
                unfold Reg.One; dsimp only
                go_wp2_with fail
                refine (more_of sum s _ q1 hsum HSZ.out (HT1.out.below hw1) Q1.out).mono ?_
                rintro e w' ⟨rfl, rfl⟩
                go_wp2_with fail
                exact HK.out _ (Reg.Ext.refl _) trivial
              · simp only [Act.put, Act.eval, List.setIfInBounds_toArray, List.set_cons_zero, List.set_cons_succ, Nat.reduceAdd, Array.getD_eq_getD_getElem?, List.getElem?_toArray, List.getElem?_cons_succ, List.getElem?_cons_zero, Option.getD_some]
                rfl
              repeat (first
                | (apply Reg.TW.move_ Reg.Ext.refl _ rfl rfl
                   · simp only [Act.put, Act.eval, List.setIfInBounds_toArray, List.set_cons_zero, List.set_cons_succ, Nat.reduceAdd, Array.getD_eq_getD_getElem?, List.getElem?_toArray, List.getElem?_cons_succ, List.getElem?_cons_zero, Option.getD_some]
                     rfl)
                | (apply Reg.TW.assign_ Reg.Ext.refl _ rfl rfl
                   · simp only [Act.put, Act.eval, List.setIfInBounds_toArray, List.set_cons_zero, List.set_cons_succ, Nat.reduceAdd, Array.getD_eq_getD_getElem?, List.getElem?_toArray, List.getElem?_cons_succ, List.getElem?_cons_zero, Option.getD_some]
                     rfl)
                | (apply Reg.TW.skip_ rfl
                   · simp only [Act.put, Act.eval, List.setIfInBounds_toArray, List.set_cons_zero, List.set_cons_succ, Nat.reduceAdd, Array.getD_eq_getD_getElem?, List.getElem?_toArray, List.getElem?_cons_succ, List.getElem?_cons_zero, Option.getD_some]
                     rfl)
                | (apply Reg.TW.pure_ rfl
                   · intro w1 hw1 hf K hK
                     simp only [Act.put, List.setIfInBounds_toArray, List.set_cons_zero, List.set_cons_succ] at hK
                     have HK := Lib.hid hK
                     clear hf hK
                     have c1 := hw1.at_ hc'
                     unfold Reg.One; dsimp only
                     go_wp2_with fail
                     exact HK.out _ (Reg.Ext.refl _)
                   · simp only [Act.put, Act.eval, List.setIfInBounds_toArray, List.set_cons_zero, List.set_cons_succ, Nat.reduceAdd, Array.getD_eq_getD_getElem?, List.getElem?_toArray, List.getElem?_cons_succ, List.getElem?_cons_zero, Option.getD_some]
                     rfl))
              apply Reg.TW.call_ (c := .int .u32 (q1 : Nat)) (fun _ => True) rfl (fun _ _ _ h => h)
              · intro w1 hw1 hf K hK
                simp only [Act.put, List.setIfInBounds_toArray, List.set_cons_zero, List.set_cons_succ] at hK
                have HK := Lib.hid hK
                clear hK
                unfold Reg.One; dsimp only
                go_wp2_with fail
                refine (moreR_of sum s _ q1 hsum HSZ.out Q1.out).mono ?_
                rintro e w' ⟨rfl, rfl⟩
                go_wp2_with fail
                exact HK.out _ (Reg.Ext.refl _) trivial
              · simp only [Act.put, Act.eval, List.setIfInBounds_toArray, List.set_cons_zero, List.set_cons_succ, Nat.reduceAdd, Array.getD_eq_getD_getElem?, List.getElem?_toArray, List.getElem?_cons_succ, List.getElem?_cons_zero, Option.getD_some]
                rfl
              repeat (first
                | (apply Reg.TW.move_ Reg.Ext.refl _ rfl rfl
                   · simp only [Act.put, Act.eval, List.setIfInBounds_toArray, List.set_cons_zero, List.set_cons_succ, Nat.reduceAdd, Array.getD_eq_getD_getElem?, List.getElem?_toArray, List.getElem?_cons_succ, List.getElem?_cons_zero, Option.getD_some]
                     rfl)
                | (apply Reg.TW.assign_ Reg.Ext.refl _ rfl rfl
                   · simp only [Act.put, Act.eval, List.setIfInBounds_toArray, List.set_cons_zero, List.set_cons_succ, Nat.reduceAdd, Array.getD_eq_getD_getElem?, List.getElem?_toArray, List.getElem?_cons_succ, List.getElem?_cons_zero, Option.getD_some]
                     rfl)
                | (apply Reg.TW.skip_ rfl
                   · simp only [Act.put, Act.eval, List.setIfInBounds_toArray, List.set_cons_zero, List.set_cons_succ, Nat.reduceAdd, Array.getD_eq_getD_getElem?, List.getElem?_toArray, List.getElem?_cons_succ, List.getElem?_cons_zero, Option.getD_some]
                     rfl)
                | (apply Reg.TW.pure_ rfl
                   · intro w1 hw1 hf K hK
                     simp only [Act.put, List.setIfInBounds_toArray, List.set_cons_zero, List.set_cons_succ] at hK
                     have HK := Lib.hid hK
                     clear hf hK
                     have c1 := hw1.at_ hc'
                     unfold Reg.One; dsimp only
                     go_wp2_with fail
                     exact HK.out _ (Reg.Ext.refl _)
                   · simp only [Act.put, Act.eval, List.setIfInBounds_toArray, List.set_cons_zero, List.set_cons_succ, Nat.reduceAdd, Array.getD_eq_getD_getElem?, List.getElem?_toArray, List.getElem?_cons_succ, List.getElem?_cons_zero, Option.getD_some]
                     rfl))
              apply Reg.TW.call_ (c := .bool eb) (fun _ => True) rfl (fun _ _ _ h => h)
              · intro w1 hw1 hf K hK
                simp only [Act.put, List.setIfInBounds_toArray, List.set_cons_zero, List.set_cons_succ] at hK
                have HK := Lib.hid hK
                clear hK
                unfold Reg.One; dsimp only
                go_wp2_with fail
                refine (ends_of s eb _ HSZ.out (HT1.out.below hw1) EB.out).mono ?_
                rintro e w' ⟨rfl, hx⟩
                go_wp2_with fail
                exact HK.out _ hx trivial
              · simp only [Act.put, Act.eval, List.setIfInBounds_toArray, List.set_cons_zero, List.set_cons_succ, Nat.reduceAdd, Array.getD_eq_getD_getElem?, List.getElem?_toArray, List.getElem?_cons_succ, List.getElem?_cons_zero, Option.getD_some]
                rfl
              repeat (first
                | (apply Reg.TW.move_ Reg.Ext.refl _ rfl rfl
                   · simp only [Act.put, Act.eval, List.setIfInBounds_toArray, List.set_cons_zero, List.set_cons_succ, Nat.reduceAdd, Array.getD_eq_getD_getElem?, List.getElem?_toArray, List.getElem?_cons_succ, List.getElem?_cons_zero, Option.getD_some]
                     rfl)
                | (apply Reg.TW.assign_ Reg.Ext.refl _ rfl rfl
                   · simp only [Act.put, Act.eval, List.setIfInBounds_toArray, List.set_cons_zero, List.set_cons_succ, Nat.reduceAdd, Array.getD_eq_getD_getElem?, List.getElem?_toArray, List.getElem?_cons_succ, List.getElem?_cons_zero, Option.getD_some]
                     rfl)
                | (apply Reg.TW.skip_ rfl
                   · simp only [Act.put, Act.eval, List.setIfInBounds_toArray, List.set_cons_zero, List.set_cons_succ, Nat.reduceAdd, Array.getD_eq_getD_getElem?, List.getElem?_toArray, List.getElem?_cons_succ, List.getElem?_cons_zero, Option.getD_some]
                     rfl)
                | (apply Reg.TW.pure_ rfl
                   · intro w1 hw1 hf K hK
                     simp only [Act.put, List.setIfInBounds_toArray, List.set_cons_zero, List.set_cons_succ] at hK
                     have HK := Lib.hid hK
                     clear hf hK
                     have c1 := hw1.at_ hc'
                     unfold Reg.One; dsimp only
                     go_wp2_with fail
                     exact HK.out _ (Reg.Ext.refl _)
                   · simp only [Act.put, Act.eval, List.setIfInBounds_toArray, List.set_cons_zero, List.set_cons_succ, Nat.reduceAdd, Array.getD_eq_getD_getElem?, List.getElem?_toArray, List.getElem?_cons_succ, List.getElem?_cons_zero, Option.getD_some]
                     rfl))
              apply Reg.TW.call_ (c := .int .u32 (q2 : Nat)) (fun _ => True) rfl (fun _ _ _ h => h)
              · intro w1 hw1 hf K hK
                simp only [Act.put, List.setIfInBounds_toArray, List.set_cons_zero, List.set_cons_succ] at hK
                have HK := Lib.hid hK
                clear hK
                unfold Reg.One; dsimp only
                go_wp2_with fail
                refine (moreR_zero _ _ q2 Z2.out Q2.out).mono ?_
                rintro e w' ⟨rfl, rfl⟩
                go_wp2_with fail
                exact HK.out _ (Reg.Ext.refl _) trivial
              · simp only [Act.put, Act.eval, List.setIfInBounds_toArray, List.set_cons_zero, List.set_cons_succ, Nat.reduceAdd, Array.getD_eq_getD_getElem?, List.getElem?_toArray, List.getElem?_cons_succ, List.getElem?_cons_zero, Option.getD_some]
                rfl
              apply Reg.TW.call_ (c := .string ⟨(tail q2).toArray⟩) (fun _ => True) rfl (fun _ _ _ h => h)
              · intro w1 hw1 hf K hK
                simp only [Act.put, List.setIfInBounds_toArray, List.set_cons_zero, List.set_cons_succ] at hK
                have HK := Lib.hid hK
                clear hK
                unfold Reg.One; dsimp only
                go_wp2_with fail
                refine (tailR_any q2 _ hql).mono ?_
                rintro e w' ⟨rfl, hx⟩
                go_wp2_with fail
                exact HK.out _ hx trivial
              · simp only [Act.put, Act.eval, List.setIfInBounds_toArray, List.set_cons_zero, List.set_cons_succ, Nat.reduceAdd, Array.getD_eq_getD_getElem?, List.getElem?_toArray, List.getElem?_cons_succ, List.getElem?_cons_zero, Option.getD_some]
                rfl
              repeat (first
                | (apply Reg.TW.move_ Reg.Ext.refl _ rfl rfl
                   · simp only [Act.put, Act.eval, List.setIfInBounds_toArray, List.set_cons_zero, List.set_cons_succ, Nat.reduceAdd, Array.getD_eq_getD_getElem?, List.getElem?_toArray, List.getElem?_cons_succ, List.getElem?_cons_zero, Option.getD_some]
                     rfl)
                | (apply Reg.TW.assign_ Reg.Ext.refl _ rfl rfl
                   · simp only [Act.put, Act.eval, List.setIfInBounds_toArray, List.set_cons_zero, List.set_cons_succ, Nat.reduceAdd, Array.getD_eq_getD_getElem?, List.getElem?_toArray, List.getElem?_cons_succ, List.getElem?_cons_zero, Option.getD_some]
                     rfl)
                | (apply Reg.TW.skip_ rfl
                   · simp only [Act.put, Act.eval, List.setIfInBounds_toArray, List.set_cons_zero, List.set_cons_succ, Nat.reduceAdd, Array.getD_eq_getD_getElem?, List.getElem?_toArray, List.getElem?_cons_succ, List.getElem?_cons_zero, Option.getD_some]
                     rfl)
                | (apply Reg.TW.pure_ rfl
                   · intro w1 hw1 hf K hK
                     simp only [Act.put, List.setIfInBounds_toArray, List.set_cons_zero, List.set_cons_succ] at hK
                     have HK := Lib.hid hK
                     clear hf hK
                     have c1 := hw1.at_ hc'
                     unfold Reg.One; dsimp only
                     go_wp2_with fail
                     exact HK.out _ (Reg.Ext.refl _)
                   · simp only [Act.put, Act.eval, List.setIfInBounds_toArray, List.set_cons_zero, List.set_cons_succ, Nat.reduceAdd, Array.getD_eq_getD_getElem?, List.getElem?_toArray, List.getElem?_cons_succ, List.getElem?_cons_zero, Option.getD_some]
                     rfl))
              refine Reg.TW.nil_ ?_
              intro w3 hw3 _
              go_wp2
              have HX3 := HX.out.trans hw3
              go_roundw
              case rel => exact ⟨k + 1, by omega, by go_num, by rw [HS.out], HX3⟩
              case measure => simp [intOf]; omega
            case hlen => rfl
          · have d3 : decide ((4 : Int) ≤ (s.size : Int)) = false := by simp; omega
            have he : eb = false := by
              rw [← EB.out]
              have h4' : decide (4 ≤ s.data.toList.length) = false := by rw [len_data]; simpa using h4
              unfold ends
              rw [h4']
              rfl
            subst he
            apply Reg.wp_tab Reg.Ext (by kernel_rfl) (by kernel_rfl) Reg.Ext.refl (fun _ _ _ => Reg.Ext.trans) (Reg.Ext.drew _)
            case h =>
              intro O
              repeat (first
                | (apply Reg.TW.move_ Reg.Ext.refl _ rfl rfl
                   · simp only [Act.put, Act.eval, List.setIfInBounds_toArray, List.set_cons_zero, List.set_cons_succ, Nat.reduceAdd, Array.getD_eq_getD_getElem?, List.getElem?_toArray, List.getElem?_cons_succ, List.getElem?_cons_zero, Option.getD_some]
                     rfl)
                | (apply Reg.TW.assign_ Reg.Ext.refl _ rfl rfl
                   · simp only [Act.put, Act.eval, List.setIfInBounds_toArray, List.set_cons_zero, List.set_cons_succ, Nat.reduceAdd, Array.getD_eq_getD_getElem?, List.getElem?_toArray, List.getElem?_cons_succ, List.getElem?_cons_zero, Option.getD_some]
                     rfl)
                | (apply Reg.TW.skip_ rfl
                   · simp only [Act.put, Act.eval, List.setIfInBounds_toArray, List.set_cons_zero, List.set_cons_succ, Nat.reduceAdd, Array.getD_eq_getD_getElem?, List.getElem?_toArray, List.getElem?_cons_succ, List.getElem?_cons_zero, Option.getD_some]
                     rfl)
                | (apply Reg.TW.pure_ rfl
                   · intro w1 hw1 hf K hK
                     simp only [Act.put, List.setIfInBounds_toArray, List.set_cons_zero, List.set_cons_succ] at hK
                     have HK := Lib.hid hK
                     clear hf hK
                     have c1 := hw1.at_ hc'
                     unfold Reg.One; dsimp only
                     go_wp2_with fail
                     exact HK.out _ (Reg.Ext.refl _)
                   · simp only [Act.put, Act.eval, List.setIfInBounds_toArray, List.set_cons_zero, List.set_cons_succ, Nat.reduceAdd, Array.getD_eq_getD_getElem?, List.getElem?_toArray, List.getElem?_cons_succ, List.getElem?_cons_zero, Option.getD_some]
                     rfl))
              apply Reg.TW.call_ (c := .int .u32 (q1 : Nat)) (fun _ => True) rfl (fun _ _ _ h => h)
              · intro w1 hw1 hf K hK
                simp only [Act.put, List.setIfInBounds_toArray, List.set_cons_zero, List.set_cons_succ] at hK
                have HK := Lib.hid hK
                clear hK
                unfold Reg.One; dsimp only
                go_wp2_with fail
                refine (more_of sum s _ q1 hsum HSZ.out (HT1.out.below hw1) Q1.out).mono ?_
                rintro e w' ⟨rfl, rfl⟩
                go_wp2_with fail
                exact HK.out _ (Reg.Ext.refl _) trivial
              · simp only [Act.put, Act.eval, List.setIfInBounds_toArray, List.set_cons_zero, List.set_cons_succ, Nat.reduceAdd, Array.getD_eq_getD_getElem?, List.getElem?_toArray, List.getElem?_cons_succ, List.getElem?_cons_zero, Option.getD_some]
                rfl
              repeat (first
                | (apply Reg.TW.move_ Reg.Ext.refl _ rfl rfl
                   · simp only [Act.put, Act.eval, List.setIfInBounds_toArray, List.set_cons_zero, List.set_cons_succ, Nat.reduceAdd, Array.getD_eq_getD_getElem?, List.getElem?_toArray, List.getElem?_cons_succ, List.getElem?_cons_zero, Option.getD_some]
                     rfl)
                | (apply Reg.TW.assign_ Reg.Ext.refl _ rfl rfl
                   · simp only [Act.put, Act.eval, List.setIfInBounds_toArray, List.set_cons_zero, List.set_cons_succ, Nat.reduceAdd, Array.getD_eq_getD_getElem?, List.getElem?_toArray, List.getElem?_cons_succ, List.getElem?_cons_zero, Option.getD_some]
                     rfl)
                | (apply Reg.TW.skip_ rfl
                   · simp only [Act.put, Act.eval, List.setIfInBounds_toArray, List.set_cons_zero, List.set_cons_succ, Nat.reduceAdd, Array.getD_eq_getD_getElem?, List.getElem?_toArray, List.getElem?_cons_succ, List.getElem?_cons_zero, Option.getD_some]
                     rfl)
                | (apply Reg.TW.pure_ rfl
                   · intro w1 hw1 hf K hK
                     simp only [Act.put, List.setIfInBounds_toArray, List.set_cons_zero, List.set_cons_succ] at hK
                     have HK := Lib.hid hK
                     clear hf hK
                     have c1 := hw1.at_ hc'
                     unfold Reg.One; dsimp only
                     go_wp2_with fail
                     exact HK.out _ (Reg.Ext.refl _)
                   · simp only [Act.put, Act.eval, List.setIfInBounds_toArray, List.set_cons_zero, List.set_cons_succ, Nat.reduceAdd, Array.getD_eq_getD_getElem?, List.getElem?_toArray, List.getElem?_cons_succ, List.getElem?_cons_zero, Option.getD_some]
                     rfl))
              apply Reg.TW.call_ (c := .int .u32 (q1 : Nat)) (fun _ => True) rfl (fun _ _ _ h => h)
              · intro w1 hw1 hf K hK
                simp only [Act.put, List.setIfInBounds_toArray, List.set_cons_zero, List.set_cons_succ] at hK
                have HK := Lib.hid hK
                clear hK
                unfold Reg.One; dsimp only
                go_wp2_with fail
                refine (moreR_of sum s _ q1 hsum HSZ.out Q1.out).mono ?_
                rintro e w' ⟨rfl, rfl⟩
                go_wp2_with fail
                exact HK.out _ (Reg.Ext.refl _) trivial
              · simp only [Act.put, Act.eval, List.setIfInBounds_toArray, List.set_cons_zero, List.set_cons_succ, Nat.reduceAdd, Array.getD_eq_getD_getElem?, List.getElem?_toArray, List.getElem?_cons_succ, List.getElem?_cons_zero, Option.getD_some]
                rfl
              repeat (first
                | (apply Reg.TW.move_ Reg.Ext.refl _ rfl rfl
                   · simp only [Act.put, Act.eval, List.setIfInBounds_toArray, List.set_cons_zero, List.set_cons_succ, Nat.reduceAdd, Array.getD_eq_getD_getElem?, List.getElem?_toArray, List.getElem?_cons_succ, List.getElem?_cons_zero, Option.getD_some]
                     rfl)
                | (apply Reg.TW.assign_ Reg.Ext.refl _ rfl rfl
                   · simp only [Act.put, Act.eval, List.setIfInBounds_toArray, List.set_cons_zero, List.set_cons_succ, Nat.reduceAdd, Array.getD_eq_getD_getElem?, List.getElem?_toArray, List.getElem?_cons_succ, List.getElem?_cons_zero, Option.getD_some]
                     rfl)
                | (apply Reg.TW.skip_ rfl
                   · simp only [Act.put, Act.eval, List.setIfInBounds_toArray, List.set_cons_zero, List.set_cons_succ, Nat.reduceAdd, Array.getD_eq_getD_getElem?, List.getElem?_toArray, List.getElem?_cons_succ, List.getElem?_cons_zero, Option.getD_some]
                     rfl)
                | (apply Reg.TW.pure_ rfl
                   · intro w1 hw1 hf K hK
                     simp only [Act.put, List.setIfInBounds_toArray, List.set_cons_zero, List.set_cons_succ] at hK
                     have HK := Lib.hid hK
                     clear hf hK
                     have c1 := hw1.at_ hc'
                     unfold Reg.One; dsimp only
                     go_wp2_with fail
                     exact HK.out _ (Reg.Ext.refl _)
                   · simp only [Act.put, Act.eval, List.setIfInBounds_toArray, List.set_cons_zero, List.set_cons_succ, Nat.reduceAdd, Array.getD_eq_getD_getElem?, List.getElem?_toArray, List.getElem?_cons_succ, List.getElem?_cons_zero, Option.getD_some]
                     rfl))
              apply Reg.TW.call_ (c := .bool false) (fun _ => True) rfl (fun _ _ _ h => h)
              · intro w1 hw1 hf K hK
                simp only [Act.put, List.setIfInBounds_toArray, List.set_cons_zero, List.set_cons_succ] at hK
                have HK := Lib.hid hK
                clear hK
                unfold Reg.One; dsimp only
                go_wp2_with fail
                refine (ends_of s false _ HSZ.out (HT1.out.below hw1) EB.out).mono ?_
                rintro e w' ⟨rfl, hx⟩
                go_wp2_with fail
                exact HK.out _ hx trivial
              · simp only [Act.put, Act.eval, List.setIfInBounds_toArray, List.set_cons_zero, List.set_cons_succ, Nat.reduceAdd, Array.getD_eq_getD_getElem?, List.getElem?_toArray, List.getElem?_cons_succ, List.getElem?_cons_zero, Option.getD_some]
                rfl
              repeat (first
                | (apply Reg.TW.move_ Reg.Ext.refl _ rfl rfl
                   · simp only [Act.put, Act.eval, List.setIfInBounds_toArray, List.set_cons_zero, List.set_cons_succ, Nat.reduceAdd, Array.getD_eq_getD_getElem?, List.getElem?_toArray, List.getElem?_cons_succ, List.getElem?_cons_zero, Option.getD_some]
                     rfl)
                | (apply Reg.TW.assign_ Reg.Ext.refl _ rfl rfl
                   · simp only [Act.put, Act.eval, List.setIfInBounds_toArray, List.set_cons_zero, List.set_cons_succ, Nat.reduceAdd, Array.getD_eq_getD_getElem?, List.getElem?_toArray, List.getElem?_cons_succ, List.getElem?_cons_zero, Option.getD_some]
                     rfl)
                | (apply Reg.TW.skip_ rfl
                   · simp only [Act.put, Act.eval, List.setIfInBounds_toArray, List.set_cons_zero, List.set_cons_succ, Nat.reduceAdd, Array.getD_eq_getD_getElem?, List.getElem?_toArray, List.getElem?_cons_succ, List.getElem?_cons_zero, Option.getD_some]
                     rfl)
                | (apply Reg.TW.pure_ rfl
                   · intro w1 hw1 hf K hK
                     simp only [Act.put, List.setIfInBounds_toArray, List.set_cons_zero, List.set_cons_succ] at hK
                     have HK := Lib.hid hK
                     clear hf hK
                     have c1 := hw1.at_ hc'
                     unfold Reg.One; dsimp only
                     go_wp2_with fail
                     exact HK.out _ (Reg.Ext.refl _)
                   · simp only [Act.put, Act.eval, List.setIfInBounds_toArray, List.set_cons_zero, List.set_cons_succ, Nat.reduceAdd, Array.getD_eq_getD_getElem?, List.getElem?_toArray, List.getElem?_cons_succ, List.getElem?_cons_zero, Option.getD_some]
                     rfl))
              refine Reg.TW.nil_ ?_
              intro w3 hw3 _
              go_wp2
              have HX3 := HX.out.trans hw3
              go_roundw
              case rel => exact ⟨k + 1, by omega, by go_num, by rw [HS.out], HX3⟩
              case measure => simp [intOf]; omega
            case hlen => rfl
        · have d2 : decide ((4096 : Int) < (s.size : Int)) = true := by simp; omega
          go_wp2_with fail
          go_ret
          exact ⟨rfl, HX.out⟩
      · have hke : ofS (ss.take k) = ofS ss := by rw [List.take_of_length_le (by rw [HN.out]; omega)]
        rw [hke]
        clear hke
        have HT1 := Lib.hid (HT.out.below HX.out)
        have hlt2 := ofS_lt ss
        go_wp2_with fail
        refine (of_any A n c ss _ HN.out (maxLen_of (by omega)) (HR.out.below HX.out) HZ.out HT1.out).mono ?_
        rintro e w' ⟨rfl, rfl⟩
        go_wp2_with fail
        refine (tail_any _ _ hlt2).mono ?_
        rintro e w3 ⟨rfl, hx3⟩
        go_wp2_with fail
        refine (tailR_any _ _ hlt2).mono ?_
        rintro e w4 ⟨rfl, hx4⟩
        go_wp2_with fail
        go_ret
        exact ⟨rfl, (HX.out.trans hx3).trans hx4⟩
  · have d1 : decide ((20 : Int) < (n : Int)) = true := by simp; omega
    go_enter Tryd.func3, Tryd.ntmps3
    go_wp2_with fail
    refine (awake_any _ HT.out).mono ?_
    rintro e w1 ⟨rfl, x1⟩
    go_wp2_with fail
    go_ret
    exact ⟨rfl, x1⟩
end Crc
end Go.Proofs.YtphjephneaaohaaDoor

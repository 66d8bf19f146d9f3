/- Chapter 15, the reference: part. -/
import Derived.Test.YtdoplndijlfabaaDoorPlaceRef
import Derived.Test.YtdoplndijlfabaaDoorPlacePart
set_option linter.unusedSimpArgs false
set_option linter.unusedVariables false
set_option linter.unusedSectionVars false
namespace Go.Proofs.YtdoplndijlfabaaDoor
open Go.RowKit
namespace Pl
theorem bq (c n : UInt8) : ((c.toNat : Int) == (n.toNat : Int)) = (c == n) := by
  rw [Bool.eq_iff_iff, beq_iff_eq, beq_iff_eq]
  exact ⟨fun h => UInt8.toNat_inj.1 (by omega), fun h => by rw [h]⟩
theorem partP_rs (l : List UInt8) : partP l = if (l.dropWhile low).length = l.length then false else match l.dropWhile low with
    | [] => true
    | c :: r => if okSep c (runR c (c :: r)) = true then partP ((c :: r).drop (runR c (c :: r))) else false := by
  rw [← partRF_eq (l.length + 1) l (by omega)]
  conv => lhs; unfold partRF
  by_cases hl : (l.dropWhile low).length = l.length
  · rw [if_pos hl, if_pos hl]
  · rw [if_neg hl, if_neg hl]
    have hle := drop_le low l
    cases hr : l.dropWhile low with
    | nil => rfl
    | cons c r =>
      rw [hr] at hle hl
      simp only
      have hn1 : 1 ≤ runR c (c :: r) := by unfold runR; rw [List.takeWhile_cons]; simp
      rw [partRF_eq _ _ (by rw [List.length_drop]; simp only [List.length_cons] at *; omega)]
set_option maxRecDepth 100000 in
set_option maxHeartbeats 4000000 in
theorem partR_any (s : ByteArray) (w : World) (hs : s.size ≤ 274877906944) :
    Calls Tryd.prog 26 #[.string s] w fun e w' => e = .returned (.bool (partP s.data.toList)) ∧ Reg.Ext w w' := by
  go_enter Tryd.func26, Tryd.ntmps26
  go_wp2_with fail
  go_loopw [3, 4, 5, 6] (fun i _ _ _ wr => ∃ k : Nat, k ≤ s.size ∧ i = .int .i64 k ∧ Hid (partP s.data.toList = partP (s.data.toList.drop k)) ∧ Hid (Reg.Ext w wr)) (fun i _ _ _ _ => s.size - (intOf i).toNat)
  case atStart => exact ⟨0, Nat.zero_le _, rfl, rfl, Reg.Ext.refl w⟩
  case round =>
    obtain ⟨k, hk, rfl, HP, HX⟩ := hrel
    go_wp2_with fail
    go_loopw [3] (fun i wz => ∃ j : Nat, k ≤ j ∧ j ≤ s.size ∧ i = .int .i64 j ∧ Hid ((s.data.toList.drop k).dropWhile low = (s.data.toList.drop j).dropWhile low) ∧ wr = wz) (fun i _ => s.size - (intOf i).toNat)
    case atStart => exact ⟨k, Nat.le_refl _, hk, rfl, rfl, rfl⟩
    case round =>
      obtain ⟨j, hkj, hj, rfl, HD, rfl⟩ := hrel
      by_cases hjs : j < s.size
      · have d0 : decide ((j : Int) < (s.size : Int)) = true := by rw [decide_eq_true_iff]; omega
        have hd : s.data.toList.drop j = s[j] :: s.data.toList.drop (j + 1) := List.drop_eq_getElem_cons (by rw [len_data]; exact hjs)
        have HL := Lib.hid (low_any s[j] wr)
        cases hlw : low s[j] with
        | true =>
          rw [hlw] at HL
          have HD2 : Hid ((s.data.toList.drop k).dropWhile low = (s.data.toList.drop (j + 1)).dropWhile low) := by
            show _ = _
            rw [HD.out, hd, List.dropWhile_cons, hlw]; rfl
          clear hlw hd HD
          go_wp2_with fail
          refine HL.out.mono ?_
          rintro e w' ⟨rfl, rfl⟩
          go_wp2_with fail
          go_roundw
          case rel => exact ⟨j + 1, by omega, by omega, by go_num, HD2, trivial⟩
          case measure => simp [intOf]; omega
        | false =>
          rw [hlw] at HL
          have HD2 : Hid ((s.data.toList.drop k).dropWhile low = s[j] :: s.data.toList.drop (j + 1)) := by
            show _ = _
            rw [HD.out, hd, List.dropWhile_cons, hlw]; rfl
          clear hd HD
          go_wp2_with fail
          refine HL.out.mono ?_
          rintro e w' ⟨rfl, rfl⟩
          clear HL
          by_cases hjk : j = k
          · have HV := Lib.hid (show partP s.data.toList = false by
              rw [HP.out, partP_rs, if_pos]
              rw [HD2.out, List.length_cons, List.length_drop, List.length_drop, len_data]; omega)
            subst hjk
            clear HP HD2
            go_wp2_with fail
            go_ret
            exact ⟨by rw [HV.out]; rfl, HX.out⟩
          have dk : ((j : Int) == (k : Int)) = false := by rw [beq_eq_false_iff_ne]; omega
          have de : ((j : Int) == (s.size : Int)) = false := by rw [beq_eq_false_iff_ne]; omega
          have hlen : ¬ ((s.data.toList.drop k).dropWhile low).length = (s.data.toList.drop k).length := by
            rw [HD2.out, List.length_cons, List.length_drop, List.length_drop, len_data]; omega
          have hp := HP.out
          rw [partP_rs (s.data.toList.drop k), if_neg hlen, HD2.out] at hp
          simp only at hp
          have hdj : s.data.toList.drop j = s[j] :: s.data.toList.drop (j + 1) := List.drop_eq_getElem_cons (by rw [len_data]; exact hjs)
          rw [← hdj] at hp
          have HP2 := Lib.hid hp
          have HLW := Lib.hid hlw
          clear hp hdj hlen HP HD2 d0 hlw
          go_wp2_with fail
          go_loopw [3] (fun i wz => ∃ m : Nat, j ≤ m ∧ m ≤ s.size ∧ i = .int .i64 m ∧ Hid (runR s[j] (s.data.toList.drop j) = m - j + runR s[j] (s.data.toList.drop m)) ∧ (j = m ∨ s[j] ≠ 47) ∧ Hid (Reg.Ext w wz)) (fun i _ => s.size - (intOf i).toNat)
          case atStart => exact ⟨j, Nat.le_refl _, hj, rfl, Lib.hid (by simp), .inl rfl, HX⟩
          case round =>
            obtain ⟨m, hjm, hm, rfl, HR, hc, HXm⟩ := hrel
            by_cases hms : m < s.size
            · have d0 : decide ((m : Int) < (s.size : Int)) = true := by rw [decide_eq_true_iff]; omega
              have hdm : s.data.toList.drop m = s[m] :: s.data.toList.drop (m + 1) := List.drop_eq_getElem_cons (by rw [len_data]; exact hms)
              by_cases hx : s[m] = s[j]
              · have dx : ((s[m].toNat : Int) == (s[j].toNat : Int)) = true := by rw [hx]; exact beq_self_eq_true _
                by_cases h47 : s[j] = 47
                · have d47 : ((s[j].toNat : Int) != 47) = false := by rw [h47]; rfl
                  have HE : Hid (partP s.data.toList = if okSep s[j] (m - j) = true then partP (s.data.toList.drop m) else false) := by
                    show _ = _
                    rw [HP2.out, h47]; rfl
                  clear hdm hx h47 HR hc HP2 HLW
                  go_wp2_with fail
                  apply Reg.wp_tab Reg.Ext (by kernel_rfl) (by kernel_rfl) Reg.Ext.refl (fun _ _ _ => Reg.Ext.trans) (Reg.Ext.drew _)
                  case' h =>
                    intro O
                    repeat (first
                      | (apply Reg.TW.move_ Reg.Ext.refl _ rfl rfl
                         · simp only [Act.put, Act.eval, List.setIfInBounds_toArray, List.set_cons_zero, List.set_cons_succ, Nat.reduceAdd, Array.getD_eq_getD_getElem?, List.getElem?_toArray, List.getElem?_cons_succ, List.getElem?_cons_zero, Option.getD_some]
                           rfl)
                      | (apply Reg.TW.assign_ Reg.Ext.refl _ rfl rfl
                         · simp only [Act.put, Act.eval, List.setIfInBounds_toArray, List.set_cons_zero, List.set_cons_succ, Nat.reduceAdd, Array.getD_eq_getD_getElem?, List.getElem?_toArray, List.getElem?_cons_succ, List.getElem?_cons_zero, Option.getD_some]
                           rfl)
                      | (apply Reg.TW.skip_ rfl
                         · simp only [Act.put, Act.eval, List.setIfInBounds_toArray, List.set_cons_zero, List.set_cons_succ, Nat.reduceAdd, Array.getD_eq_getD_getElem?, List.getElem?_toArray, List.getElem?_cons_succ, List.getElem?_cons_zero, Option.getD_some]
                           rfl)
                      | (apply Reg.TW.pure_ rfl
                         · intro w1 hw1 hf K hK
                           simp only [Act.put, List.setIfInBounds_toArray, List.set_cons_zero, List.set_cons_succ] at hK
                           have HK := Lib.hid hK
                           clear hf hK
                           skip
                           unfold Reg.One; dsimp only
                           go_wp2_with fail
                           exact HK.out _ (Reg.Ext.refl _)
                         · simp only [Act.put, Act.eval, List.setIfInBounds_toArray, List.set_cons_zero, List.set_cons_succ, Nat.reduceAdd, Array.getD_eq_getD_getElem?, List.getElem?_toArray, List.getElem?_cons_succ, List.getElem?_cons_zero, Option.getD_some]
                           rfl))
                    refine Reg.TW.nil_ ?_
                    intro wa hwa _
                    have HXA := Lib.hid (HXm.out.trans hwa)
                    clear hwa HXm
                    have hE := HE.out
                    clear HE
                    have d46 : ((s[j].toNat : Int) == 46) = (s[j] == 46) := bq s[j] 46
                    have d95 : ((s[j].toNat : Int) == 95) = (s[j] == 95) := bq s[j] 95
                    have d45 : ((s[j].toNat : Int) == 45) = (s[j] == 45) := bq s[j] 45
                    have dn1 : (((m : Int) - (j : Int)) == 1) = (m - j == 1) := by rw [Bool.eq_iff_iff, beq_iff_eq, beq_iff_eq]; omega
                    have dn2 : (((m : Int) - (j : Int)) == 2) = (m - j == 2) := by rw [Bool.eq_iff_iff, beq_iff_eq, beq_iff_eq]; omega
                    have dg1 : decide ((1 : Int) ≤ ((m : Int) - (j : Int))) = decide (1 ≤ m - j) := decide_eq_decide.2 (by omega)
                    unfold okSep at hE
                    cases c46 : s[j] == 46 with
                    | true =>
                      have c95 : (s[j] == 95) = false := by rw [show s[j] = 46 by simpa using c46]; rfl
                      have c45 : (s[j] == 45) = false := by rw [show s[j] = 46 by simpa using c46]; rfl
                      rw [c46] at d46
                      rw [c95] at d95
                      rw [c45] at d45
                      rw [c46, c95, c45] at hE
                      clear c46 c95 c45
                      cases n1 : m - j == 1 with
                      | true =>
                        rw [n1] at dn1 hE
                        clear n1
                        have HG := Lib.hid hE
                        clear hE
                        go_wp2_with fail
                        exact ⟨⟨m, hm, rfl, HG, HXA⟩, by simp only [intOf]; omega⟩
                      | false =>
                        rw [n1] at dn1 hE
                        clear n1
                        have HG := Lib.hid hE
                        clear hE
                        go_wp2_with fail
                        go_ret
                        exact ⟨by rw [HG.out]; rfl, HXA.out⟩
                    | false =>
                      rw [c46] at d46
                      cases c95 : s[j] == 95 with
                      | true =>
                        have c45 : (s[j] == 45) = false := by rw [show s[j] = 95 by simpa using c95]; rfl
                        rw [c95] at d95
                        rw [c45] at d45
                        rw [c46, c95, c45] at hE
                        clear c46 c95 c45
                        cases n1 : m - j == 1 with
                        | true =>
                          rw [n1] at dn1 hE
                          clear n1
                          have HG := Lib.hid hE
                          clear hE
                          go_wp2_with fail
                          exact ⟨⟨m, hm, rfl, HG, HXA⟩, by simp only [intOf]; omega⟩
                        | false =>
                          cases n2 : m - j == 2 with
                          | true =>
                            rw [n1] at dn1 hE
                            rw [n2] at dn2 hE
                            clear n1 n2
                            have HG := Lib.hid hE
                            clear hE
                            go_wp2_with fail
                            exact ⟨⟨m, hm, rfl, HG, HXA⟩, by simp only [intOf]; omega⟩
                          | false =>
                            rw [n1] at dn1 hE
                            rw [n2] at dn2 hE
                            clear n1 n2
                            have HG := Lib.hid hE
                            clear hE
                            go_wp2_with fail
                            go_ret
                            exact ⟨by rw [HG.out]; rfl, HXA.out⟩
                      | false =>
                        cases c45 : s[j] == 45 with
                        | true =>
                          rw [c95] at d95
                          rw [c45] at d45
                          rw [c46, c95, c45] at hE
                          clear c46 c95 c45
                          cases g1 : decide (1 ≤ m - j) with
                          | true =>
                            rw [g1] at dg1 hE
                            clear g1
                            have HG := Lib.hid hE
                            clear hE
                            go_wp2_with fail
                            exact ⟨⟨m, hm, rfl, HG, HXA⟩, by simp only [intOf]; omega⟩
                          | false =>
                            rw [g1] at dg1 hE
                            clear g1
                            have HG := Lib.hid hE
                            clear hE
                            go_wp2_with fail
                            go_ret
                            exact ⟨by rw [HG.out]; rfl, HXA.out⟩
                        | false =>
                          rw [c95] at d95
                          rw [c45] at d45
                          rw [c46, c95, c45] at hE
                          clear c46 c95 c45
                          have HG := Lib.hid hE
                          clear hE
                          go_wp2_with fail
                          go_ret
                          exact ⟨by rw [HG.out]; rfl, HXA.out⟩
                  all_goals rfl
                · have d47 : ((s[j].toNat : Int) != 47) = true := by
                    rw [bne_iff_ne]; intro e; exact h47 (UInt8.toNat_inj.1 (by show s[j].toNat = 47; omega))
                  have HR2 : Hid (runR s[j] (s.data.toList.drop j) = (m + 1) - j + runR s[j] (s.data.toList.drop (m + 1))) := by
                    show _ = _
                    rw [HR.out, hdm]
                    have : runR s[j] (s[m] :: s.data.toList.drop (m + 1)) = runR s[j] (s.data.toList.drop (m + 1)) + 1 := by
                      unfold runR
                      rw [List.takeWhile_cons, hx]; simp
                    rw [this]; omega
                  have HL : Hid (∀ w, Calls Tryd.prog 28 #[.int .u8 (s[m].toNat : Int)] w fun e w' => e = .returned (.bool false) ∧ Reg.Ext w w') := fun w => by
                    refine (low_any s[m] w).mono ?_
                    rintro e w' ⟨rfl, rfl⟩
                    rw [hx, HLW.out]
                    exact ⟨rfl, Reg.Ext.refl _⟩
                  clear hdm hx HR
                  go_wp2_with fail
                  apply Reg.wp_tab Reg.Ext (by kernel_rfl) (by kernel_rfl) Reg.Ext.refl (fun _ _ _ => Reg.Ext.trans) (Reg.Ext.drew _)
                  case' h =>
                    intro O
                    repeat (first
                      | (apply Reg.TW.move_ Reg.Ext.refl _ rfl rfl
                         · simp only [Act.put, Act.eval, List.setIfInBounds_toArray, List.set_cons_zero, List.set_cons_succ, Nat.reduceAdd, Array.getD_eq_getD_getElem?, List.getElem?_toArray, List.getElem?_cons_succ, List.getElem?_cons_zero, Option.getD_some]
                           rfl)
                      | (apply Reg.TW.assign_ Reg.Ext.refl _ rfl rfl
                         · simp only [Act.put, Act.eval, List.setIfInBounds_toArray, List.set_cons_zero, List.set_cons_succ, Nat.reduceAdd, Array.getD_eq_getD_getElem?, List.getElem?_toArray, List.getElem?_cons_succ, List.getElem?_cons_zero, Option.getD_some]
                           rfl)
                      | (apply Reg.TW.skip_ rfl
                         · simp only [Act.put, Act.eval, List.setIfInBounds_toArray, List.set_cons_zero, List.set_cons_succ, Nat.reduceAdd, Array.getD_eq_getD_getElem?, List.getElem?_toArray, List.getElem?_cons_succ, List.getElem?_cons_zero, Option.getD_some]
                           rfl)
                      | (apply Reg.TW.pure_ rfl
                         · intro w1 hw1 hf K hK
                           simp only [Act.put, List.setIfInBounds_toArray, List.set_cons_zero, List.set_cons_succ] at hK
                           have HK := Lib.hid hK
                           clear hf hK
                           skip
                           unfold Reg.One; dsimp only
                           go_wp2_with fail
                           exact HK.out _ (Reg.Ext.refl _)
                         · simp only [Act.put, Act.eval, List.setIfInBounds_toArray, List.set_cons_zero, List.set_cons_succ, Nat.reduceAdd, Array.getD_eq_getD_getElem?, List.getElem?_toArray, List.getElem?_cons_succ, List.getElem?_cons_zero, Option.getD_some]
                           rfl))
                    apply Reg.TW.call_ (c := .bool false) (fun _ => True) rfl (fun _ _ _ h => h)
                    · intro w1 hw1 hf K hK
                      simp only [Act.put, List.setIfInBounds_toArray, List.set_cons_zero, List.set_cons_succ] at hK
                      have HK := Lib.hid hK
                      clear hK
                      unfold Reg.One; dsimp only
                      skip
                      go_wp2_with fail
                      refine (HL.out _).mono ?_
                      rintro e w' ⟨rfl, hx⟩
                      go_wp2_with fail
                      exact HK.out _ hx trivial
                    · simp only [Act.put, Act.eval, List.setIfInBounds_toArray, List.set_cons_zero, List.set_cons_succ, Nat.reduceAdd, Array.getD_eq_getD_getElem?, List.getElem?_toArray, List.getElem?_cons_succ, List.getElem?_cons_zero, Option.getD_some]
                      rfl
                    repeat (first
                      | (apply Reg.TW.move_ Reg.Ext.refl _ rfl rfl
                         · simp only [Act.put, Act.eval, List.setIfInBounds_toArray, List.set_cons_zero, List.set_cons_succ, Nat.reduceAdd, Array.getD_eq_getD_getElem?, List.getElem?_toArray, List.getElem?_cons_succ, List.getElem?_cons_zero, Option.getD_some]
                           rfl)
                      | (apply Reg.TW.assign_ Reg.Ext.refl _ rfl rfl
                         · simp only [Act.put, Act.eval, List.setIfInBounds_toArray, List.set_cons_zero, List.set_cons_succ, Nat.reduceAdd, Array.getD_eq_getD_getElem?, List.getElem?_toArray, List.getElem?_cons_succ, List.getElem?_cons_zero, Option.getD_some]
                           rfl)
                      | (apply Reg.TW.skip_ rfl
                         · simp only [Act.put, Act.eval, List.setIfInBounds_toArray, List.set_cons_zero, List.set_cons_succ, Nat.reduceAdd, Array.getD_eq_getD_getElem?, List.getElem?_toArray, List.getElem?_cons_succ, List.getElem?_cons_zero, Option.getD_some]
                           rfl)
                      | (apply Reg.TW.pure_ rfl
                         · intro w1 hw1 hf K hK
                           simp only [Act.put, List.setIfInBounds_toArray, List.set_cons_zero, List.set_cons_succ] at hK
                           have HK := Lib.hid hK
                           clear hf hK
                           skip
                           unfold Reg.One; dsimp only
                           go_wp2_with fail
                           exact HK.out _ (Reg.Ext.refl _)
                         · simp only [Act.put, Act.eval, List.setIfInBounds_toArray, List.set_cons_zero, List.set_cons_succ, Nat.reduceAdd, Array.getD_eq_getD_getElem?, List.getElem?_toArray, List.getElem?_cons_succ, List.getElem?_cons_zero, Option.getD_some]
                           rfl))
                    refine Reg.TW.nil_ ?_
                    intro wa hwa _
                    have HXA := Lib.hid (HXm.out.trans hwa)
                    clear hwa HXm
                    go_wp2_with fail
                    exact ⟨⟨m + 1, by omega, by omega, by go_num, HR2, .inr h47, HXA⟩, by simp only [intOf]; omega⟩
                  all_goals rfl
              · have dx : ((s[m].toNat : Int) == (s[j].toNat : Int)) = false := by
                  rw [beq_eq_false_iff_ne]; intro e; exact hx (UInt8.toNat_inj.1 (by omega))
                have hz : runR s[j] (s.data.toList.drop m) = 0 := by
                  rw [hdm]; unfold runR
                  rw [List.takeWhile_cons, show (s[m] == s[j]) = false by rw [beq_eq_false_iff_ne]; exact hx]; rfl
                have HE : Hid (partP s.data.toList = if okSep s[j] (m - j) = true then partP (s.data.toList.drop m) else false) := by
                  have h1 := HP2.out
                  rw [HR.out, hz, Nat.add_zero, List.drop_drop, show j + (m - j) = m by omega] at h1
                  exact h1
                clear hz hdm hx HR hc HP2 HLW
                go_wp2_with fail
                apply Reg.wp_tab Reg.Ext (by kernel_rfl) (by kernel_rfl) Reg.Ext.refl (fun _ _ _ => Reg.Ext.trans) (Reg.Ext.drew _)
                case' h =>
                  intro O
                  repeat (first
                    | (apply Reg.TW.move_ Reg.Ext.refl _ rfl rfl
                       · simp only [Act.put, Act.eval, List.setIfInBounds_toArray, List.set_cons_zero, List.set_cons_succ, Nat.reduceAdd, Array.getD_eq_getD_getElem?, List.getElem?_toArray, List.getElem?_cons_succ, List.getElem?_cons_zero, Option.getD_some]
                         rfl)
                    | (apply Reg.TW.assign_ Reg.Ext.refl _ rfl rfl
                       · simp only [Act.put, Act.eval, List.setIfInBounds_toArray, List.set_cons_zero, List.set_cons_succ, Nat.reduceAdd, Array.getD_eq_getD_getElem?, List.getElem?_toArray, List.getElem?_cons_succ, List.getElem?_cons_zero, Option.getD_some]
                         rfl)
                    | (apply Reg.TW.skip_ rfl
                       · simp only [Act.put, Act.eval, List.setIfInBounds_toArray, List.set_cons_zero, List.set_cons_succ, Nat.reduceAdd, Array.getD_eq_getD_getElem?, List.getElem?_toArray, List.getElem?_cons_succ, List.getElem?_cons_zero, Option.getD_some]
                         rfl)
                    | (apply Reg.TW.pure_ rfl
                       · intro w1 hw1 hf K hK
                         simp only [Act.put, List.setIfInBounds_toArray, List.set_cons_zero, List.set_cons_succ] at hK
                         have HK := Lib.hid hK
                         clear hf hK
                         skip
                         unfold Reg.One; dsimp only
                         go_wp2_with fail
                         exact HK.out _ (Reg.Ext.refl _)
                       · simp only [Act.put, Act.eval, List.setIfInBounds_toArray, List.set_cons_zero, List.set_cons_succ, Nat.reduceAdd, Array.getD_eq_getD_getElem?, List.getElem?_toArray, List.getElem?_cons_succ, List.getElem?_cons_zero, Option.getD_some]
                         rfl))
                  refine Reg.TW.nil_ ?_
                  intro wa hwa _
                  have HXA := Lib.hid (HXm.out.trans hwa)
                  clear hwa HXm
                  have hE := HE.out
                  clear HE
                  have d46 : ((s[j].toNat : Int) == 46) = (s[j] == 46) := bq s[j] 46
                  have d95 : ((s[j].toNat : Int) == 95) = (s[j] == 95) := bq s[j] 95
                  have d45 : ((s[j].toNat : Int) == 45) = (s[j] == 45) := bq s[j] 45
                  have dn1 : (((m : Int) - (j : Int)) == 1) = (m - j == 1) := by rw [Bool.eq_iff_iff, beq_iff_eq, beq_iff_eq]; omega
                  have dn2 : (((m : Int) - (j : Int)) == 2) = (m - j == 2) := by rw [Bool.eq_iff_iff, beq_iff_eq, beq_iff_eq]; omega
                  have dg1 : decide ((1 : Int) ≤ ((m : Int) - (j : Int))) = decide (1 ≤ m - j) := decide_eq_decide.2 (by omega)
                  unfold okSep at hE
                  cases c46 : s[j] == 46 with
                  | true =>
                    have c95 : (s[j] == 95) = false := by rw [show s[j] = 46 by simpa using c46]; rfl
                    have c45 : (s[j] == 45) = false := by rw [show s[j] = 46 by simpa using c46]; rfl
                    rw [c46] at d46
                    rw [c95] at d95
                    rw [c45] at d45
                    rw [c46, c95, c45] at hE
                    clear c46 c95 c45
                    cases n1 : m - j == 1 with
                    | true =>
                      rw [n1] at dn1 hE
                      clear n1
                      have HG := Lib.hid hE
                      clear hE
                      go_wp2_with fail
                      exact ⟨⟨m, hm, rfl, HG, HXA⟩, by simp only [intOf]; omega⟩
                    | false =>
                      rw [n1] at dn1 hE
                      clear n1
                      have HG := Lib.hid hE
                      clear hE
                      go_wp2_with fail
                      go_ret
                      exact ⟨by rw [HG.out]; rfl, HXA.out⟩
                  | false =>
                    rw [c46] at d46
                    cases c95 : s[j] == 95 with
                    | true =>
                      have c45 : (s[j] == 45) = false := by rw [show s[j] = 95 by simpa using c95]; rfl
                      rw [c95] at d95
                      rw [c45] at d45
                      rw [c46, c95, c45] at hE
                      clear c46 c95 c45
                      cases n1 : m - j == 1 with
                      | true =>
                        rw [n1] at dn1 hE
                        clear n1
                        have HG := Lib.hid hE
                        clear hE
                        go_wp2_with fail
                        exact ⟨⟨m, hm, rfl, HG, HXA⟩, by simp only [intOf]; omega⟩
                      | false =>
                        cases n2 : m - j == 2 with
                        | true =>
                          rw [n1] at dn1 hE
                          rw [n2] at dn2 hE
                          clear n1 n2
                          have HG := Lib.hid hE
                          clear hE
                          go_wp2_with fail
                          exact ⟨⟨m, hm, rfl, HG, HXA⟩, by simp only [intOf]; omega⟩
                        | false =>
                          rw [n1] at dn1 hE
                          rw [n2] at dn2 hE
                          clear n1 n2
                          have HG := Lib.hid hE
                          clear hE
                          go_wp2_with fail
                          go_ret
                          exact ⟨by rw [HG.out]; rfl, HXA.out⟩
                    | false =>
                      cases c45 : s[j] == 45 with
                      | true =>
                        rw [c95] at d95
                        rw [c45] at d45
                        rw [c46, c95, c45] at hE
                        clear c46 c95 c45
                        cases g1 : decide (1 ≤ m - j) with
                        | true =>
                          rw [g1] at dg1 hE
                          clear g1
                          have HG := Lib.hid hE
                          clear hE
                          go_wp2_with fail
                          exact ⟨⟨m, hm, rfl, HG, HXA⟩, by simp only [intOf]; omega⟩
                        | false =>
                          rw [g1] at dg1 hE
                          clear g1
                          have HG := Lib.hid hE
                          clear hE
                          go_wp2_with fail
                          go_ret
                          exact ⟨by rw [HG.out]; rfl, HXA.out⟩
                      | false =>
                        rw [c95] at d95
                        rw [c45] at d45
                        rw [c46, c95, c45] at hE
                        clear c46 c95 c45
                        have HG := Lib.hid hE
                        clear hE
                        go_wp2_with fail
                        go_ret
                        exact ⟨by rw [HG.out]; rfl, HXA.out⟩
                all_goals rfl
            · have d0 : decide ((m : Int) < (s.size : Int)) = false := by rw [decide_eq_false_iff_not]; omega
              have hz : runR s[j] (s.data.toList.drop m) = 0 := by
                rw [List.drop_of_length_le (by rw [len_data]; omega)]; rfl
              have HE : Hid (partP s.data.toList = if okSep s[j] (m - j) = true then partP (s.data.toList.drop m) else false) := by
                have h1 := HP2.out
                rw [HR.out, hz, Nat.add_zero, List.drop_drop, show j + (m - j) = m by omega] at h1
                exact h1
              clear hz HR hc HP2 HLW
              go_wp2_with fail
              apply Reg.wp_tab Reg.Ext (by kernel_rfl) (by kernel_rfl) Reg.Ext.refl (fun _ _ _ => Reg.Ext.trans) (Reg.Ext.drew _)
              case' h =>
                intro O
                repeat (first
                  | (apply Reg.TW.move_ Reg.Ext.refl _ rfl rfl
                     · simp only [Act.put, Act.eval, List.setIfInBounds_toArray, List.set_cons_zero, List.set_cons_succ, Nat.reduceAdd, Array.getD_eq_getD_getElem?, List.getElem?_toArray, List.getElem?_cons_succ, List.getElem?_cons_zero, Option.getD_some]
                       rfl)
                  | (apply Reg.TW.assign_ Reg.Ext.refl _ rfl rfl
                     · simp only [Act.put, Act.eval, List.setIfInBounds_toArray, List.set_cons_zero, List.set_cons_succ, Nat.reduceAdd, Array.getD_eq_getD_getElem?, List.getElem?_toArray, List.getElem?_cons_succ, List.getElem?_cons_zero, Option.getD_some]
                       rfl)
                  | (apply Reg.TW.skip_ rfl
                     · simp only [Act.put, Act.eval, List.setIfInBounds_toArray, List.set_cons_zero, List.set_cons_succ, Nat.reduceAdd, Array.getD_eq_getD_getElem?, List.getElem?_toArray, List.getElem?_cons_succ, List.getElem?_cons_zero, Option.getD_some]
                       rfl)
                  | (apply Reg.TW.pure_ rfl
                     · intro w1 hw1 hf K hK
                       simp only [Act.put, List.setIfInBounds_toArray, List.set_cons_zero, List.set_cons_succ] at hK
                       have HK := Lib.hid hK
                       clear hf hK
                       skip
                       unfold Reg.One; dsimp only
                       go_wp2_with fail
                       exact HK.out _ (Reg.Ext.refl _)
                     · simp only [Act.put, Act.eval, List.setIfInBounds_toArray, List.set_cons_zero, List.set_cons_succ, Nat.reduceAdd, Array.getD_eq_getD_getElem?, List.getElem?_toArray, List.getElem?_cons_succ, List.getElem?_cons_zero, Option.getD_some]
                       rfl))
                refine Reg.TW.nil_ ?_
                intro wa hwa _
                have HXA := Lib.hid (HXm.out.trans hwa)
                clear hwa HXm
                have hE := HE.out
                clear HE
                have d46 : ((s[j].toNat : Int) == 46) = (s[j] == 46) := bq s[j] 46
                have d95 : ((s[j].toNat : Int) == 95) = (s[j] == 95) := bq s[j] 95
                have d45 : ((s[j].toNat : Int) == 45) = (s[j] == 45) := bq s[j] 45
                have dn1 : (((m : Int) - (j : Int)) == 1) = (m - j == 1) := by rw [Bool.eq_iff_iff, beq_iff_eq, beq_iff_eq]; omega
                have dn2 : (((m : Int) - (j : Int)) == 2) = (m - j == 2) := by rw [Bool.eq_iff_iff, beq_iff_eq, beq_iff_eq]; omega
                have dg1 : decide ((1 : Int) ≤ ((m : Int) - (j : Int))) = decide (1 ≤ m - j) := decide_eq_decide.2 (by omega)
                unfold okSep at hE
                cases c46 : s[j] == 46 with
                | true =>
                  have c95 : (s[j] == 95) = false := by rw [show s[j] = 46 by simpa using c46]; rfl
                  have c45 : (s[j] == 45) = false := by rw [show s[j] = 46 by simpa using c46]; rfl
                  rw [c46] at d46
                  rw [c95] at d95
                  rw [c45] at d45
                  rw [c46, c95, c45] at hE
                  clear c46 c95 c45
                  cases n1 : m - j == 1 with
                  | true =>
                    rw [n1] at dn1 hE
                    clear n1
                    have HG := Lib.hid hE
                    clear hE
                    go_wp2_with fail
                    exact ⟨⟨m, hm, rfl, HG, HXA⟩, by simp only [intOf]; omega⟩
                  | false =>
                    rw [n1] at dn1 hE
                    clear n1
                    have HG := Lib.hid hE
                    clear hE
                    go_wp2_with fail
                    go_ret
                    exact ⟨by rw [HG.out]; rfl, HXA.out⟩
                | false =>
                  rw [c46] at d46
                  cases c95 : s[j] == 95 with
                  | true =>
                    have c45 : (s[j] == 45) = false := by rw [show s[j] = 95 by simpa using c95]; rfl
                    rw [c95] at d95
                    rw [c45] at d45
                    rw [c46, c95, c45] at hE
                    clear c46 c95 c45
                    cases n1 : m - j == 1 with
                    | true =>
                      rw [n1] at dn1 hE
                      clear n1
                      have HG := Lib.hid hE
                      clear hE
                      go_wp2_with fail
                      exact ⟨⟨m, hm, rfl, HG, HXA⟩, by simp only [intOf]; omega⟩
                    | false =>
                      cases n2 : m - j == 2 with
                      | true =>
                        rw [n1] at dn1 hE
                        rw [n2] at dn2 hE
                        clear n1 n2
                        have HG := Lib.hid hE
                        clear hE
                        go_wp2_with fail
                        exact ⟨⟨m, hm, rfl, HG, HXA⟩, by simp only [intOf]; omega⟩
                      | false =>
                        rw [n1] at dn1 hE
                        rw [n2] at dn2 hE
                        clear n1 n2
                        have HG := Lib.hid hE
                        clear hE
                        go_wp2_with fail
                        go_ret
                        exact ⟨by rw [HG.out]; rfl, HXA.out⟩
                  | false =>
                    cases c45 : s[j] == 45 with
                    | true =>
                      rw [c95] at d95
                      rw [c45] at d45
                      rw [c46, c95, c45] at hE
                      clear c46 c95 c45
                      cases g1 : decide (1 ≤ m - j) with
                      | true =>
                        rw [g1] at dg1 hE
                        clear g1
                        have HG := Lib.hid hE
                        clear hE
                        go_wp2_with fail
                        exact ⟨⟨m, hm, rfl, HG, HXA⟩, by simp only [intOf]; omega⟩
                      | false =>
                        rw [g1] at dg1 hE
                        clear g1
                        have HG := Lib.hid hE
                        clear hE
                        go_wp2_with fail
                        go_ret
                        exact ⟨by rw [HG.out]; rfl, HXA.out⟩
                    | false =>
                      rw [c95] at d95
                      rw [c45] at d45
                      rw [c46, c95, c45] at hE
                      clear c46 c95 c45
                      have HG := Lib.hid hE
                      clear hE
                      go_wp2_with fail
                      go_ret
                      exact ⟨by rw [HG.out]; rfl, HXA.out⟩
              all_goals rfl
      · have d0 : decide ((j : Int) < (s.size : Int)) = false := by rw [decide_eq_false_iff_not]; omega
        have hje : j = s.size := by omega
        subst hje
        have HD2 : Hid ((s.data.toList.drop k).dropWhile low = []) := by
          show _ = _
          rw [HD.out, List.drop_of_length_le (by rw [len_data]; exact Nat.le_refl _)]; rfl
        clear HD
        by_cases hkk : k = s.size
        · have HV := Lib.hid (show partP s.data.toList = false by
            rw [HP.out, hkk, List.drop_of_length_le (by rw [len_data]; exact Nat.le_refl _)]; rfl)
          subst hkk
          clear HP HD2
          go_wp2_with fail
          go_ret
          exact ⟨by rw [HV.out]; rfl, HX.out⟩
        · have dk : ((s.size : Int) == (k : Int)) = false := by rw [beq_eq_false_iff_ne]; omega
          have HV := Lib.hid (show partP s.data.toList = true by
            rw [HP.out, partP_rs, HD2.out, if_neg (by rw [List.length_drop, len_data, List.length_nil]; omega)])
          clear HP HD2
          go_wp2_with fail
          go_ret
          exact ⟨by rw [HV.out]; rfl, HX.out⟩
end Pl
end Go.Proofs.YtdoplndijlfabaaDoor

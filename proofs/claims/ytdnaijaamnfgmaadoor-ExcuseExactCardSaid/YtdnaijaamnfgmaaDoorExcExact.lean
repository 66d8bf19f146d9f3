/- ExcuseExact: the walk. -/
import Derived.Test.YtdnaijaamnfgmaaDoorExcAwake
set_option linter.unusedSimpArgs false
set_option linter.unusedVariables false
set_option linter.unusedSectionVars false
namespace Go.Proofs.YtdnaijaamnfgmaaDoor
open Go.RowKit
namespace Exc
open ExcP HexP
theorem ofV_three (l : List UInt8) : ∃ (X Y : ByteArray) (z : Int), ofV l = .tuple #[.string X, .string Y, .int .i64 z] ∧ 0 ≤ z ∧ z ≤ 3 := by
  unfold ofV
  cases ofP l with
  | none => exact ⟨_, _, _, rfl, by omega, by omega⟩
  | some p => exact ⟨_, _, _, rfl, by omega, by omega⟩
theorem box2 (w : World) (a b : Int) : (w.alloc (.cells #[.int .i64 a, .int .i64 b] 22)).cell? ⟨w.heap.size, 0, none⟩ = some (.int .i64 a) ∧ (w.alloc (.cells #[.int .i64 a, .int .i64 b] 22)).cell? ⟨w.heap.size, 1, none⟩ = some (.int .i64 b) := by
  have := Blk.new w 22 #[.int .i64 a, .int .i64 b]
  exact ⟨this.cell 0, this.cell 1⟩
theorem unq_read (a : List UInt8) : (∃ (U : ByteArray) (K : Nat), unqV a = .tuple #[.string ⟨#[]⟩, .int .i64 3] ∧ readRV a = .tuple #[.string U, .int .i64 (K : Int)] ∧ (K = 0 ∨ K ≠ a.length) ∧ K ≤ a.length) ∨
    (∃ T : ByteArray, unqV a = .tuple #[.string T, .int .i64 0] ∧ readRV a = .tuple #[.string T, .int .i64 (a.length : Int)] ∧ 0 < a.length) := by
  have hle := readR_le a
  cases hr : readP a with
  | none =>
    refine .inl ⟨⟨#[]⟩, 0, ?_, readRV_none hr, .inl rfl, Nat.zero_le _⟩
    unfold unqV unquoteP; rw [hr]
  | some p =>
    obtain ⟨t, q⟩ := p
    have hs := readP_spec hr
    have hp := quote_pos t
    have hl := congrArg List.length hs
    rw [List.length_append] at hl
    cases q with
    | nil =>
      refine .inr ⟨⟨t.toArray⟩, ?_, ?_, by omega⟩
      · unfold unqV unquoteP; rw [hr]
      · rw [readRV_some hr]; simp
    | cons c q =>
      refine .inl ⟨⟨t.toArray⟩, a.length - (c :: q).length, ?_, readRV_some hr, .inr ?_, by omega⟩
      · unfold unqV unquoteP; rw [hr]
      · simp at hl ⊢; omega
set_option maxRecDepth 100000 in
set_option maxHeartbeats 8000000 in
theorem exact_law (a b : ByteArray) (n0 n1 : Int) (w : World) (ha : a.size ≤ maxLen) (hb : b.size ≤ maxLen) (ht : Hex.Tab10 w) :
    Calls Tryd.prog 3 #[.string a, .string b, .agg #[.int .i64 n0, .int .i64 n1]] w fun e w' => e = .returned (.bool true) ∧ Reg.Ext w w' := by
  unfold maxLen at ha hb
  have HT := Lib.hid ht
  clear ht
  obtain ⟨bx0, bx1⟩ := box2 w n0 n1
  have hx0 := Reg.Ext.alloc w (.cells #[.int .i64 n0, .int .i64 n1] 22)
  go_enter Tryd.func3, Tryd.ntmps3
  go_wp2_with fail
  generalize w.alloc (.cells #[.int .i64 n0, .int .i64 n1] 22) = w0 at *
  generalize w.heap.size = g at bx0 bx1 ⊢
  have HX0 := Lib.hid hx0
  have BX : Hid (∀ w1, Reg.Ext w0 w1 → w1.cell? ⟨g, 0, none⟩ = some (.int .i64 n0) ∧ w1.cell? ⟨g, 1, none⟩ = some (.int .i64 n1)) := fun w1 h => ⟨h.at_ bx0, h.at_ bx1⟩
  clear hx0 bx0 bx1
  refine (awake_any w0 (HT.out.ext HX0.out)).mono ?_
  rintro e w1 ⟨rfl, x1⟩
  have Y1 := Lib.hid x1
  clear x1
  by_cases hal : 1024 < a.size
  · have d1 : decide ((1024 : Int) < (a.size : Int)) = true := by rw [decide_eq_true_iff]; omega
    go_wp2_with fail
    go_ret
    exact ⟨rfl, HX0.out.trans Y1.out⟩
  have d1 : decide ((1024 : Int) < (a.size : Int)) = false := by rw [decide_eq_false_iff_not]; omega
  by_cases hbl : 1024 < b.size
  · have d2 : decide ((1024 : Int) < (b.size : Int)) = true := by rw [decide_eq_true_iff]; omega
    go_wp2_with fail
    go_ret
    exact ⟨rfl, HX0.out.trans Y1.out⟩
  have d2 : decide ((1024 : Int) < (b.size : Int)) = false := by rw [decide_eq_false_iff_not]; omega
  go_wp2_with fail
  refine (unquote_any a w1 (by omega)).mono ?_
  rintro e w2 ⟨rfl, x2⟩
  have Y2 := Lib.hid (Y1.out.trans x2)
  clear x2 Y1
  rcases unq_read a.data.toList with ⟨U, K, h1, h2, hK, hKl⟩ | ⟨T, h1, h2, hpos⟩
  · rw [h1]
    have H2 := Lib.hid h2
    clear h1 h2
    go_wp2_with fail
    refine (readR_any a w2 (by omega)).mono ?_
    rintro e w3 ⟨rfl, x3⟩
    have Y3 := Lib.hid (Y2.out.trans x3)
    clear x3 Y2
    rw [H2.out]
    clear H2
    rw [len_data] at hK hKl
    by_cases hk0 : K = a.size
    · have hk1 : K = 0 := by
        rcases hK with h | h
        · exact h
        · exact absurd hk0 h
      have d3 : ((K : Int) != (a.size : Int)) = false := by rw [bne_eq_false_iff_eq]; omega
      have d4 : ((K : Int) == 0) = true := by rw [beq_iff_eq]; omega
      clear hK hk1 hk0
      go_wp2_with fail
      refine (of_any a w3 (by omega)).mono ?_
      rintro e w4 ⟨rfl, x4⟩
      have Y4 := Lib.hid (Y3.out.trans x4)
      clear x4 Y3
      obtain ⟨X, Y, z, hz, hz0, hz3⟩ := ofV_three a.data.toList
      rw [hz]
      have HZ := Lib.hid hz
      clear hz
      go_wp2_with fail
      refine (ofR_any a w4 (by omega)).mono ?_
      rintro e w5 ⟨rfl, x5⟩
      rw [HZ.out]
      have Y5 := Lib.hid (Y4.out.trans x5)
      clear x5 Y4 HZ
      obtain ⟨p0, p1⟩ := BX.out w5 Y5.out
      go_wp2_with fail
      refine (page_any n0 n1 b w5 (by omega) (HT.out.ext (HX0.out.trans Y5.out))).mono ?_
      rintro e w6 ⟨g1, cap1, rfl, hrd1, x6⟩
      have R1 := Lib.hid hrd1
      have Y6 := Lib.hid (Y5.out.trans x6)
      clear x6 hrd1 p0 p1
      obtain ⟨p0, p1⟩ := BX.out w6 Y6.out
      go_wp2_with fail
      refine (pageR_any n0 n1 b w6 (by omega)).mono ?_
      rintro e w7 ⟨g2, cap2, rfl, hrd2, x7⟩
      have R2 := Lib.hid hrd2
      have R3 := Lib.hid (R1.out.ext x7)
      have Y7 := Lib.hid (Y6.out.trans x7)
      clear x7 hrd2 p0 p1 Y5 Y6 R1
      have hfl : (pageF n0 n1 b).length ≤ 1000 := by
        unfold pageF
        split <;> simp
      generalize pageF n0 n1 b = F at *
      generalize bodyB n0 n1 b = BB at *
      have HQ1 := Lib.hid (fun w => quote_any a w (by omega))
      have HQ2 := Lib.hid (fun w => quoteR_any a w (by omega))
      have HB1 := Lib.hid (fun w => body_any a b w (by omega) (by omega))
      have HB2 := Lib.hid (fun w => bodyR_any a b w (by omega) (by omega))
      generalize (⟨(quote a.data.toList).toArray⟩ : ByteArray) = QQ at *
      generalize (⟨(bodyL a.data.toList b.data.toList).toArray⟩ : ByteArray) = BO at *
      have HC1 := Lib.hid (fun w => code_any n0 n1 w)
      have HC2 := Lib.hid (fun w => codeR_any n0 n1 w)
      generalize (⟨(codeL n0 n1).toArray⟩ : ByteArray) = CO at *
      go_wp2_with fail
      apply Reg.wp_tab Reg.Ext (by kernel_rfl) (by kernel_rfl) Reg.Ext.refl (fun _ _ _ => Reg.Ext.trans) (Reg.Ext.drew _)
      case h =>
        intro O
        repeat (first
          | (apply Reg.TW.move_ Reg.Ext.refl _ rfl rfl
             · simp only [Act.put, Act.eval, List.setIfInBounds_toArray, List.set_cons_zero, List.set_cons_succ, Nat.reduceAdd, Array.getD_eq_getD_getElem?, List.getElem?_toArray, List.getElem?_cons_succ, List.getElem?_cons_zero, Option.getD_some]
               rfl)
          | (apply Reg.TW.assign_ Reg.Ext.refl _ rfl rfl
             · simp only [Act.put, Act.eval, List.setIfInBounds_toArray, List.set_cons_zero, List.set_cons_succ, Nat.reduceAdd, Array.getD_eq_getD_getElem?, List.getElem?_toArray, List.getElem?_cons_succ, List.getElem?_cons_zero, Option.getD_some]
               rfl)
          | (apply Reg.TW.skip_ rfl
             · simp only [Act.put, Act.eval, List.setIfInBounds_toArray, List.set_cons_zero, List.set_cons_succ, Nat.reduceAdd, Array.getD_eq_getD_getElem?, List.getElem?_toArray, List.getElem?_cons_succ, List.getElem?_cons_zero, Option.getD_some]
               rfl)
          | (apply Reg.TW.pure_ rfl
             · intro w1 hw1 hf K hK
               simp only [Act.put, List.setIfInBounds_toArray, List.set_cons_zero, List.set_cons_succ] at hK
               have HK := Lib.hid hK
               clear hf hK
               unfold Reg.One; dsimp only
               go_wp2_with fail
               exact HK.out _ (Reg.Ext.refl _)
             · simp only [Act.put, Act.eval, List.setIfInBounds_toArray, List.set_cons_zero, List.set_cons_succ, Nat.reduceAdd, Array.getD_eq_getD_getElem?, List.getElem?_toArray, List.getElem?_cons_succ, List.getElem?_cons_zero, Option.getD_some]
               rfl))
        apply Reg.TW.call_ (c := .string QQ) (fun _ => True) rfl (fun _ _ _ h => h)
        · intro w1 hw1 hf K hK
          simp only [Act.put, List.setIfInBounds_toArray, List.set_cons_zero, List.set_cons_succ] at hK
          have HK := Lib.hid hK
          clear hK
          unfold Reg.One; dsimp only
          go_wp2_with fail
          refine (HQ1.out _).mono ?_
          rintro e w' ⟨rfl, hx⟩
          go_wp2_with fail
          exact HK.out _ hx trivial
        · simp only [Act.put, Act.eval, List.setIfInBounds_toArray, List.set_cons_zero, List.set_cons_succ, Nat.reduceAdd, Array.getD_eq_getD_getElem?, List.getElem?_toArray, List.getElem?_cons_succ, List.getElem?_cons_zero, Option.getD_some]
          rfl
        repeat (first
          | (apply Reg.TW.move_ Reg.Ext.refl _ rfl rfl
             · simp only [Act.put, Act.eval, List.setIfInBounds_toArray, List.set_cons_zero, List.set_cons_succ, Nat.reduceAdd, Array.getD_eq_getD_getElem?, List.getElem?_toArray, List.getElem?_cons_succ, List.getElem?_cons_zero, Option.getD_some]
               rfl)
          | (apply Reg.TW.assign_ Reg.Ext.refl _ rfl rfl
             · simp only [Act.put, Act.eval, List.setIfInBounds_toArray, List.set_cons_zero, List.set_cons_succ, Nat.reduceAdd, Array.getD_eq_getD_getElem?, List.getElem?_toArray, List.getElem?_cons_succ, List.getElem?_cons_zero, Option.getD_some]
               rfl)
          | (apply Reg.TW.skip_ rfl
             · simp only [Act.put, Act.eval, List.setIfInBounds_toArray, List.set_cons_zero, List.set_cons_succ, Nat.reduceAdd, Array.getD_eq_getD_getElem?, List.getElem?_toArray, List.getElem?_cons_succ, List.getElem?_cons_zero, Option.getD_some]
               rfl)
          | (apply Reg.TW.pure_ rfl
             · intro w1 hw1 hf K hK
               simp only [Act.put, List.setIfInBounds_toArray, List.set_cons_zero, List.set_cons_succ] at hK
               have HK := Lib.hid hK
               clear hf hK
               unfold Reg.One; dsimp only
               go_wp2_with fail
               exact HK.out _ (Reg.Ext.refl _)
             · simp only [Act.put, Act.eval, List.setIfInBounds_toArray, List.set_cons_zero, List.set_cons_succ, Nat.reduceAdd, Array.getD_eq_getD_getElem?, List.getElem?_toArray, List.getElem?_cons_succ, List.getElem?_cons_zero, Option.getD_some]
               rfl))
        apply Reg.TW.call_ (c := .string QQ) (fun _ => True) rfl (fun _ _ _ h => h)
        · intro w1 hw1 hf K hK
          simp only [Act.put, List.setIfInBounds_toArray, List.set_cons_zero, List.set_cons_succ] at hK
          have HK := Lib.hid hK
          clear hK
          unfold Reg.One; dsimp only
          go_wp2_with fail
          refine (HQ2.out _).mono ?_
          rintro e w' ⟨rfl, hx⟩
          go_wp2_with fail
          exact HK.out _ hx trivial
        · simp only [Act.put, Act.eval, List.setIfInBounds_toArray, List.set_cons_zero, List.set_cons_succ, Nat.reduceAdd, Array.getD_eq_getD_getElem?, List.getElem?_toArray, List.getElem?_cons_succ, List.getElem?_cons_zero, Option.getD_some]
          rfl
        repeat (first
          | (apply Reg.TW.move_ Reg.Ext.refl _ rfl rfl
             · simp only [Act.put, Act.eval, List.setIfInBounds_toArray, List.set_cons_zero, List.set_cons_succ, Nat.reduceAdd, Array.getD_eq_getD_getElem?, List.getElem?_toArray, List.getElem?_cons_succ, List.getElem?_cons_zero, Option.getD_some]
               rfl)
          | (apply Reg.TW.assign_ Reg.Ext.refl _ rfl rfl
             · simp only [Act.put, Act.eval, List.setIfInBounds_toArray, List.set_cons_zero, List.set_cons_succ, Nat.reduceAdd, Array.getD_eq_getD_getElem?, List.getElem?_toArray, List.getElem?_cons_succ, List.getElem?_cons_zero, Option.getD_some]
               rfl)
          | (apply Reg.TW.skip_ rfl
             · simp only [Act.put, Act.eval, List.setIfInBounds_toArray, List.set_cons_zero, List.set_cons_succ, Nat.reduceAdd, Array.getD_eq_getD_getElem?, List.getElem?_toArray, List.getElem?_cons_succ, List.getElem?_cons_zero, Option.getD_some]
               rfl)
          | (apply Reg.TW.pure_ rfl
             · intro w1 hw1 hf K hK
               simp only [Act.put, List.setIfInBounds_toArray, List.set_cons_zero, List.set_cons_succ] at hK
               have HK := Lib.hid hK
               clear hf hK
               unfold Reg.One; dsimp only
               go_wp2_with fail
               exact HK.out _ (Reg.Ext.refl _)
             · simp only [Act.put, Act.eval, List.setIfInBounds_toArray, List.set_cons_zero, List.set_cons_succ, Nat.reduceAdd, Array.getD_eq_getD_getElem?, List.getElem?_toArray, List.getElem?_cons_succ, List.getElem?_cons_zero, Option.getD_some]
               rfl))
        apply Reg.TW.call_ (c := .string BO) (fun _ => True) rfl (fun _ _ _ h => h)
        · intro w1 hw1 hf K hK
          simp only [Act.put, List.setIfInBounds_toArray, List.set_cons_zero, List.set_cons_succ] at hK
          have HK := Lib.hid hK
          clear hK
          unfold Reg.One; dsimp only
          go_wp2_with fail
          refine (HB1.out _).mono ?_
          rintro e w' ⟨rfl, hx⟩
          go_wp2_with fail
          exact HK.out _ hx trivial
        · simp only [Act.put, Act.eval, List.setIfInBounds_toArray, List.set_cons_zero, List.set_cons_succ, Nat.reduceAdd, Array.getD_eq_getD_getElem?, List.getElem?_toArray, List.getElem?_cons_succ, List.getElem?_cons_zero, Option.getD_some]
          rfl
        repeat (first
          | (apply Reg.TW.move_ Reg.Ext.refl _ rfl rfl
             · simp only [Act.put, Act.eval, List.setIfInBounds_toArray, List.set_cons_zero, List.set_cons_succ, Nat.reduceAdd, Array.getD_eq_getD_getElem?, List.getElem?_toArray, List.getElem?_cons_succ, List.getElem?_cons_zero, Option.getD_some]
               rfl)
          | (apply Reg.TW.assign_ Reg.Ext.refl _ rfl rfl
             · simp only [Act.put, Act.eval, List.setIfInBounds_toArray, List.set_cons_zero, List.set_cons_succ, Nat.reduceAdd, Array.getD_eq_getD_getElem?, List.getElem?_toArray, List.getElem?_cons_succ, List.getElem?_cons_zero, Option.getD_some]
               rfl)
          | (apply Reg.TW.skip_ rfl
             · simp only [Act.put, Act.eval, List.setIfInBounds_toArray, List.set_cons_zero, List.set_cons_succ, Nat.reduceAdd, Array.getD_eq_getD_getElem?, List.getElem?_toArray, List.getElem?_cons_succ, List.getElem?_cons_zero, Option.getD_some]
               rfl)
          | (apply Reg.TW.pure_ rfl
             · intro w1 hw1 hf K hK
               simp only [Act.put, List.setIfInBounds_toArray, List.set_cons_zero, List.set_cons_succ] at hK
               have HK := Lib.hid hK
               clear hf hK
               unfold Reg.One; dsimp only
               go_wp2_with fail
               exact HK.out _ (Reg.Ext.refl _)
             · simp only [Act.put, Act.eval, List.setIfInBounds_toArray, List.set_cons_zero, List.set_cons_succ, Nat.reduceAdd, Array.getD_eq_getD_getElem?, List.getElem?_toArray, List.getElem?_cons_succ, List.getElem?_cons_zero, Option.getD_some]
               rfl))
        apply Reg.TW.call_ (c := .string BO) (fun _ => True) rfl (fun _ _ _ h => h)
        · intro w1 hw1 hf K hK
          simp only [Act.put, List.setIfInBounds_toArray, List.set_cons_zero, List.set_cons_succ] at hK
          have HK := Lib.hid hK
          clear hK
          unfold Reg.One; dsimp only
          go_wp2_with fail
          refine (HB2.out _).mono ?_
          rintro e w' ⟨rfl, hx⟩
          go_wp2_with fail
          exact HK.out _ hx trivial
        · simp only [Act.put, Act.eval, List.setIfInBounds_toArray, List.set_cons_zero, List.set_cons_succ, Nat.reduceAdd, Array.getD_eq_getD_getElem?, List.getElem?_toArray, List.getElem?_cons_succ, List.getElem?_cons_zero, Option.getD_some]
          rfl
        repeat (first
          | (apply Reg.TW.move_ Reg.Ext.refl _ rfl rfl
             · simp only [Act.put, Act.eval, List.setIfInBounds_toArray, List.set_cons_zero, List.set_cons_succ, Nat.reduceAdd, Array.getD_eq_getD_getElem?, List.getElem?_toArray, List.getElem?_cons_succ, List.getElem?_cons_zero, Option.getD_some]
               rfl)
          | (apply Reg.TW.assign_ Reg.Ext.refl _ rfl rfl
             · simp only [Act.put, Act.eval, List.setIfInBounds_toArray, List.set_cons_zero, List.set_cons_succ, Nat.reduceAdd, Array.getD_eq_getD_getElem?, List.getElem?_toArray, List.getElem?_cons_succ, List.getElem?_cons_zero, Option.getD_some]
               rfl)
          | (apply Reg.TW.skip_ rfl
             · simp only [Act.put, Act.eval, List.setIfInBounds_toArray, List.set_cons_zero, List.set_cons_succ, Nat.reduceAdd, Array.getD_eq_getD_getElem?, List.getElem?_toArray, List.getElem?_cons_succ, List.getElem?_cons_zero, Option.getD_some]
               rfl)
          | (apply Reg.TW.pure_ rfl
             · intro w1 hw1 hf K hK
               simp only [Act.put, List.setIfInBounds_toArray, List.set_cons_zero, List.set_cons_succ] at hK
               have HK := Lib.hid hK
               clear hf hK
               obtain ⟨q0, q1⟩ := BX.out w1 (Y7.out.trans hw1)
               unfold Reg.One; dsimp only
               go_wp2_with fail
               exact HK.out _ (Reg.Ext.refl _)
             · simp only [Act.put, Act.eval, List.setIfInBounds_toArray, List.set_cons_zero, List.set_cons_succ, Nat.reduceAdd, Array.getD_eq_getD_getElem?, List.getElem?_toArray, List.getElem?_cons_succ, List.getElem?_cons_zero, Option.getD_some]
               rfl))
        apply Reg.TW.call_ (c := .string CO) (fun _ => True) rfl (fun _ _ _ h => h)
        · intro w1 hw1 hf K hK
          simp only [Act.put, List.setIfInBounds_toArray, List.set_cons_zero, List.set_cons_succ] at hK
          have HK := Lib.hid hK
          clear hK
          unfold Reg.One; dsimp only
          go_wp2_with fail
          refine (HC1.out _).mono ?_
          rintro e w' ⟨rfl, rfl⟩
          go_wp2_with fail
          exact HK.out _ (Reg.Ext.refl _) trivial
        · simp only [Act.put, Act.eval, List.setIfInBounds_toArray, List.set_cons_zero, List.set_cons_succ, Nat.reduceAdd, Array.getD_eq_getD_getElem?, List.getElem?_toArray, List.getElem?_cons_succ, List.getElem?_cons_zero, Option.getD_some]
          rfl
        repeat (first
          | (apply Reg.TW.move_ Reg.Ext.refl _ rfl rfl
             · simp only [Act.put, Act.eval, List.setIfInBounds_toArray, List.set_cons_zero, List.set_cons_succ, Nat.reduceAdd, Array.getD_eq_getD_getElem?, List.getElem?_toArray, List.getElem?_cons_succ, List.getElem?_cons_zero, Option.getD_some]
               rfl)
          | (apply Reg.TW.assign_ Reg.Ext.refl _ rfl rfl
             · simp only [Act.put, Act.eval, List.setIfInBounds_toArray, List.set_cons_zero, List.set_cons_succ, Nat.reduceAdd, Array.getD_eq_getD_getElem?, List.getElem?_toArray, List.getElem?_cons_succ, List.getElem?_cons_zero, Option.getD_some]
               rfl)
          | (apply Reg.TW.skip_ rfl
             · simp only [Act.put, Act.eval, List.setIfInBounds_toArray, List.set_cons_zero, List.set_cons_succ, Nat.reduceAdd, Array.getD_eq_getD_getElem?, List.getElem?_toArray, List.getElem?_cons_succ, List.getElem?_cons_zero, Option.getD_some]
               rfl)
          | (apply Reg.TW.pure_ rfl
             · intro w1 hw1 hf K hK
               simp only [Act.put, List.setIfInBounds_toArray, List.set_cons_zero, List.set_cons_succ] at hK
               have HK := Lib.hid hK
               clear hf hK
               obtain ⟨q0, q1⟩ := BX.out w1 (Y7.out.trans hw1)
               unfold Reg.One; dsimp only
               go_wp2_with fail
               exact HK.out _ (Reg.Ext.refl _)
             · simp only [Act.put, Act.eval, List.setIfInBounds_toArray, List.set_cons_zero, List.set_cons_succ, Nat.reduceAdd, Array.getD_eq_getD_getElem?, List.getElem?_toArray, List.getElem?_cons_succ, List.getElem?_cons_zero, Option.getD_some]
               rfl))
        apply Reg.TW.call_ (c := .string CO) (fun _ => True) rfl (fun _ _ _ h => h)
        · intro w1 hw1 hf K hK
          simp only [Act.put, List.setIfInBounds_toArray, List.set_cons_zero, List.set_cons_succ] at hK
          have HK := Lib.hid hK
          clear hK
          unfold Reg.One; dsimp only
          go_wp2_with fail
          refine (HC2.out _).mono ?_
          rintro e w' ⟨rfl, rfl⟩
          go_wp2_with fail
          exact HK.out _ (Reg.Ext.refl _) trivial
        · simp only [Act.put, Act.eval, List.setIfInBounds_toArray, List.set_cons_zero, List.set_cons_succ, Nat.reduceAdd, Array.getD_eq_getD_getElem?, List.getElem?_toArray, List.getElem?_cons_succ, List.getElem?_cons_zero, Option.getD_some]
          rfl
        repeat (first
          | (apply Reg.TW.move_ Reg.Ext.refl _ rfl rfl
             · simp only [Act.put, Act.eval, List.setIfInBounds_toArray, List.set_cons_zero, List.set_cons_succ, Nat.reduceAdd, Array.getD_eq_getD_getElem?, List.getElem?_toArray, List.getElem?_cons_succ, List.getElem?_cons_zero, Option.getD_some]
               rfl)
          | (apply Reg.TW.assign_ Reg.Ext.refl _ rfl rfl
             · simp only [Act.put, Act.eval, List.setIfInBounds_toArray, List.set_cons_zero, List.set_cons_succ, Nat.reduceAdd, Array.getD_eq_getD_getElem?, List.getElem?_toArray, List.getElem?_cons_succ, List.getElem?_cons_zero, Option.getD_some]
               rfl)
          | (apply Reg.TW.skip_ rfl
             · simp only [Act.put, Act.eval, List.setIfInBounds_toArray, List.set_cons_zero, List.set_cons_succ, Nat.reduceAdd, Array.getD_eq_getD_getElem?, List.getElem?_toArray, List.getElem?_cons_succ, List.getElem?_cons_zero, Option.getD_some]
               rfl)
          | (apply Reg.TW.pure_ rfl
             · intro w1 hw1 hf K hK
               simp only [Act.put, List.setIfInBounds_toArray, List.set_cons_zero, List.set_cons_succ] at hK
               have HK := Lib.hid hK
               clear hf hK
               unfold Reg.One; dsimp only
               go_wp2_with fail
               exact HK.out _ (Reg.Ext.refl _)
             · simp only [Act.put, Act.eval, List.setIfInBounds_toArray, List.set_cons_zero, List.set_cons_succ, Nat.reduceAdd, Array.getD_eq_getD_getElem?, List.getElem?_toArray, List.getElem?_cons_succ, List.getElem?_cons_zero, Option.getD_some]
               rfl))
        apply Reg.TW.call_ (c := .bool true) (fun _ => True) rfl (fun _ _ _ h => h)
        · intro w1 hw1 hf K hK
          simp only [Act.put, List.setIfInBounds_toArray, List.set_cons_zero, List.set_cons_succ] at hK
          have HK := Lib.hid hK
          clear hK
          unfold Reg.One; dsimp only
          go_wp2_with fail
          refine (same_eq F g1 cap1 g2 cap2 _ hfl (R3.out.ext hw1) (R2.out.ext hw1)).mono ?_
          rintro e w' ⟨rfl, hx⟩
          go_wp2_with fail
          exact HK.out _ hx trivial
        · simp only [Act.put, Act.eval, List.setIfInBounds_toArray, List.set_cons_zero, List.set_cons_succ, Nat.reduceAdd, Array.getD_eq_getD_getElem?, List.getElem?_toArray, List.getElem?_cons_succ, List.getElem?_cons_zero, Option.getD_some]
          rfl
        repeat (first
          | (apply Reg.TW.move_ Reg.Ext.refl _ rfl rfl
             · simp only [Act.put, Act.eval, List.setIfInBounds_toArray, List.set_cons_zero, List.set_cons_succ, Nat.reduceAdd, Array.getD_eq_getD_getElem?, List.getElem?_toArray, List.getElem?_cons_succ, List.getElem?_cons_zero, Option.getD_some]
               rfl)
          | (apply Reg.TW.assign_ Reg.Ext.refl _ rfl rfl
             · simp only [Act.put, Act.eval, List.setIfInBounds_toArray, List.set_cons_zero, List.set_cons_succ, Nat.reduceAdd, Array.getD_eq_getD_getElem?, List.getElem?_toArray, List.getElem?_cons_succ, List.getElem?_cons_zero, Option.getD_some]
               rfl)
          | (apply Reg.TW.skip_ rfl
             · simp only [Act.put, Act.eval, List.setIfInBounds_toArray, List.set_cons_zero, List.set_cons_succ, Nat.reduceAdd, Array.getD_eq_getD_getElem?, List.getElem?_toArray, List.getElem?_cons_succ, List.getElem?_cons_zero, Option.getD_some]
               rfl)
          | (apply Reg.TW.pure_ rfl
             · intro w1 hw1 hf K hK
               simp only [Act.put, List.setIfInBounds_toArray, List.set_cons_zero, List.set_cons_succ] at hK
               have HK := Lib.hid hK
               clear hf hK
               unfold Reg.One; dsimp only
               go_wp2_with fail
               exact HK.out _ (Reg.Ext.refl _)
             · simp only [Act.put, Act.eval, List.setIfInBounds_toArray, List.set_cons_zero, List.set_cons_succ, Nat.reduceAdd, Array.getD_eq_getD_getElem?, List.getElem?_toArray, List.getElem?_cons_succ, List.getElem?_cons_zero, Option.getD_some]
               rfl))
        refine Reg.TW.nil_ ?_
        intro w8 hw8 _
        have Y8 := Lib.hid (Y7.out.trans hw8)
        clear hw8
        go_wp2_with fail
        go_ret
        exact ⟨rfl, HX0.out.trans Y8.out⟩
      case hlen => rfl
    · have d3 : ((K : Int) != (a.size : Int)) = true := by rw [bne_iff_ne]; omega
      clear hK hk0
      go_wp2_with fail
      refine (of_any a w3 (by omega)).mono ?_
      rintro e w4 ⟨rfl, x4⟩
      have Y4 := Lib.hid (Y3.out.trans x4)
      clear x4 Y3
      obtain ⟨X, Y, z, hz, hz0, hz3⟩ := ofV_three a.data.toList
      rw [hz]
      have HZ := Lib.hid hz
      clear hz
      go_wp2_with fail
      refine (ofR_any a w4 (by omega)).mono ?_
      rintro e w5 ⟨rfl, x5⟩
      rw [HZ.out]
      have Y5 := Lib.hid (Y4.out.trans x5)
      clear x5 Y4 HZ
      obtain ⟨p0, p1⟩ := BX.out w5 Y5.out
      go_wp2_with fail
      refine (page_any n0 n1 b w5 (by omega) (HT.out.ext (HX0.out.trans Y5.out))).mono ?_
      rintro e w6 ⟨g1, cap1, rfl, hrd1, x6⟩
      have R1 := Lib.hid hrd1
      have Y6 := Lib.hid (Y5.out.trans x6)
      clear x6 hrd1 p0 p1
      obtain ⟨p0, p1⟩ := BX.out w6 Y6.out
      go_wp2_with fail
      refine (pageR_any n0 n1 b w6 (by omega)).mono ?_
      rintro e w7 ⟨g2, cap2, rfl, hrd2, x7⟩
      have R2 := Lib.hid hrd2
      have R3 := Lib.hid (R1.out.ext x7)
      have Y7 := Lib.hid (Y6.out.trans x7)
      clear x7 hrd2 p0 p1 Y5 Y6 R1
      have hfl : (pageF n0 n1 b).length ≤ 1000 := by
        unfold pageF
        split <;> simp
      generalize pageF n0 n1 b = F at *
      generalize bodyB n0 n1 b = BB at *
      have HQ1 := Lib.hid (fun w => quote_any a w (by omega))
      have HQ2 := Lib.hid (fun w => quoteR_any a w (by omega))
      have HB1 := Lib.hid (fun w => body_any a b w (by omega) (by omega))
      have HB2 := Lib.hid (fun w => bodyR_any a b w (by omega) (by omega))
      generalize (⟨(quote a.data.toList).toArray⟩ : ByteArray) = QQ at *
      generalize (⟨(bodyL a.data.toList b.data.toList).toArray⟩ : ByteArray) = BO at *
      have HC1 := Lib.hid (fun w => code_any n0 n1 w)
      have HC2 := Lib.hid (fun w => codeR_any n0 n1 w)
      generalize (⟨(codeL n0 n1).toArray⟩ : ByteArray) = CO at *
      go_wp2_with fail
      apply Reg.wp_tab Reg.Ext (by kernel_rfl) (by kernel_rfl) Reg.Ext.refl (fun _ _ _ => Reg.Ext.trans) (Reg.Ext.drew _)
      case h =>
        intro O
        repeat (first
          | (apply Reg.TW.move_ Reg.Ext.refl _ rfl rfl
             · simp only [Act.put, Act.eval, List.setIfInBounds_toArray, List.set_cons_zero, List.set_cons_succ, Nat.reduceAdd, Array.getD_eq_getD_getElem?, List.getElem?_toArray, List.getElem?_cons_succ, List.getElem?_cons_zero, Option.getD_some]
               rfl)
          | (apply Reg.TW.assign_ Reg.Ext.refl _ rfl rfl
             · simp only [Act.put, Act.eval, List.setIfInBounds_toArray, List.set_cons_zero, List.set_cons_succ, Nat.reduceAdd, Array.getD_eq_getD_getElem?, List.getElem?_toArray, List.getElem?_cons_succ, List.getElem?_cons_zero, Option.getD_some]
               rfl)
          | (apply Reg.TW.skip_ rfl
             · simp only [Act.put, Act.eval, List.setIfInBounds_toArray, List.set_cons_zero, List.set_cons_succ, Nat.reduceAdd, Array.getD_eq_getD_getElem?, List.getElem?_toArray, List.getElem?_cons_succ, List.getElem?_cons_zero, Option.getD_some]
               rfl)
          | (apply Reg.TW.pure_ rfl
             · intro w1 hw1 hf K hK
               simp only [Act.put, List.setIfInBounds_toArray, List.set_cons_zero, List.set_cons_succ] at hK
               have HK := Lib.hid hK
               clear hf hK
               unfold Reg.One; dsimp only
               go_wp2_with fail
               exact HK.out _ (Reg.Ext.refl _)
             · simp only [Act.put, Act.eval, List.setIfInBounds_toArray, List.set_cons_zero, List.set_cons_succ, Nat.reduceAdd, Array.getD_eq_getD_getElem?, List.getElem?_toArray, List.getElem?_cons_succ, List.getElem?_cons_zero, Option.getD_some]
               rfl))
        apply Reg.TW.call_ (c := .string QQ) (fun _ => True) rfl (fun _ _ _ h => h)
        · intro w1 hw1 hf K hK
          simp only [Act.put, List.setIfInBounds_toArray, List.set_cons_zero, List.set_cons_succ] at hK
          have HK := Lib.hid hK
          clear hK
          unfold Reg.One; dsimp only
          go_wp2_with fail
          refine (HQ1.out _).mono ?_
          rintro e w' ⟨rfl, hx⟩
          go_wp2_with fail
          exact HK.out _ hx trivial
        · simp only [Act.put, Act.eval, List.setIfInBounds_toArray, List.set_cons_zero, List.set_cons_succ, Nat.reduceAdd, Array.getD_eq_getD_getElem?, List.getElem?_toArray, List.getElem?_cons_succ, List.getElem?_cons_zero, Option.getD_some]
          rfl
        repeat (first
          | (apply Reg.TW.move_ Reg.Ext.refl _ rfl rfl
             · simp only [Act.put, Act.eval, List.setIfInBounds_toArray, List.set_cons_zero, List.set_cons_succ, Nat.reduceAdd, Array.getD_eq_getD_getElem?, List.getElem?_toArray, List.getElem?_cons_succ, List.getElem?_cons_zero, Option.getD_some]
               rfl)
          | (apply Reg.TW.assign_ Reg.Ext.refl _ rfl rfl
             · simp only [Act.put, Act.eval, List.setIfInBounds_toArray, List.set_cons_zero, List.set_cons_succ, Nat.reduceAdd, Array.getD_eq_getD_getElem?, List.getElem?_toArray, List.getElem?_cons_succ, List.getElem?_cons_zero, Option.getD_some]
               rfl)
          | (apply Reg.TW.skip_ rfl
             · simp only [Act.put, Act.eval, List.setIfInBounds_toArray, List.set_cons_zero, List.set_cons_succ, Nat.reduceAdd, Array.getD_eq_getD_getElem?, List.getElem?_toArray, List.getElem?_cons_succ, List.getElem?_cons_zero, Option.getD_some]
               rfl)
          | (apply Reg.TW.pure_ rfl
             · intro w1 hw1 hf K hK
               simp only [Act.put, List.setIfInBounds_toArray, List.set_cons_zero, List.set_cons_succ] at hK
               have HK := Lib.hid hK
               clear hf hK
               unfold Reg.One; dsimp only
               go_wp2_with fail
               exact HK.out _ (Reg.Ext.refl _)
             · simp only [Act.put, Act.eval, List.setIfInBounds_toArray, List.set_cons_zero, List.set_cons_succ, Nat.reduceAdd, Array.getD_eq_getD_getElem?, List.getElem?_toArray, List.getElem?_cons_succ, List.getElem?_cons_zero, Option.getD_some]
               rfl))
        apply Reg.TW.call_ (c := .string QQ) (fun _ => True) rfl (fun _ _ _ h => h)
        · intro w1 hw1 hf K hK
          simp only [Act.put, List.setIfInBounds_toArray, List.set_cons_zero, List.set_cons_succ] at hK
          have HK := Lib.hid hK
          clear hK
          unfold Reg.One; dsimp only
          go_wp2_with fail
          refine (HQ2.out _).mono ?_
          rintro e w' ⟨rfl, hx⟩
          go_wp2_with fail
          exact HK.out _ hx trivial
        · simp only [Act.put, Act.eval, List.setIfInBounds_toArray, List.set_cons_zero, List.set_cons_succ, Nat.reduceAdd, Array.getD_eq_getD_getElem?, List.getElem?_toArray, List.getElem?_cons_succ, List.getElem?_cons_zero, Option.getD_some]
          rfl
        repeat (first
          | (apply Reg.TW.move_ Reg.Ext.refl _ rfl rfl
             · simp only [Act.put, Act.eval, List.setIfInBounds_toArray, List.set_cons_zero, List.set_cons_succ, Nat.reduceAdd, Array.getD_eq_getD_getElem?, List.getElem?_toArray, List.getElem?_cons_succ, List.getElem?_cons_zero, Option.getD_some]
               rfl)
          | (apply Reg.TW.assign_ Reg.Ext.refl _ rfl rfl
             · simp only [Act.put, Act.eval, List.setIfInBounds_toArray, List.set_cons_zero, List.set_cons_succ, Nat.reduceAdd, Array.getD_eq_getD_getElem?, List.getElem?_toArray, List.getElem?_cons_succ, List.getElem?_cons_zero, Option.getD_some]
               rfl)
          | (apply Reg.TW.skip_ rfl
             · simp only [Act.put, Act.eval, List.setIfInBounds_toArray, List.set_cons_zero, List.set_cons_succ, Nat.reduceAdd, Array.getD_eq_getD_getElem?, List.getElem?_toArray, List.getElem?_cons_succ, List.getElem?_cons_zero, Option.getD_some]
               rfl)
          | (apply Reg.TW.pure_ rfl
             · intro w1 hw1 hf K hK
               simp only [Act.put, List.setIfInBounds_toArray, List.set_cons_zero, List.set_cons_succ] at hK
               have HK := Lib.hid hK
               clear hf hK
               unfold Reg.One; dsimp only
               go_wp2_with fail
               exact HK.out _ (Reg.Ext.refl _)
             · simp only [Act.put, Act.eval, List.setIfInBounds_toArray, List.set_cons_zero, List.set_cons_succ, Nat.reduceAdd, Array.getD_eq_getD_getElem?, List.getElem?_toArray, List.getElem?_cons_succ, List.getElem?_cons_zero, Option.getD_some]
               rfl))
        apply Reg.TW.call_ (c := .string BO) (fun _ => True) rfl (fun _ _ _ h => h)
        · intro w1 hw1 hf K hK
          simp only [Act.put, List.setIfInBounds_toArray, List.set_cons_zero, List.set_cons_succ] at hK
          have HK := Lib.hid hK
          clear hK
          unfold Reg.One; dsimp only
          go_wp2_with fail
          refine (HB1.out _).mono ?_
          rintro e w' ⟨rfl, hx⟩
          go_wp2_with fail
          exact HK.out _ hx trivial
        · simp only [Act.put, Act.eval, List.setIfInBounds_toArray, List.set_cons_zero, List.set_cons_succ, Nat.reduceAdd, Array.getD_eq_getD_getElem?, List.getElem?_toArray, List.getElem?_cons_succ, List.getElem?_cons_zero, Option.getD_some]
          rfl
        repeat (first
          | (apply Reg.TW.move_ Reg.Ext.refl _ rfl rfl
             · simp only [Act.put, Act.eval, List.setIfInBounds_toArray, List.set_cons_zero, List.set_cons_succ, Nat.reduceAdd, Array.getD_eq_getD_getElem?, List.getElem?_toArray, List.getElem?_cons_succ, List.getElem?_cons_zero, Option.getD_some]
               rfl)
          | (apply Reg.TW.assign_ Reg.Ext.refl _ rfl rfl
             · simp only [Act.put, Act.eval, List.setIfInBounds_toArray, List.set_cons_zero, List.set_cons_succ, Nat.reduceAdd, Array.getD_eq_getD_getElem?, List.getElem?_toArray, List.getElem?_cons_succ, List.getElem?_cons_zero, Option.getD_some]
               rfl)
          | (apply Reg.TW.skip_ rfl
             · simp only [Act.put, Act.eval, List.setIfInBounds_toArray, List.set_cons_zero, List.set_cons_succ, Nat.reduceAdd, Array.getD_eq_getD_getElem?, List.getElem?_toArray, List.getElem?_cons_succ, List.getElem?_cons_zero, Option.getD_some]
               rfl)
          | (apply Reg.TW.pure_ rfl
             · intro w1 hw1 hf K hK
               simp only [Act.put, List.setIfInBounds_toArray, List.set_cons_zero, List.set_cons_succ] at hK
               have HK := Lib.hid hK
               clear hf hK
               unfold Reg.One; dsimp only
               go_wp2_with fail
               exact HK.out _ (Reg.Ext.refl _)
             · simp only [Act.put, Act.eval, List.setIfInBounds_toArray, List.set_cons_zero, List.set_cons_succ, Nat.reduceAdd, Array.getD_eq_getD_getElem?, List.getElem?_toArray, List.getElem?_cons_succ, List.getElem?_cons_zero, Option.getD_some]
               rfl))
        apply Reg.TW.call_ (c := .string BO) (fun _ => True) rfl (fun _ _ _ h => h)
        · intro w1 hw1 hf K hK
          simp only [Act.put, List.setIfInBounds_toArray, List.set_cons_zero, List.set_cons_succ] at hK
          have HK := Lib.hid hK
          clear hK
          unfold Reg.One; dsimp only
          go_wp2_with fail
          refine (HB2.out _).mono ?_
          rintro e w' ⟨rfl, hx⟩
          go_wp2_with fail
          exact HK.out _ hx trivial
        · simp only [Act.put, Act.eval, List.setIfInBounds_toArray, List.set_cons_zero, List.set_cons_succ, Nat.reduceAdd, Array.getD_eq_getD_getElem?, List.getElem?_toArray, List.getElem?_cons_succ, List.getElem?_cons_zero, Option.getD_some]
          rfl
        repeat (first
          | (apply Reg.TW.move_ Reg.Ext.refl _ rfl rfl
             · simp only [Act.put, Act.eval, List.setIfInBounds_toArray, List.set_cons_zero, List.set_cons_succ, Nat.reduceAdd, Array.getD_eq_getD_getElem?, List.getElem?_toArray, List.getElem?_cons_succ, List.getElem?_cons_zero, Option.getD_some]
               rfl)
          | (apply Reg.TW.assign_ Reg.Ext.refl _ rfl rfl
             · simp only [Act.put, Act.eval, List.setIfInBounds_toArray, List.set_cons_zero, List.set_cons_succ, Nat.reduceAdd, Array.getD_eq_getD_getElem?, List.getElem?_toArray, List.getElem?_cons_succ, List.getElem?_cons_zero, Option.getD_some]
               rfl)
          | (apply Reg.TW.skip_ rfl
             · simp only [Act.put, Act.eval, List.setIfInBounds_toArray, List.set_cons_zero, List.set_cons_succ, Nat.reduceAdd, Array.getD_eq_getD_getElem?, List.getElem?_toArray, List.getElem?_cons_succ, List.getElem?_cons_zero, Option.getD_some]
               rfl)
          | (apply Reg.TW.pure_ rfl
             · intro w1 hw1 hf K hK
               simp only [Act.put, List.setIfInBounds_toArray, List.set_cons_zero, List.set_cons_succ] at hK
               have HK := Lib.hid hK
               clear hf hK
               obtain ⟨q0, q1⟩ := BX.out w1 (Y7.out.trans hw1)
               unfold Reg.One; dsimp only
               go_wp2_with fail
               exact HK.out _ (Reg.Ext.refl _)
             · simp only [Act.put, Act.eval, List.setIfInBounds_toArray, List.set_cons_zero, List.set_cons_succ, Nat.reduceAdd, Array.getD_eq_getD_getElem?, List.getElem?_toArray, List.getElem?_cons_succ, List.getElem?_cons_zero, Option.getD_some]
               rfl))
        apply Reg.TW.call_ (c := .string CO) (fun _ => True) rfl (fun _ _ _ h => h)
        · intro w1 hw1 hf K hK
          simp only [Act.put, List.setIfInBounds_toArray, List.set_cons_zero, List.set_cons_succ] at hK
          have HK := Lib.hid hK
          clear hK
          unfold Reg.One; dsimp only
          go_wp2_with fail
          refine (HC1.out _).mono ?_
          rintro e w' ⟨rfl, rfl⟩
          go_wp2_with fail
          exact HK.out _ (Reg.Ext.refl _) trivial
        · simp only [Act.put, Act.eval, List.setIfInBounds_toArray, List.set_cons_zero, List.set_cons_succ, Nat.reduceAdd, Array.getD_eq_getD_getElem?, List.getElem?_toArray, List.getElem?_cons_succ, List.getElem?_cons_zero, Option.getD_some]
          rfl
        repeat (first
          | (apply Reg.TW.move_ Reg.Ext.refl _ rfl rfl
             · simp only [Act.put, Act.eval, List.setIfInBounds_toArray, List.set_cons_zero, List.set_cons_succ, Nat.reduceAdd, Array.getD_eq_getD_getElem?, List.getElem?_toArray, List.getElem?_cons_succ, List.getElem?_cons_zero, Option.getD_some]
               rfl)
          | (apply Reg.TW.assign_ Reg.Ext.refl _ rfl rfl
             · simp only [Act.put, Act.eval, List.setIfInBounds_toArray, List.set_cons_zero, List.set_cons_succ, Nat.reduceAdd, Array.getD_eq_getD_getElem?, List.getElem?_toArray, List.getElem?_cons_succ, List.getElem?_cons_zero, Option.getD_some]
               rfl)
          | (apply Reg.TW.skip_ rfl
             · simp only [Act.put, Act.eval, List.setIfInBounds_toArray, List.set_cons_zero, List.set_cons_succ, Nat.reduceAdd, Array.getD_eq_getD_getElem?, List.getElem?_toArray, List.getElem?_cons_succ, List.getElem?_cons_zero, Option.getD_some]
               rfl)
          | (apply Reg.TW.pure_ rfl
             · intro w1 hw1 hf K hK
               simp only [Act.put, List.setIfInBounds_toArray, List.set_cons_zero, List.set_cons_succ] at hK
               have HK := Lib.hid hK
               clear hf hK
               obtain ⟨q0, q1⟩ := BX.out w1 (Y7.out.trans hw1)
               unfold Reg.One; dsimp only
               go_wp2_with fail
               exact HK.out _ (Reg.Ext.refl _)
             · simp only [Act.put, Act.eval, List.setIfInBounds_toArray, List.set_cons_zero, List.set_cons_succ, Nat.reduceAdd, Array.getD_eq_getD_getElem?, List.getElem?_toArray, List.getElem?_cons_succ, List.getElem?_cons_zero, Option.getD_some]
               rfl))
        apply Reg.TW.call_ (c := .string CO) (fun _ => True) rfl (fun _ _ _ h => h)
        · intro w1 hw1 hf K hK
          simp only [Act.put, List.setIfInBounds_toArray, List.set_cons_zero, List.set_cons_succ] at hK
          have HK := Lib.hid hK
          clear hK
          unfold Reg.One; dsimp only
          go_wp2_with fail
          refine (HC2.out _).mono ?_
          rintro e w' ⟨rfl, rfl⟩
          go_wp2_with fail
          exact HK.out _ (Reg.Ext.refl _) trivial
        · simp only [Act.put, Act.eval, List.setIfInBounds_toArray, List.set_cons_zero, List.set_cons_succ, Nat.reduceAdd, Array.getD_eq_getD_getElem?, List.getElem?_toArray, List.getElem?_cons_succ, List.getElem?_cons_zero, Option.getD_some]
          rfl
        repeat (first
          | (apply Reg.TW.move_ Reg.Ext.refl _ rfl rfl
             · simp only [Act.put, Act.eval, List.setIfInBounds_toArray, List.set_cons_zero, List.set_cons_succ, Nat.reduceAdd, Array.getD_eq_getD_getElem?, List.getElem?_toArray, List.getElem?_cons_succ, List.getElem?_cons_zero, Option.getD_some]
               rfl)
          | (apply Reg.TW.assign_ Reg.Ext.refl _ rfl rfl
             · simp only [Act.put, Act.eval, List.setIfInBounds_toArray, List.set_cons_zero, List.set_cons_succ, Nat.reduceAdd, Array.getD_eq_getD_getElem?, List.getElem?_toArray, List.getElem?_cons_succ, List.getElem?_cons_zero, Option.getD_some]
               rfl)
          | (apply Reg.TW.skip_ rfl
             · simp only [Act.put, Act.eval, List.setIfInBounds_toArray, List.set_cons_zero, List.set_cons_succ, Nat.reduceAdd, Array.getD_eq_getD_getElem?, List.getElem?_toArray, List.getElem?_cons_succ, List.getElem?_cons_zero, Option.getD_some]
               rfl)
          | (apply Reg.TW.pure_ rfl
             · intro w1 hw1 hf K hK
               simp only [Act.put, List.setIfInBounds_toArray, List.set_cons_zero, List.set_cons_succ] at hK
               have HK := Lib.hid hK
               clear hf hK
               unfold Reg.One; dsimp only
               go_wp2_with fail
               exact HK.out _ (Reg.Ext.refl _)
             · simp only [Act.put, Act.eval, List.setIfInBounds_toArray, List.set_cons_zero, List.set_cons_succ, Nat.reduceAdd, Array.getD_eq_getD_getElem?, List.getElem?_toArray, List.getElem?_cons_succ, List.getElem?_cons_zero, Option.getD_some]
               rfl))
        apply Reg.TW.call_ (c := .bool true) (fun _ => True) rfl (fun _ _ _ h => h)
        · intro w1 hw1 hf K hK
          simp only [Act.put, List.setIfInBounds_toArray, List.set_cons_zero, List.set_cons_succ] at hK
          have HK := Lib.hid hK
          clear hK
          unfold Reg.One; dsimp only
          go_wp2_with fail
          refine (same_eq F g1 cap1 g2 cap2 _ hfl (R3.out.ext hw1) (R2.out.ext hw1)).mono ?_
          rintro e w' ⟨rfl, hx⟩
          go_wp2_with fail
          exact HK.out _ hx trivial
        · simp only [Act.put, Act.eval, List.setIfInBounds_toArray, List.set_cons_zero, List.set_cons_succ, Nat.reduceAdd, Array.getD_eq_getD_getElem?, List.getElem?_toArray, List.getElem?_cons_succ, List.getElem?_cons_zero, Option.getD_some]
          rfl
        repeat (first
          | (apply Reg.TW.move_ Reg.Ext.refl _ rfl rfl
             · simp only [Act.put, Act.eval, List.setIfInBounds_toArray, List.set_cons_zero, List.set_cons_succ, Nat.reduceAdd, Array.getD_eq_getD_getElem?, List.getElem?_toArray, List.getElem?_cons_succ, List.getElem?_cons_zero, Option.getD_some]
               rfl)
          | (apply Reg.TW.assign_ Reg.Ext.refl _ rfl rfl
             · simp only [Act.put, Act.eval, List.setIfInBounds_toArray, List.set_cons_zero, List.set_cons_succ, Nat.reduceAdd, Array.getD_eq_getD_getElem?, List.getElem?_toArray, List.getElem?_cons_succ, List.getElem?_cons_zero, Option.getD_some]
               rfl)
          | (apply Reg.TW.skip_ rfl
             · simp only [Act.put, Act.eval, List.setIfInBounds_toArray, List.set_cons_zero, List.set_cons_succ, Nat.reduceAdd, Array.getD_eq_getD_getElem?, List.getElem?_toArray, List.getElem?_cons_succ, List.getElem?_cons_zero, Option.getD_some]
               rfl)
          | (apply Reg.TW.pure_ rfl
             · intro w1 hw1 hf K hK
               simp only [Act.put, List.setIfInBounds_toArray, List.set_cons_zero, List.set_cons_succ] at hK
               have HK := Lib.hid hK
               clear hf hK
               unfold Reg.One; dsimp only
               go_wp2_with fail
               exact HK.out _ (Reg.Ext.refl _)
             · simp only [Act.put, Act.eval, List.setIfInBounds_toArray, List.set_cons_zero, List.set_cons_succ, Nat.reduceAdd, Array.getD_eq_getD_getElem?, List.getElem?_toArray, List.getElem?_cons_succ, List.getElem?_cons_zero, Option.getD_some]
               rfl))
        refine Reg.TW.nil_ ?_
        intro w8 hw8 _
        have Y8 := Lib.hid (Y7.out.trans hw8)
        clear hw8
        go_wp2_with fail
        go_ret
        exact ⟨rfl, HX0.out.trans Y8.out⟩
      case hlen => rfl
  · rw [h1]
    have H2 := Lib.hid h2
    clear h1 h2
    go_wp2_with fail
    refine (readR_any a w2 (by omega)).mono ?_
    rintro e w3 ⟨rfl, x3⟩
    have Y3 := Lib.hid (Y2.out.trans x3)
    clear x3 Y2
    rw [H2.out, len_data]
    rw [len_data] at hpos
    clear H2
    have d4 : ((a.size : Int) == 0) = false := by rw [beq_eq_false_iff_ne]; omega
    go_wp2_with fail
    refine (of_any a w3 (by omega)).mono ?_
    rintro e w4 ⟨rfl, x4⟩
    have Y4 := Lib.hid (Y3.out.trans x4)
    clear x4 Y3
    obtain ⟨X, Y, z, hz, hz0, hz3⟩ := ofV_three a.data.toList
    rw [hz]
    have HZ := Lib.hid hz
    clear hz
    go_wp2_with fail
    refine (ofR_any a w4 (by omega)).mono ?_
    rintro e w5 ⟨rfl, x5⟩
    rw [HZ.out]
    have Y5 := Lib.hid (Y4.out.trans x5)
    clear x5 Y4 HZ
    obtain ⟨p0, p1⟩ := BX.out w5 Y5.out
    go_wp2_with fail
    refine (page_any n0 n1 b w5 (by omega) (HT.out.ext (HX0.out.trans Y5.out))).mono ?_
    rintro e w6 ⟨g1, cap1, rfl, hrd1, x6⟩
    have R1 := Lib.hid hrd1
    have Y6 := Lib.hid (Y5.out.trans x6)
    clear x6 hrd1 p0 p1
    obtain ⟨p0, p1⟩ := BX.out w6 Y6.out
    go_wp2_with fail
    refine (pageR_any n0 n1 b w6 (by omega)).mono ?_
    rintro e w7 ⟨g2, cap2, rfl, hrd2, x7⟩
    have R2 := Lib.hid hrd2
    have R3 := Lib.hid (R1.out.ext x7)
    have Y7 := Lib.hid (Y6.out.trans x7)
    clear x7 hrd2 p0 p1 Y5 Y6 R1
    have hfl : (pageF n0 n1 b).length ≤ 1000 := by
      unfold pageF
      split <;> simp
    generalize pageF n0 n1 b = F at *
    generalize bodyB n0 n1 b = BB at *
    have HQ1 := Lib.hid (fun w => quote_any a w (by omega))
    have HQ2 := Lib.hid (fun w => quoteR_any a w (by omega))
    have HB1 := Lib.hid (fun w => body_any a b w (by omega) (by omega))
    have HB2 := Lib.hid (fun w => bodyR_any a b w (by omega) (by omega))
    generalize (⟨(quote a.data.toList).toArray⟩ : ByteArray) = QQ at *
    generalize (⟨(bodyL a.data.toList b.data.toList).toArray⟩ : ByteArray) = BO at *
    have HC1 := Lib.hid (fun w => code_any n0 n1 w)
    have HC2 := Lib.hid (fun w => codeR_any n0 n1 w)
    generalize (⟨(codeL n0 n1).toArray⟩ : ByteArray) = CO at *
    go_wp2_with fail
    apply Reg.wp_tab Reg.Ext (by kernel_rfl) (by kernel_rfl) Reg.Ext.refl (fun _ _ _ => Reg.Ext.trans) (Reg.Ext.drew _)
    case h =>
      intro O
      repeat (first
        | (apply Reg.TW.move_ Reg.Ext.refl _ rfl rfl
           · simp only [Act.put, Act.eval, List.setIfInBounds_toArray, List.set_cons_zero, List.set_cons_succ, Nat.reduceAdd, Array.getD_eq_getD_getElem?, List.getElem?_toArray, List.getElem?_cons_succ, List.getElem?_cons_zero, Option.getD_some]
             rfl)
        | (apply Reg.TW.assign_ Reg.Ext.refl _ rfl rfl
           · simp only [Act.put, Act.eval, List.setIfInBounds_toArray, List.set_cons_zero, List.set_cons_succ, Nat.reduceAdd, Array.getD_eq_getD_getElem?, List.getElem?_toArray, List.getElem?_cons_succ, List.getElem?_cons_zero, Option.getD_some]
             rfl)
        | (apply Reg.TW.skip_ rfl
           · simp only [Act.put, Act.eval, List.setIfInBounds_toArray, List.set_cons_zero, List.set_cons_succ, Nat.reduceAdd, Array.getD_eq_getD_getElem?, List.getElem?_toArray, List.getElem?_cons_succ, List.getElem?_cons_zero, Option.getD_some]
             rfl)
        | (apply Reg.TW.pure_ rfl
           · intro w1 hw1 hf K hK
             simp only [Act.put, List.setIfInBounds_toArray, List.set_cons_zero, List.set_cons_succ] at hK
             have HK := Lib.hid hK
             clear hf hK
             unfold Reg.One; dsimp only
             go_wp2_with fail
             exact HK.out _ (Reg.Ext.refl _)
           · simp only [Act.put, Act.eval, List.setIfInBounds_toArray, List.set_cons_zero, List.set_cons_succ, Nat.reduceAdd, Array.getD_eq_getD_getElem?, List.getElem?_toArray, List.getElem?_cons_succ, List.getElem?_cons_zero, Option.getD_some]
             rfl))
      apply Reg.TW.call_ (c := .string QQ) (fun _ => True) rfl (fun _ _ _ h => h)
      · intro w1 hw1 hf K hK
        simp only [Act.put, List.setIfInBounds_toArray, List.set_cons_zero, List.set_cons_succ] at hK
        have HK := Lib.hid hK
        clear hK
        unfold Reg.One; dsimp only
        go_wp2_with fail
        refine (HQ1.out _).mono ?_
        rintro e w' ⟨rfl, hx⟩
        go_wp2_with fail
        exact HK.out _ hx trivial
      · simp only [Act.put, Act.eval, List.setIfInBounds_toArray, List.set_cons_zero, List.set_cons_succ, Nat.reduceAdd, Array.getD_eq_getD_getElem?, List.getElem?_toArray, List.getElem?_cons_succ, List.getElem?_cons_zero, Option.getD_some]
        rfl
      repeat (first
        | (apply Reg.TW.move_ Reg.Ext.refl _ rfl rfl
           · simp only [Act.put, Act.eval, List.setIfInBounds_toArray, List.set_cons_zero, List.set_cons_succ, Nat.reduceAdd, Array.getD_eq_getD_getElem?, List.getElem?_toArray, List.getElem?_cons_succ, List.getElem?_cons_zero, Option.getD_some]
             rfl)
        | (apply Reg.TW.assign_ Reg.Ext.refl _ rfl rfl
           · simp only [Act.put, Act.eval, List.setIfInBounds_toArray, List.set_cons_zero, List.set_cons_succ, Nat.reduceAdd, Array.getD_eq_getD_getElem?, List.getElem?_toArray, List.getElem?_cons_succ, List.getElem?_cons_zero, Option.getD_some]
             rfl)
        | (apply Reg.TW.skip_ rfl
           · simp only [Act.put, Act.eval, List.setIfInBounds_toArray, List.set_cons_zero, List.set_cons_succ, Nat.reduceAdd, Array.getD_eq_getD_getElem?, List.getElem?_toArray, List.getElem?_cons_succ, List.getElem?_cons_zero, Option.getD_some]
             rfl)
        | (apply Reg.TW.pure_ rfl
           · intro w1 hw1 hf K hK
             simp only [Act.put, List.setIfInBounds_toArray, List.set_cons_zero, List.set_cons_succ] at hK
             have HK := Lib.hid hK
             clear hf hK
             unfold Reg.One; dsimp only
             go_wp2_with fail
             exact HK.out _ (Reg.Ext.refl _)
           · simp only [Act.put, Act.eval, List.setIfInBounds_toArray, List.set_cons_zero, List.set_cons_succ, Nat.reduceAdd, Array.getD_eq_getD_getElem?, List.getElem?_toArray, List.getElem?_cons_succ, List.getElem?_cons_zero, Option.getD_some]
             rfl))
      apply Reg.TW.call_ (c := .string QQ) (fun _ => True) rfl (fun _ _ _ h => h)
      · intro w1 hw1 hf K hK
        simp only [Act.put, List.setIfInBounds_toArray, List.set_cons_zero, List.set_cons_succ] at hK
        have HK := Lib.hid hK
        clear hK
        unfold Reg.One; dsimp only
        go_wp2_with fail
        refine (HQ2.out _).mono ?_
        rintro e w' ⟨rfl, hx⟩
        go_wp2_with fail
        exact HK.out _ hx trivial
      · simp only [Act.put, Act.eval, List.setIfInBounds_toArray, List.set_cons_zero, List.set_cons_succ, Nat.reduceAdd, Array.getD_eq_getD_getElem?, List.getElem?_toArray, List.getElem?_cons_succ, List.getElem?_cons_zero, Option.getD_some]
        rfl
      repeat (first
        | (apply Reg.TW.move_ Reg.Ext.refl _ rfl rfl
           · simp only [Act.put, Act.eval, List.setIfInBounds_toArray, List.set_cons_zero, List.set_cons_succ, Nat.reduceAdd, Array.getD_eq_getD_getElem?, List.getElem?_toArray, List.getElem?_cons_succ, List.getElem?_cons_zero, Option.getD_some]
             rfl)
        | (apply Reg.TW.assign_ Reg.Ext.refl _ rfl rfl
           · simp only [Act.put, Act.eval, List.setIfInBounds_toArray, List.set_cons_zero, List.set_cons_succ, Nat.reduceAdd, Array.getD_eq_getD_getElem?, List.getElem?_toArray, List.getElem?_cons_succ, List.getElem?_cons_zero, Option.getD_some]
             rfl)
        | (apply Reg.TW.skip_ rfl
           · simp only [Act.put, Act.eval, List.setIfInBounds_toArray, List.set_cons_zero, List.set_cons_succ, Nat.reduceAdd, Array.getD_eq_getD_getElem?, List.getElem?_toArray, List.getElem?_cons_succ, List.getElem?_cons_zero, Option.getD_some]
             rfl)
        | (apply Reg.TW.pure_ rfl
           · intro w1 hw1 hf K hK
             simp only [Act.put, List.setIfInBounds_toArray, List.set_cons_zero, List.set_cons_succ] at hK
             have HK := Lib.hid hK
             clear hf hK
             unfold Reg.One; dsimp only
             go_wp2_with fail
             exact HK.out _ (Reg.Ext.refl _)
           · simp only [Act.put, Act.eval, List.setIfInBounds_toArray, List.set_cons_zero, List.set_cons_succ, Nat.reduceAdd, Array.getD_eq_getD_getElem?, List.getElem?_toArray, List.getElem?_cons_succ, List.getElem?_cons_zero, Option.getD_some]
             rfl))
      apply Reg.TW.call_ (c := .string BO) (fun _ => True) rfl (fun _ _ _ h => h)
      · intro w1 hw1 hf K hK
        simp only [Act.put, List.setIfInBounds_toArray, List.set_cons_zero, List.set_cons_succ] at hK
        have HK := Lib.hid hK
        clear hK
        unfold Reg.One; dsimp only
        go_wp2_with fail
        refine (HB1.out _).mono ?_
        rintro e w' ⟨rfl, hx⟩
        go_wp2_with fail
        exact HK.out _ hx trivial
      · simp only [Act.put, Act.eval, List.setIfInBounds_toArray, List.set_cons_zero, List.set_cons_succ, Nat.reduceAdd, Array.getD_eq_getD_getElem?, List.getElem?_toArray, List.getElem?_cons_succ, List.getElem?_cons_zero, Option.getD_some]
        rfl
      repeat (first
        | (apply Reg.TW.move_ Reg.Ext.refl _ rfl rfl
           · simp only [Act.put, Act.eval, List.setIfInBounds_toArray, List.set_cons_zero, List.set_cons_succ, Nat.reduceAdd, Array.getD_eq_getD_getElem?, List.getElem?_toArray, List.getElem?_cons_succ, List.getElem?_cons_zero, Option.getD_some]
             rfl)
        | (apply Reg.TW.assign_ Reg.Ext.refl _ rfl rfl
           · simp only [Act.put, Act.eval, List.setIfInBounds_toArray, List.set_cons_zero, List.set_cons_succ, Nat.reduceAdd, Array.getD_eq_getD_getElem?, List.getElem?_toArray, List.getElem?_cons_succ, List.getElem?_cons_zero, Option.getD_some]
             rfl)
        | (apply Reg.TW.skip_ rfl
           · simp only [Act.put, Act.eval, List.setIfInBounds_toArray, List.set_cons_zero, List.set_cons_succ, Nat.reduceAdd, Array.getD_eq_getD_getElem?, List.getElem?_toArray, List.getElem?_cons_succ, List.getElem?_cons_zero, Option.getD_some]
             rfl)
        | (apply Reg.TW.pure_ rfl
           · intro w1 hw1 hf K hK
             simp only [Act.put, List.setIfInBounds_toArray, List.set_cons_zero, List.set_cons_succ] at hK
             have HK := Lib.hid hK
             clear hf hK
             unfold Reg.One; dsimp only
             go_wp2_with fail
             exact HK.out _ (Reg.Ext.refl _)
           · simp only [Act.put, Act.eval, List.setIfInBounds_toArray, List.set_cons_zero, List.set_cons_succ, Nat.reduceAdd, Array.getD_eq_getD_getElem?, List.getElem?_toArray, List.getElem?_cons_succ, List.getElem?_cons_zero, Option.getD_some]
             rfl))
      apply Reg.TW.call_ (c := .string BO) (fun _ => True) rfl (fun _ _ _ h => h)
      · intro w1 hw1 hf K hK
        simp only [Act.put, List.setIfInBounds_toArray, List.set_cons_zero, List.set_cons_succ] at hK
        have HK := Lib.hid hK
        clear hK
        unfold Reg.One; dsimp only
        go_wp2_with fail
        refine (HB2.out _).mono ?_
        rintro e w' ⟨rfl, hx⟩
        go_wp2_with fail
        exact HK.out _ hx trivial
      · simp only [Act.put, Act.eval, List.setIfInBounds_toArray, List.set_cons_zero, List.set_cons_succ, Nat.reduceAdd, Array.getD_eq_getD_getElem?, List.getElem?_toArray, List.getElem?_cons_succ, List.getElem?_cons_zero, Option.getD_some]
        rfl
      repeat (first
        | (apply Reg.TW.move_ Reg.Ext.refl _ rfl rfl
           · simp only [Act.put, Act.eval, List.setIfInBounds_toArray, List.set_cons_zero, List.set_cons_succ, Nat.reduceAdd, Array.getD_eq_getD_getElem?, List.getElem?_toArray, List.getElem?_cons_succ, List.getElem?_cons_zero, Option.getD_some]
             rfl)
        | (apply Reg.TW.assign_ Reg.Ext.refl _ rfl rfl
           · simp only [Act.put, Act.eval, List.setIfInBounds_toArray, List.set_cons_zero, List.set_cons_succ, Nat.reduceAdd, Array.getD_eq_getD_getElem?, List.getElem?_toArray, List.getElem?_cons_succ, List.getElem?_cons_zero, Option.getD_some]
             rfl)
        | (apply Reg.TW.skip_ rfl
           · simp only [Act.put, Act.eval, List.setIfInBounds_toArray, List.set_cons_zero, List.set_cons_succ, Nat.reduceAdd, Array.getD_eq_getD_getElem?, List.getElem?_toArray, List.getElem?_cons_succ, List.getElem?_cons_zero, Option.getD_some]
             rfl)
        | (apply Reg.TW.pure_ rfl
           · intro w1 hw1 hf K hK
             simp only [Act.put, List.setIfInBounds_toArray, List.set_cons_zero, List.set_cons_succ] at hK
             have HK := Lib.hid hK
             clear hf hK
             obtain ⟨q0, q1⟩ := BX.out w1 (Y7.out.trans hw1)
             unfold Reg.One; dsimp only
             go_wp2_with fail
             exact HK.out _ (Reg.Ext.refl _)
           · simp only [Act.put, Act.eval, List.setIfInBounds_toArray, List.set_cons_zero, List.set_cons_succ, Nat.reduceAdd, Array.getD_eq_getD_getElem?, List.getElem?_toArray, List.getElem?_cons_succ, List.getElem?_cons_zero, Option.getD_some]
             rfl))
      apply Reg.TW.call_ (c := .string CO) (fun _ => True) rfl (fun _ _ _ h => h)
      · intro w1 hw1 hf K hK
        simp only [Act.put, List.setIfInBounds_toArray, List.set_cons_zero, List.set_cons_succ] at hK
        have HK := Lib.hid hK
        clear hK
        unfold Reg.One; dsimp only
        go_wp2_with fail
        refine (HC1.out _).mono ?_
        rintro e w' ⟨rfl, rfl⟩
        go_wp2_with fail
        exact HK.out _ (Reg.Ext.refl _) trivial
      · simp only [Act.put, Act.eval, List.setIfInBounds_toArray, List.set_cons_zero, List.set_cons_succ, Nat.reduceAdd, Array.getD_eq_getD_getElem?, List.getElem?_toArray, List.getElem?_cons_succ, List.getElem?_cons_zero, Option.getD_some]
        rfl
      repeat (first
        | (apply Reg.TW.move_ Reg.Ext.refl _ rfl rfl
           · simp only [Act.put, Act.eval, List.setIfInBounds_toArray, List.set_cons_zero, List.set_cons_succ, Nat.reduceAdd, Array.getD_eq_getD_getElem?, List.getElem?_toArray, List.getElem?_cons_succ, List.getElem?_cons_zero, Option.getD_some]
             rfl)
        | (apply Reg.TW.assign_ Reg.Ext.refl _ rfl rfl
           · simp only [Act.put, Act.eval, List.setIfInBounds_toArray, List.set_cons_zero, List.set_cons_succ, Nat.reduceAdd, Array.getD_eq_getD_getElem?, List.getElem?_toArray, List.getElem?_cons_succ, List.getElem?_cons_zero, Option.getD_some]
             rfl)
        | (apply Reg.TW.skip_ rfl
           · simp only [Act.put, Act.eval, List.setIfInBounds_toArray, List.set_cons_zero, List.set_cons_succ, Nat.reduceAdd, Array.getD_eq_getD_getElem?, List.getElem?_toArray, List.getElem?_cons_succ, List.getElem?_cons_zero, Option.getD_some]
             rfl)
        | (apply Reg.TW.pure_ rfl
           · intro w1 hw1 hf K hK
             simp only [Act.put, List.setIfInBounds_toArray, List.set_cons_zero, List.set_cons_succ] at hK
             have HK := Lib.hid hK
             clear hf hK
             obtain ⟨q0, q1⟩ := BX.out w1 (Y7.out.trans hw1)
             unfold Reg.One; dsimp only
             go_wp2_with fail
             exact HK.out _ (Reg.Ext.refl _)
           · simp only [Act.put, Act.eval, List.setIfInBounds_toArray, List.set_cons_zero, List.set_cons_succ, Nat.reduceAdd, Array.getD_eq_getD_getElem?, List.getElem?_toArray, List.getElem?_cons_succ, List.getElem?_cons_zero, Option.getD_some]
             rfl))
      apply Reg.TW.call_ (c := .string CO) (fun _ => True) rfl (fun _ _ _ h => h)
      · intro w1 hw1 hf K hK
        simp only [Act.put, List.setIfInBounds_toArray, List.set_cons_zero, List.set_cons_succ] at hK
        have HK := Lib.hid hK
        clear hK
        unfold Reg.One; dsimp only
        go_wp2_with fail
        refine (HC2.out _).mono ?_
        rintro e w' ⟨rfl, rfl⟩
        go_wp2_with fail
        exact HK.out _ (Reg.Ext.refl _) trivial
      · simp only [Act.put, Act.eval, List.setIfInBounds_toArray, List.set_cons_zero, List.set_cons_succ, Nat.reduceAdd, Array.getD_eq_getD_getElem?, List.getElem?_toArray, List.getElem?_cons_succ, List.getElem?_cons_zero, Option.getD_some]
        rfl
      repeat (first
        | (apply Reg.TW.move_ Reg.Ext.refl _ rfl rfl
           · simp only [Act.put, Act.eval, List.setIfInBounds_toArray, List.set_cons_zero, List.set_cons_succ, Nat.reduceAdd, Array.getD_eq_getD_getElem?, List.getElem?_toArray, List.getElem?_cons_succ, List.getElem?_cons_zero, Option.getD_some]
             rfl)
        | (apply Reg.TW.assign_ Reg.Ext.refl _ rfl rfl
           · simp only [Act.put, Act.eval, List.setIfInBounds_toArray, List.set_cons_zero, List.set_cons_succ, Nat.reduceAdd, Array.getD_eq_getD_getElem?, List.getElem?_toArray, List.getElem?_cons_succ, List.getElem?_cons_zero, Option.getD_some]
             rfl)
        | (apply Reg.TW.skip_ rfl
           · simp only [Act.put, Act.eval, List.setIfInBounds_toArray, List.set_cons_zero, List.set_cons_succ, Nat.reduceAdd, Array.getD_eq_getD_getElem?, List.getElem?_toArray, List.getElem?_cons_succ, List.getElem?_cons_zero, Option.getD_some]
             rfl)
        | (apply Reg.TW.pure_ rfl
           · intro w1 hw1 hf K hK
             simp only [Act.put, List.setIfInBounds_toArray, List.set_cons_zero, List.set_cons_succ] at hK
             have HK := Lib.hid hK
             clear hf hK
             unfold Reg.One; dsimp only
             go_wp2_with fail
             exact HK.out _ (Reg.Ext.refl _)
           · simp only [Act.put, Act.eval, List.setIfInBounds_toArray, List.set_cons_zero, List.set_cons_succ, Nat.reduceAdd, Array.getD_eq_getD_getElem?, List.getElem?_toArray, List.getElem?_cons_succ, List.getElem?_cons_zero, Option.getD_some]
             rfl))
      apply Reg.TW.call_ (c := .bool true) (fun _ => True) rfl (fun _ _ _ h => h)
      · intro w1 hw1 hf K hK
        simp only [Act.put, List.setIfInBounds_toArray, List.set_cons_zero, List.set_cons_succ] at hK
        have HK := Lib.hid hK
        clear hK
        unfold Reg.One; dsimp only
        go_wp2_with fail
        refine (same_eq F g1 cap1 g2 cap2 _ hfl (R3.out.ext hw1) (R2.out.ext hw1)).mono ?_
        rintro e w' ⟨rfl, hx⟩
        go_wp2_with fail
        exact HK.out _ hx trivial
      · simp only [Act.put, Act.eval, List.setIfInBounds_toArray, List.set_cons_zero, List.set_cons_succ, Nat.reduceAdd, Array.getD_eq_getD_getElem?, List.getElem?_toArray, List.getElem?_cons_succ, List.getElem?_cons_zero, Option.getD_some]
        rfl
      repeat (first
        | (apply Reg.TW.move_ Reg.Ext.refl _ rfl rfl
           · simp only [Act.put, Act.eval, List.setIfInBounds_toArray, List.set_cons_zero, List.set_cons_succ, Nat.reduceAdd, Array.getD_eq_getD_getElem?, List.getElem?_toArray, List.getElem?_cons_succ, List.getElem?_cons_zero, Option.getD_some]
             rfl)
        | (apply Reg.TW.assign_ Reg.Ext.refl _ rfl rfl
           · simp only [Act.put, Act.eval, List.setIfInBounds_toArray, List.set_cons_zero, List.set_cons_succ, Nat.reduceAdd, Array.getD_eq_getD_getElem?, List.getElem?_toArray, List.getElem?_cons_succ, List.getElem?_cons_zero, Option.getD_some]
             rfl)
        | (apply Reg.TW.skip_ rfl
           · simp only [Act.put, Act.eval, List.setIfInBounds_toArray, List.set_cons_zero, List.set_cons_succ, Nat.reduceAdd, Array.getD_eq_getD_getElem?, List.getElem?_toArray, List.getElem?_cons_succ, List.getElem?_cons_zero, Option.getD_some]
             rfl)
        | (apply Reg.TW.pure_ rfl
           · intro w1 hw1 hf K hK
             simp only [Act.put, List.setIfInBounds_toArray, List.set_cons_zero, List.set_cons_succ] at hK
             have HK := Lib.hid hK
             clear hf hK
             unfold Reg.One; dsimp only
             go_wp2_with fail
             exact HK.out _ (Reg.Ext.refl _)
           · simp only [Act.put, Act.eval, List.setIfInBounds_toArray, List.set_cons_zero, List.set_cons_succ, Nat.reduceAdd, Array.getD_eq_getD_getElem?, List.getElem?_toArray, List.getElem?_cons_succ, List.getElem?_cons_zero, Option.getD_some]
             rfl))
      refine Reg.TW.nil_ ?_
      intro w8 hw8 _
      have Y8 := Lib.hid (Y7.out.trans hw8)
      clear hw8
      go_wp2_with fail
      go_ret
      exact ⟨rfl, HX0.out.trans Y8.out⟩
    case hlen => rfl
end Exc
end Go.Proofs.YtdnaijaamnfgmaaDoor

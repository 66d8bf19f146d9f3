/- The walk of the law StampOrders. -/
import Derived.Test.YtnaijnhpgalmjaaDoorStampWake
set_option linter.unusedSimpArgs false
set_option linter.unusedVariables false
set_option linter.unusedSectionVars false
namespace Go.Proofs.YtnaijnhpgalmjaaDoor
open Go.RowKit
namespace Stp
open Sha (Keys StartIs)
theorem wpList_ld {ops : Array Oper} {rest : List Oper} {o : Oper} {a : Act} {w : World} {Q : Exit → Act → World → Prop} (hw : Region.wanted o (yielded ops a.tmps) = true) (x : Operand) (ho : o.op = .load 23 x)
    (g : Nat) (hx : a.eval x = .pointer (some ⟨g, 0, none⟩)) (T : TypeId) (l : List UInt8) (hl : l.length = 32) (h : Hid (Blk w g T (l.map byteV))) (hk : wpList Tryd.prog ops Q rest (a.put o.dst (.agg (l.map byteV).toArray)) w) : wpList Tryd.prog ops Q (o :: rest) a w := by
  unfold wpList
  rw [if_pos hw]
  exact .inl (wp_load_row _ x ho g hx T (l.map byteV).toArray (0, 0) _ h.out Tryd.underlying23 rfl (by rw [List.size_toArray, List.length_map, hl]; kernel_rfl) hk)
theorem less_is (l m : List UInt8) (hl : l.length = 32) (hm : m.length = 32) {b : Bool} (hb : lessL l m = b) (w : World) :
    Calls Tryd.prog 7 #[.agg (l.map byteV).toArray, .agg (m.map byteV).toArray] w fun e w' => e = .returned (.bool b) ∧ Reg.Ext w w' := by
  have h := less_any l m hl hm w
  rw [hb] at h
  exact h
set_option maxRecDepth 100000 in
set_option maxHeartbeats 2000000 in
theorem orders_law (a b c : List UInt8) (ha : a.length = 32) (hb : b.length = 32) (hc : c.length = 32) (w : World) (hk : Keys w) (hst : StartIs w) :
    Calls Tryd.prog 3 #[.agg (a.map byteV).toArray, .agg (b.map byteV).toArray, .agg (c.map byteV).toArray] w fun e w' => e = .returned (.bool true) ∧ Reg.Ext w w' := by
  have HKY := Lib.hid hk
  have HS := Lib.hid hst
  clear hk hst
  have hb1 := box_blk w a
  have hx1 := Reg.Ext.alloc w (Obj.cells (a.map byteV).toArray 23)
  have hb2 := box_blk (w.alloc (Obj.cells (a.map byteV).toArray 23)) b
  have hx2 := Reg.Ext.alloc (w.alloc (Obj.cells (a.map byteV).toArray 23)) (Obj.cells (b.map byteV).toArray 23)
  have hb3 := box_blk ((w.alloc (Obj.cells (a.map byteV).toArray 23)).alloc (Obj.cells (b.map byteV).toArray 23)) c
  have hx3 := Reg.Ext.alloc ((w.alloc (Obj.cells (a.map byteV).toArray 23)).alloc (Obj.cells (b.map byteV).toArray 23)) (Obj.cells (c.map byteV).toArray 23)
  have H1 := Lib.hid ((hb1.ext hx2).ext hx3)
  have H2 := Lib.hid (hb2.ext hx3)
  have H3 := Lib.hid hb3
  have X := Lib.hid ((hx1.trans hx2).trans hx3)
  clear hb1 hx1 hb2 hx2 hb3 hx3
  go_enter Tryd.func3, Tryd.ntmps3
  go_wp2_with fail
  rw [show ((w.alloc (Obj.cells (a.map byteV).toArray 23)).alloc (Obj.cells (b.map byteV).toArray 23)).heap.size = w.heap.size + 1 + 1 by rw [show ((w.alloc (Obj.cells (a.map byteV).toArray 23)).alloc (Obj.cells (b.map byteV).toArray 23)).heap.size = (w.alloc (Obj.cells (a.map byteV).toArray 23)).heap.size + 1 from Array.size_push _, show (w.alloc (Obj.cells (a.map byteV).toArray 23)).heap.size = w.heap.size + 1 from Array.size_push _]] at H3
  rw [show (w.alloc (Obj.cells (a.map byteV).toArray 23)).heap.size = w.heap.size + 1 from Array.size_push _] at H2
  generalize (((w.alloc (Obj.cells (a.map byteV).toArray 23)).alloc (Obj.cells (b.map byteV).toArray 23)).alloc (Obj.cells (c.map byteV).toArray 23)) = w1 at *
  generalize w.heap.size = g1 at H1 H2 H3 ⊢
  generalize g1 + 1 = g2 at H2 H3 ⊢
  generalize g2 + 1 = g3 at H3 ⊢
  refine (awake_any _ (HKY.out.ext X.out) (HS.out.ext X.out)).mono ?_
  rintro e wn ⟨rfl, xn⟩
  have X := Lib.hid (X.out.trans xn)
  have H1 := Lib.hid (H1.out.ext xn)
  have H2 := Lib.hid (H2.out.ext xn)
  have H3 := Lib.hid (H3.out.ext xn)
  clear xn
  go_upto_region 3 with (fail)
  refine wp_region_lit ?_
  repeat (first | refine wpList_ld rfl _ rfl g1 rfl _ a ha H1 ?_ | refine wpList_ld rfl _ rfl g2 rfl _ b hb H2 ?_ | refine wpList_ld rfl _ rfl g3 rfl _ c hc H3 ?_ | go_step)
  have hab := less_total a b
  have has := less_asym a b
  have hEQ := equal_dig ha hb
  have hEs := Lib.hid (less_self a)
  cases hp : lessL a b with
  | true =>
    have hba : lessL b a = false := by rw [hp] at has; simpa using has
    have hne : (a == b) = false := by rw [hp] at hab; simpa using hab.symm
    rw [hne] at hEQ
    have HP := Lib.hid hp
    have HBA := Lib.hid hba
    have HEQ := Lib.hid hEQ
    clear hab has hba hne hEQ
    cases hq : lessL b c with
    | true =>
      have HQ := Lib.hid hq
      have HR := Lib.hid (less_trans hp hq)
      clear hp hq
      refine (less_is a b ha hb HP.out _).mono ?_
      rintro e wn ⟨rfl, xn⟩
      have X := Lib.hid (X.out.trans xn)
      have H1 := Lib.hid (H1.out.ext xn)
      have H2 := Lib.hid (H2.out.ext xn)
      have H3 := Lib.hid (H3.out.ext xn)
      clear xn
      rename_i hK
      refine hK _ _ ?_
      repeat (first | refine wpList_ld rfl _ rfl g1 rfl _ a ha H1 ?_ | refine wpList_ld rfl _ rfl g2 rfl _ b hb H2 ?_ | refine wpList_ld rfl _ rfl g3 rfl _ c hc H3 ?_ | go_step)
      refine (less_is b c hb hc HQ.out _).mono ?_
      rintro e wn ⟨rfl, xn⟩
      have X := Lib.hid (X.out.trans xn)
      have H1 := Lib.hid (H1.out.ext xn)
      have H2 := Lib.hid (H2.out.ext xn)
      have H3 := Lib.hid (H3.out.ext xn)
      clear xn
      rename_i hK
      refine hK _ _ ?_
      repeat (first | refine wpList_ld rfl _ rfl g1 rfl _ a ha H1 ?_ | refine wpList_ld rfl _ rfl g2 rfl _ b hb H2 ?_ | refine wpList_ld rfl _ rfl g3 rfl _ c hc H3 ?_ | go_step)
      refine (less_is a c ha hc HR.out _).mono ?_
      rintro e wn ⟨rfl, xn⟩
      have X := Lib.hid (X.out.trans xn)
      have H1 := Lib.hid (H1.out.ext xn)
      have H2 := Lib.hid (H2.out.ext xn)
      have H3 := Lib.hid (H3.out.ext xn)
      clear xn
      rename_i hK
      refine hK _ _ ?_
      repeat (first | refine wpList_ld rfl _ rfl g1 rfl _ a ha H1 ?_ | refine wpList_ld rfl _ rfl g2 rfl _ b hb H2 ?_ | refine wpList_ld rfl _ rfl g3 rfl _ c hc H3 ?_ | go_step)
      refine (less_is a a ha ha hEs.out _).mono ?_
      rintro e wn ⟨rfl, xn⟩
      have X := Lib.hid (X.out.trans xn)
      have H1 := Lib.hid (H1.out.ext xn)
      have H2 := Lib.hid (H2.out.ext xn)
      have H3 := Lib.hid (H3.out.ext xn)
      clear xn
      rename_i hK
      refine hK _ _ ?_
      repeat (first | refine wpList_ld rfl _ rfl g1 rfl _ a ha H1 ?_ | refine wpList_ld rfl _ rfl g2 rfl _ b hb H2 ?_ | refine wpList_ld rfl _ rfl g3 rfl _ c hc H3 ?_ | go_step)
      go_wp2_with fail
      apply Reg.wp_tab Reg.Ext (by kernel_rfl) (by kernel_rfl) Reg.Ext.refl (fun _ _ _ => Reg.Ext.trans) (Reg.Ext.drew _)
      case h =>
        intro O
        apply Reg.TW.pure_ (c := .agg ((a).map byteV).toArray) rfl
        · intro w1 hw1 hf K hK
          simp only [Act.put, List.setIfInBounds_toArray, List.set_cons_zero, List.set_cons_succ] at hK
          have HK := Lib.hid hK
          clear hK
          unfold Reg.One; dsimp only
          refine wpList_ld rfl _ rfl g1 rfl _ _ ha (Lib.hid (H1.out.ext hw1)) ?_
          simp only [Act.put, Act.eval, List.setIfInBounds_toArray, List.set_cons_zero, List.set_cons_succ, Nat.reduceAdd, Array.getD_eq_getD_getElem?, List.getElem?_toArray, List.getElem?_cons_succ, List.getElem?_cons_zero, Option.getD_some]
          go_wp2_with fail
          exact HK.out _ (Reg.Ext.refl _)
        · simp only [Act.put, Act.eval, List.setIfInBounds_toArray, List.set_cons_zero, List.set_cons_succ, Nat.reduceAdd, Array.getD_eq_getD_getElem?, List.getElem?_toArray, List.getElem?_cons_succ, List.getElem?_cons_zero, Option.getD_some]
          rfl
        apply Reg.TW.pure_ (c := .agg ((b).map byteV).toArray) rfl
        · intro w1 hw1 hf K hK
          simp only [Act.put, List.setIfInBounds_toArray, List.set_cons_zero, List.set_cons_succ] at hK
          have HK := Lib.hid hK
          clear hK
          unfold Reg.One; dsimp only
          refine wpList_ld rfl _ rfl g2 rfl _ _ hb (Lib.hid (H2.out.ext hw1)) ?_
          simp only [Act.put, Act.eval, List.setIfInBounds_toArray, List.set_cons_zero, List.set_cons_succ, Nat.reduceAdd, Array.getD_eq_getD_getElem?, List.getElem?_toArray, List.getElem?_cons_succ, List.getElem?_cons_zero, Option.getD_some]
          go_wp2_with fail
          exact HK.out _ (Reg.Ext.refl _)
        · simp only [Act.put, Act.eval, List.setIfInBounds_toArray, List.set_cons_zero, List.set_cons_succ, Nat.reduceAdd, Array.getD_eq_getD_getElem?, List.getElem?_toArray, List.getElem?_cons_succ, List.getElem?_cons_zero, Option.getD_some]
          rfl
        apply Reg.TW.call_ (c := .bool true) (fun _ => True) rfl (fun _ _ _ h => h)
        · intro w1 hw1 hf K hK
          simp only [Act.put, List.setIfInBounds_toArray, List.set_cons_zero, List.set_cons_succ] at hK
          have HK := Lib.hid hK
          clear hK
          unfold Reg.One; dsimp only
          go_wp2_with fail
          refine (less_is a b ha hb HP.out _).mono ?_
          rintro e w' ⟨rfl, hx⟩
          go_wp2_with fail
          exact HK.out _ hx trivial
        · simp only [Act.put, Act.eval, List.setIfInBounds_toArray, List.set_cons_zero, List.set_cons_succ, Nat.reduceAdd, Array.getD_eq_getD_getElem?, List.getElem?_toArray, List.getElem?_cons_succ, List.getElem?_cons_zero, Option.getD_some]
          rfl
        repeat (first
          | (apply Reg.TW.move_ Reg.Ext.refl _ rfl rfl
             · simp only [Act.put, Act.eval, List.setIfInBounds_toArray, List.set_cons_zero, List.set_cons_succ, Nat.reduceAdd, Array.getD_eq_getD_getElem?, List.getElem?_toArray, List.getElem?_cons_succ, List.getElem?_cons_zero, Option.getD_some]
               rfl)
          | (apply Reg.TW.assign_ Reg.Ext.refl _ rfl rfl
             · simp only [Act.put, Act.eval, List.setIfInBounds_toArray, List.set_cons_zero, List.set_cons_succ, Nat.reduceAdd, Array.getD_eq_getD_getElem?, List.getElem?_toArray, List.getElem?_cons_succ, List.getElem?_cons_zero, Option.getD_some]
               rfl)
          | (apply Reg.TW.skip_ rfl
             · simp only [Act.put, Act.eval, List.setIfInBounds_toArray, List.set_cons_zero, List.set_cons_succ, Nat.reduceAdd, Array.getD_eq_getD_getElem?, List.getElem?_toArray, List.getElem?_cons_succ, List.getElem?_cons_zero, Option.getD_some]
               rfl)
          | (apply Reg.TW.pure_ rfl
             · intro w1 hw1 hf K hK
               simp only [Act.put, List.setIfInBounds_toArray, List.set_cons_zero, List.set_cons_succ] at hK
               have HK := Lib.hid hK
               clear hf hK
               have q1 := HEQ.out
               unfold Reg.One; dsimp only
               go_wp2_with fail
               exact HK.out _ (Reg.Ext.refl _)
             · simp only [Act.put, Act.eval, List.setIfInBounds_toArray, List.set_cons_zero, List.set_cons_succ, Nat.reduceAdd, Array.getD_eq_getD_getElem?, List.getElem?_toArray, List.getElem?_cons_succ, List.getElem?_cons_zero, Option.getD_some]
               rfl))
        apply Reg.TW.pure_ (c := .agg ((a).map byteV).toArray) rfl
        · intro w1 hw1 hf K hK
          simp only [Act.put, List.setIfInBounds_toArray, List.set_cons_zero, List.set_cons_succ] at hK
          have HK := Lib.hid hK
          clear hK
          unfold Reg.One; dsimp only
          refine wpList_ld rfl _ rfl g1 rfl _ _ ha (Lib.hid (H1.out.ext hw1)) ?_
          simp only [Act.put, Act.eval, List.setIfInBounds_toArray, List.set_cons_zero, List.set_cons_succ, Nat.reduceAdd, Array.getD_eq_getD_getElem?, List.getElem?_toArray, List.getElem?_cons_succ, List.getElem?_cons_zero, Option.getD_some]
          go_wp2_with fail
          exact HK.out _ (Reg.Ext.refl _)
        · simp only [Act.put, Act.eval, List.setIfInBounds_toArray, List.set_cons_zero, List.set_cons_succ, Nat.reduceAdd, Array.getD_eq_getD_getElem?, List.getElem?_toArray, List.getElem?_cons_succ, List.getElem?_cons_zero, Option.getD_some]
          rfl
        apply Reg.TW.pure_ (c := .agg ((b).map byteV).toArray) rfl
        · intro w1 hw1 hf K hK
          simp only [Act.put, List.setIfInBounds_toArray, List.set_cons_zero, List.set_cons_succ] at hK
          have HK := Lib.hid hK
          clear hK
          unfold Reg.One; dsimp only
          refine wpList_ld rfl _ rfl g2 rfl _ _ hb (Lib.hid (H2.out.ext hw1)) ?_
          simp only [Act.put, Act.eval, List.setIfInBounds_toArray, List.set_cons_zero, List.set_cons_succ, Nat.reduceAdd, Array.getD_eq_getD_getElem?, List.getElem?_toArray, List.getElem?_cons_succ, List.getElem?_cons_zero, Option.getD_some]
          go_wp2_with fail
          exact HK.out _ (Reg.Ext.refl _)
        · simp only [Act.put, Act.eval, List.setIfInBounds_toArray, List.set_cons_zero, List.set_cons_succ, Nat.reduceAdd, Array.getD_eq_getD_getElem?, List.getElem?_toArray, List.getElem?_cons_succ, List.getElem?_cons_zero, Option.getD_some]
          rfl
        repeat (first
          | (apply Reg.TW.move_ Reg.Ext.refl _ rfl rfl
             · simp only [Act.put, Act.eval, List.setIfInBounds_toArray, List.set_cons_zero, List.set_cons_succ, Nat.reduceAdd, Array.getD_eq_getD_getElem?, List.getElem?_toArray, List.getElem?_cons_succ, List.getElem?_cons_zero, Option.getD_some]
               rfl)
          | (apply Reg.TW.assign_ Reg.Ext.refl _ rfl rfl
             · simp only [Act.put, Act.eval, List.setIfInBounds_toArray, List.set_cons_zero, List.set_cons_succ, Nat.reduceAdd, Array.getD_eq_getD_getElem?, List.getElem?_toArray, List.getElem?_cons_succ, List.getElem?_cons_zero, Option.getD_some]
               rfl)
          | (apply Reg.TW.skip_ rfl
             · simp only [Act.put, Act.eval, List.setIfInBounds_toArray, List.set_cons_zero, List.set_cons_succ, Nat.reduceAdd, Array.getD_eq_getD_getElem?, List.getElem?_toArray, List.getElem?_cons_succ, List.getElem?_cons_zero, Option.getD_some]
               rfl)
          | (apply Reg.TW.pure_ rfl
             · intro w1 hw1 hf K hK
               simp only [Act.put, List.setIfInBounds_toArray, List.set_cons_zero, List.set_cons_succ] at hK
               have HK := Lib.hid hK
               clear hf hK
               have q1 := HEQ.out
               unfold Reg.One; dsimp only
               go_wp2_with fail
               exact HK.out _ (Reg.Ext.refl _)
             · simp only [Act.put, Act.eval, List.setIfInBounds_toArray, List.set_cons_zero, List.set_cons_succ, Nat.reduceAdd, Array.getD_eq_getD_getElem?, List.getElem?_toArray, List.getElem?_cons_succ, List.getElem?_cons_zero, Option.getD_some]
               rfl))
        apply Reg.TW.pure_ (c := .agg ((a).map byteV).toArray) rfl
        · intro w1 hw1 hf K hK
          simp only [Act.put, List.setIfInBounds_toArray, List.set_cons_zero, List.set_cons_succ] at hK
          have HK := Lib.hid hK
          clear hK
          unfold Reg.One; dsimp only
          refine wpList_ld rfl _ rfl g1 rfl _ _ ha (Lib.hid (H1.out.ext hw1)) ?_
          simp only [Act.put, Act.eval, List.setIfInBounds_toArray, List.set_cons_zero, List.set_cons_succ, Nat.reduceAdd, Array.getD_eq_getD_getElem?, List.getElem?_toArray, List.getElem?_cons_succ, List.getElem?_cons_zero, Option.getD_some]
          go_wp2_with fail
          exact HK.out _ (Reg.Ext.refl _)
        · simp only [Act.put, Act.eval, List.setIfInBounds_toArray, List.set_cons_zero, List.set_cons_succ, Nat.reduceAdd, Array.getD_eq_getD_getElem?, List.getElem?_toArray, List.getElem?_cons_succ, List.getElem?_cons_zero, Option.getD_some]
          rfl
        apply Reg.TW.pure_ (c := .agg ((b).map byteV).toArray) rfl
        · intro w1 hw1 hf K hK
          simp only [Act.put, List.setIfInBounds_toArray, List.set_cons_zero, List.set_cons_succ] at hK
          have HK := Lib.hid hK
          clear hK
          unfold Reg.One; dsimp only
          refine wpList_ld rfl _ rfl g2 rfl _ _ hb (Lib.hid (H2.out.ext hw1)) ?_
          simp only [Act.put, Act.eval, List.setIfInBounds_toArray, List.set_cons_zero, List.set_cons_succ, Nat.reduceAdd, Array.getD_eq_getD_getElem?, List.getElem?_toArray, List.getElem?_cons_succ, List.getElem?_cons_zero, Option.getD_some]
          go_wp2_with fail
          exact HK.out _ (Reg.Ext.refl _)
        · simp only [Act.put, Act.eval, List.setIfInBounds_toArray, List.set_cons_zero, List.set_cons_succ, Nat.reduceAdd, Array.getD_eq_getD_getElem?, List.getElem?_toArray, List.getElem?_cons_succ, List.getElem?_cons_zero, Option.getD_some]
          rfl
        apply Reg.TW.call_ (c := .bool true) (fun _ => True) rfl (fun _ _ _ h => h)
        · intro w1 hw1 hf K hK
          simp only [Act.put, List.setIfInBounds_toArray, List.set_cons_zero, List.set_cons_succ] at hK
          have HK := Lib.hid hK
          clear hK
          unfold Reg.One; dsimp only
          go_wp2_with fail
          refine (less_is a b ha hb HP.out _).mono ?_
          rintro e w' ⟨rfl, hx⟩
          go_wp2_with fail
          exact HK.out _ hx trivial
        · simp only [Act.put, Act.eval, List.setIfInBounds_toArray, List.set_cons_zero, List.set_cons_succ, Nat.reduceAdd, Array.getD_eq_getD_getElem?, List.getElem?_toArray, List.getElem?_cons_succ, List.getElem?_cons_zero, Option.getD_some]
          rfl
        repeat (first
          | (apply Reg.TW.move_ Reg.Ext.refl _ rfl rfl
             · simp only [Act.put, Act.eval, List.setIfInBounds_toArray, List.set_cons_zero, List.set_cons_succ, Nat.reduceAdd, Array.getD_eq_getD_getElem?, List.getElem?_toArray, List.getElem?_cons_succ, List.getElem?_cons_zero, Option.getD_some]
               rfl)
          | (apply Reg.TW.assign_ Reg.Ext.refl _ rfl rfl
             · simp only [Act.put, Act.eval, List.setIfInBounds_toArray, List.set_cons_zero, List.set_cons_succ, Nat.reduceAdd, Array.getD_eq_getD_getElem?, List.getElem?_toArray, List.getElem?_cons_succ, List.getElem?_cons_zero, Option.getD_some]
               rfl)
          | (apply Reg.TW.skip_ rfl
             · simp only [Act.put, Act.eval, List.setIfInBounds_toArray, List.set_cons_zero, List.set_cons_succ, Nat.reduceAdd, Array.getD_eq_getD_getElem?, List.getElem?_toArray, List.getElem?_cons_succ, List.getElem?_cons_zero, Option.getD_some]
               rfl)
          | (apply Reg.TW.pure_ rfl
             · intro w1 hw1 hf K hK
               simp only [Act.put, List.setIfInBounds_toArray, List.set_cons_zero, List.set_cons_succ] at hK
               have HK := Lib.hid hK
               clear hf hK
               have q1 := HEQ.out
               unfold Reg.One; dsimp only
               go_wp2_with fail
               exact HK.out _ (Reg.Ext.refl _)
             · simp only [Act.put, Act.eval, List.setIfInBounds_toArray, List.set_cons_zero, List.set_cons_succ, Nat.reduceAdd, Array.getD_eq_getD_getElem?, List.getElem?_toArray, List.getElem?_cons_succ, List.getElem?_cons_zero, Option.getD_some]
               rfl))
        apply Reg.TW.pure_ (c := .agg ((b).map byteV).toArray) rfl
        · intro w1 hw1 hf K hK
          simp only [Act.put, List.setIfInBounds_toArray, List.set_cons_zero, List.set_cons_succ] at hK
          have HK := Lib.hid hK
          clear hK
          unfold Reg.One; dsimp only
          refine wpList_ld rfl _ rfl g2 rfl _ _ hb (Lib.hid (H2.out.ext hw1)) ?_
          simp only [Act.put, Act.eval, List.setIfInBounds_toArray, List.set_cons_zero, List.set_cons_succ, Nat.reduceAdd, Array.getD_eq_getD_getElem?, List.getElem?_toArray, List.getElem?_cons_succ, List.getElem?_cons_zero, Option.getD_some]
          go_wp2_with fail
          exact HK.out _ (Reg.Ext.refl _)
        · simp only [Act.put, Act.eval, List.setIfInBounds_toArray, List.set_cons_zero, List.set_cons_succ, Nat.reduceAdd, Array.getD_eq_getD_getElem?, List.getElem?_toArray, List.getElem?_cons_succ, List.getElem?_cons_zero, Option.getD_some]
          rfl
        apply Reg.TW.pure_ (c := .agg ((a).map byteV).toArray) rfl
        · intro w1 hw1 hf K hK
          simp only [Act.put, List.setIfInBounds_toArray, List.set_cons_zero, List.set_cons_succ] at hK
          have HK := Lib.hid hK
          clear hK
          unfold Reg.One; dsimp only
          refine wpList_ld rfl _ rfl g1 rfl _ _ ha (Lib.hid (H1.out.ext hw1)) ?_
          simp only [Act.put, Act.eval, List.setIfInBounds_toArray, List.set_cons_zero, List.set_cons_succ, Nat.reduceAdd, Array.getD_eq_getD_getElem?, List.getElem?_toArray, List.getElem?_cons_succ, List.getElem?_cons_zero, Option.getD_some]
          go_wp2_with fail
          exact HK.out _ (Reg.Ext.refl _)
        · simp only [Act.put, Act.eval, List.setIfInBounds_toArray, List.set_cons_zero, List.set_cons_succ, Nat.reduceAdd, Array.getD_eq_getD_getElem?, List.getElem?_toArray, List.getElem?_cons_succ, List.getElem?_cons_zero, Option.getD_some]
          rfl
        apply Reg.TW.call_ (c := .bool false) (fun _ => True) rfl (fun _ _ _ h => h)
        · intro w1 hw1 hf K hK
          simp only [Act.put, List.setIfInBounds_toArray, List.set_cons_zero, List.set_cons_succ] at hK
          have HK := Lib.hid hK
          clear hK
          unfold Reg.One; dsimp only
          go_wp2_with fail
          refine (less_is b a hb ha HBA.out _).mono ?_
          rintro e w' ⟨rfl, hx⟩
          go_wp2_with fail
          exact HK.out _ hx trivial
        · simp only [Act.put, Act.eval, List.setIfInBounds_toArray, List.set_cons_zero, List.set_cons_succ, Nat.reduceAdd, Array.getD_eq_getD_getElem?, List.getElem?_toArray, List.getElem?_cons_succ, List.getElem?_cons_zero, Option.getD_some]
          rfl
        repeat (first
          | (apply Reg.TW.move_ Reg.Ext.refl _ rfl rfl
             · simp only [Act.put, Act.eval, List.setIfInBounds_toArray, List.set_cons_zero, List.set_cons_succ, Nat.reduceAdd, Array.getD_eq_getD_getElem?, List.getElem?_toArray, List.getElem?_cons_succ, List.getElem?_cons_zero, Option.getD_some]
               rfl)
          | (apply Reg.TW.assign_ Reg.Ext.refl _ rfl rfl
             · simp only [Act.put, Act.eval, List.setIfInBounds_toArray, List.set_cons_zero, List.set_cons_succ, Nat.reduceAdd, Array.getD_eq_getD_getElem?, List.getElem?_toArray, List.getElem?_cons_succ, List.getElem?_cons_zero, Option.getD_some]
               rfl)
          | (apply Reg.TW.skip_ rfl
             · simp only [Act.put, Act.eval, List.setIfInBounds_toArray, List.set_cons_zero, List.set_cons_succ, Nat.reduceAdd, Array.getD_eq_getD_getElem?, List.getElem?_toArray, List.getElem?_cons_succ, List.getElem?_cons_zero, Option.getD_some]
               rfl)
          | (apply Reg.TW.pure_ rfl
             · intro w1 hw1 hf K hK
               simp only [Act.put, List.setIfInBounds_toArray, List.set_cons_zero, List.set_cons_succ] at hK
               have HK := Lib.hid hK
               clear hf hK
               have q1 := HEQ.out
               unfold Reg.One; dsimp only
               go_wp2_with fail
               exact HK.out _ (Reg.Ext.refl _)
             · simp only [Act.put, Act.eval, List.setIfInBounds_toArray, List.set_cons_zero, List.set_cons_succ, Nat.reduceAdd, Array.getD_eq_getD_getElem?, List.getElem?_toArray, List.getElem?_cons_succ, List.getElem?_cons_zero, Option.getD_some]
               rfl))
        refine Reg.TW.nil_ ?_
        intro w9 hw9 _
        go_wp2
        go_ret
        exact ⟨rfl, X.out.trans hw9⟩
      case hlen => rfl
    | false =>
      have HQ := Lib.hid hq
      clear hp hq
      refine (less_is a b ha hb HP.out _).mono ?_
      rintro e wn ⟨rfl, xn⟩
      have X := Lib.hid (X.out.trans xn)
      have H1 := Lib.hid (H1.out.ext xn)
      have H2 := Lib.hid (H2.out.ext xn)
      have H3 := Lib.hid (H3.out.ext xn)
      clear xn
      rename_i hK
      refine hK _ _ ?_
      repeat (first | refine wpList_ld rfl _ rfl g1 rfl _ a ha H1 ?_ | refine wpList_ld rfl _ rfl g2 rfl _ b hb H2 ?_ | refine wpList_ld rfl _ rfl g3 rfl _ c hc H3 ?_ | go_step)
      refine (less_is b c hb hc HQ.out _).mono ?_
      rintro e wn ⟨rfl, xn⟩
      have X := Lib.hid (X.out.trans xn)
      have H1 := Lib.hid (H1.out.ext xn)
      have H2 := Lib.hid (H2.out.ext xn)
      have H3 := Lib.hid (H3.out.ext xn)
      clear xn
      rename_i hK
      refine hK _ _ ?_
      repeat (first | refine wpList_ld rfl _ rfl g1 rfl _ a ha H1 ?_ | refine wpList_ld rfl _ rfl g2 rfl _ b hb H2 ?_ | refine wpList_ld rfl _ rfl g3 rfl _ c hc H3 ?_ | go_step)
      refine (less_is a a ha ha hEs.out _).mono ?_
      rintro e wn ⟨rfl, xn⟩
      have X := Lib.hid (X.out.trans xn)
      have H1 := Lib.hid (H1.out.ext xn)
      have H2 := Lib.hid (H2.out.ext xn)
      have H3 := Lib.hid (H3.out.ext xn)
      clear xn
      rename_i hK
      refine hK _ _ ?_
      repeat (first | refine wpList_ld rfl _ rfl g1 rfl _ a ha H1 ?_ | refine wpList_ld rfl _ rfl g2 rfl _ b hb H2 ?_ | refine wpList_ld rfl _ rfl g3 rfl _ c hc H3 ?_ | go_step)
      go_wp2_with fail
      apply Reg.wp_tab Reg.Ext (by kernel_rfl) (by kernel_rfl) Reg.Ext.refl (fun _ _ _ => Reg.Ext.trans) (Reg.Ext.drew _)
      case h =>
        intro O
        apply Reg.TW.pure_ (c := .agg ((a).map byteV).toArray) rfl
        · intro w1 hw1 hf K hK
          simp only [Act.put, List.setIfInBounds_toArray, List.set_cons_zero, List.set_cons_succ] at hK
          have HK := Lib.hid hK
          clear hK
          unfold Reg.One; dsimp only
          refine wpList_ld rfl _ rfl g1 rfl _ _ ha (Lib.hid (H1.out.ext hw1)) ?_
          simp only [Act.put, Act.eval, List.setIfInBounds_toArray, List.set_cons_zero, List.set_cons_succ, Nat.reduceAdd, Array.getD_eq_getD_getElem?, List.getElem?_toArray, List.getElem?_cons_succ, List.getElem?_cons_zero, Option.getD_some]
          go_wp2_with fail
          exact HK.out _ (Reg.Ext.refl _)
        · simp only [Act.put, Act.eval, List.setIfInBounds_toArray, List.set_cons_zero, List.set_cons_succ, Nat.reduceAdd, Array.getD_eq_getD_getElem?, List.getElem?_toArray, List.getElem?_cons_succ, List.getElem?_cons_zero, Option.getD_some]
          rfl
        apply Reg.TW.pure_ (c := .agg ((b).map byteV).toArray) rfl
        · intro w1 hw1 hf K hK
          simp only [Act.put, List.setIfInBounds_toArray, List.set_cons_zero, List.set_cons_succ] at hK
          have HK := Lib.hid hK
          clear hK
          unfold Reg.One; dsimp only
          refine wpList_ld rfl _ rfl g2 rfl _ _ hb (Lib.hid (H2.out.ext hw1)) ?_
          simp only [Act.put, Act.eval, List.setIfInBounds_toArray, List.set_cons_zero, List.set_cons_succ, Nat.reduceAdd, Array.getD_eq_getD_getElem?, List.getElem?_toArray, List.getElem?_cons_succ, List.getElem?_cons_zero, Option.getD_some]
          go_wp2_with fail
          exact HK.out _ (Reg.Ext.refl _)
        · simp only [Act.put, Act.eval, List.setIfInBounds_toArray, List.set_cons_zero, List.set_cons_succ, Nat.reduceAdd, Array.getD_eq_getD_getElem?, List.getElem?_toArray, List.getElem?_cons_succ, List.getElem?_cons_zero, Option.getD_some]
          rfl
        apply Reg.TW.call_ (c := .bool true) (fun _ => True) rfl (fun _ _ _ h => h)
        · intro w1 hw1 hf K hK
          simp only [Act.put, List.setIfInBounds_toArray, List.set_cons_zero, List.set_cons_succ] at hK
          have HK := Lib.hid hK
          clear hK
          unfold Reg.One; dsimp only
          go_wp2_with fail
          refine (less_is a b ha hb HP.out _).mono ?_
          rintro e w' ⟨rfl, hx⟩
          go_wp2_with fail
          exact HK.out _ hx trivial
        · simp only [Act.put, Act.eval, List.setIfInBounds_toArray, List.set_cons_zero, List.set_cons_succ, Nat.reduceAdd, Array.getD_eq_getD_getElem?, List.getElem?_toArray, List.getElem?_cons_succ, List.getElem?_cons_zero, Option.getD_some]
          rfl
        repeat (first
          | (apply Reg.TW.move_ Reg.Ext.refl _ rfl rfl
             · simp only [Act.put, Act.eval, List.setIfInBounds_toArray, List.set_cons_zero, List.set_cons_succ, Nat.reduceAdd, Array.getD_eq_getD_getElem?, List.getElem?_toArray, List.getElem?_cons_succ, List.getElem?_cons_zero, Option.getD_some]
               rfl)
          | (apply Reg.TW.assign_ Reg.Ext.refl _ rfl rfl
             · simp only [Act.put, Act.eval, List.setIfInBounds_toArray, List.set_cons_zero, List.set_cons_succ, Nat.reduceAdd, Array.getD_eq_getD_getElem?, List.getElem?_toArray, List.getElem?_cons_succ, List.getElem?_cons_zero, Option.getD_some]
               rfl)
          | (apply Reg.TW.skip_ rfl
             · simp only [Act.put, Act.eval, List.setIfInBounds_toArray, List.set_cons_zero, List.set_cons_succ, Nat.reduceAdd, Array.getD_eq_getD_getElem?, List.getElem?_toArray, List.getElem?_cons_succ, List.getElem?_cons_zero, Option.getD_some]
               rfl)
          | (apply Reg.TW.pure_ rfl
             · intro w1 hw1 hf K hK
               simp only [Act.put, List.setIfInBounds_toArray, List.set_cons_zero, List.set_cons_succ] at hK
               have HK := Lib.hid hK
               clear hf hK
               have q1 := HEQ.out
               unfold Reg.One; dsimp only
               go_wp2_with fail
               exact HK.out _ (Reg.Ext.refl _)
             · simp only [Act.put, Act.eval, List.setIfInBounds_toArray, List.set_cons_zero, List.set_cons_succ, Nat.reduceAdd, Array.getD_eq_getD_getElem?, List.getElem?_toArray, List.getElem?_cons_succ, List.getElem?_cons_zero, Option.getD_some]
               rfl))
        apply Reg.TW.pure_ (c := .agg ((a).map byteV).toArray) rfl
        · intro w1 hw1 hf K hK
          simp only [Act.put, List.setIfInBounds_toArray, List.set_cons_zero, List.set_cons_succ] at hK
          have HK := Lib.hid hK
          clear hK
          unfold Reg.One; dsimp only
          refine wpList_ld rfl _ rfl g1 rfl _ _ ha (Lib.hid (H1.out.ext hw1)) ?_
          simp only [Act.put, Act.eval, List.setIfInBounds_toArray, List.set_cons_zero, List.set_cons_succ, Nat.reduceAdd, Array.getD_eq_getD_getElem?, List.getElem?_toArray, List.getElem?_cons_succ, List.getElem?_cons_zero, Option.getD_some]
          go_wp2_with fail
          exact HK.out _ (Reg.Ext.refl _)
        · simp only [Act.put, Act.eval, List.setIfInBounds_toArray, List.set_cons_zero, List.set_cons_succ, Nat.reduceAdd, Array.getD_eq_getD_getElem?, List.getElem?_toArray, List.getElem?_cons_succ, List.getElem?_cons_zero, Option.getD_some]
          rfl
        apply Reg.TW.pure_ (c := .agg ((b).map byteV).toArray) rfl
        · intro w1 hw1 hf K hK
          simp only [Act.put, List.setIfInBounds_toArray, List.set_cons_zero, List.set_cons_succ] at hK
          have HK := Lib.hid hK
          clear hK
          unfold Reg.One; dsimp only
          refine wpList_ld rfl _ rfl g2 rfl _ _ hb (Lib.hid (H2.out.ext hw1)) ?_
          simp only [Act.put, Act.eval, List.setIfInBounds_toArray, List.set_cons_zero, List.set_cons_succ, Nat.reduceAdd, Array.getD_eq_getD_getElem?, List.getElem?_toArray, List.getElem?_cons_succ, List.getElem?_cons_zero, Option.getD_some]
          go_wp2_with fail
          exact HK.out _ (Reg.Ext.refl _)
        · simp only [Act.put, Act.eval, List.setIfInBounds_toArray, List.set_cons_zero, List.set_cons_succ, Nat.reduceAdd, Array.getD_eq_getD_getElem?, List.getElem?_toArray, List.getElem?_cons_succ, List.getElem?_cons_zero, Option.getD_some]
          rfl
        repeat (first
          | (apply Reg.TW.move_ Reg.Ext.refl _ rfl rfl
             · simp only [Act.put, Act.eval, List.setIfInBounds_toArray, List.set_cons_zero, List.set_cons_succ, Nat.reduceAdd, Array.getD_eq_getD_getElem?, List.getElem?_toArray, List.getElem?_cons_succ, List.getElem?_cons_zero, Option.getD_some]
               rfl)
          | (apply Reg.TW.assign_ Reg.Ext.refl _ rfl rfl
             · simp only [Act.put, Act.eval, List.setIfInBounds_toArray, List.set_cons_zero, List.set_cons_succ, Nat.reduceAdd, Array.getD_eq_getD_getElem?, List.getElem?_toArray, List.getElem?_cons_succ, List.getElem?_cons_zero, Option.getD_some]
               rfl)
          | (apply Reg.TW.skip_ rfl
             · simp only [Act.put, Act.eval, List.setIfInBounds_toArray, List.set_cons_zero, List.set_cons_succ, Nat.reduceAdd, Array.getD_eq_getD_getElem?, List.getElem?_toArray, List.getElem?_cons_succ, List.getElem?_cons_zero, Option.getD_some]
               rfl)
          | (apply Reg.TW.pure_ rfl
             · intro w1 hw1 hf K hK
               simp only [Act.put, List.setIfInBounds_toArray, List.set_cons_zero, List.set_cons_succ] at hK
               have HK := Lib.hid hK
               clear hf hK
               have q1 := HEQ.out
               unfold Reg.One; dsimp only
               go_wp2_with fail
               exact HK.out _ (Reg.Ext.refl _)
             · simp only [Act.put, Act.eval, List.setIfInBounds_toArray, List.set_cons_zero, List.set_cons_succ, Nat.reduceAdd, Array.getD_eq_getD_getElem?, List.getElem?_toArray, List.getElem?_cons_succ, List.getElem?_cons_zero, Option.getD_some]
               rfl))
        apply Reg.TW.pure_ (c := .agg ((a).map byteV).toArray) rfl
        · intro w1 hw1 hf K hK
          simp only [Act.put, List.setIfInBounds_toArray, List.set_cons_zero, List.set_cons_succ] at hK
          have HK := Lib.hid hK
          clear hK
          unfold Reg.One; dsimp only
          refine wpList_ld rfl _ rfl g1 rfl _ _ ha (Lib.hid (H1.out.ext hw1)) ?_
          simp only [Act.put, Act.eval, List.setIfInBounds_toArray, List.set_cons_zero, List.set_cons_succ, Nat.reduceAdd, Array.getD_eq_getD_getElem?, List.getElem?_toArray, List.getElem?_cons_succ, List.getElem?_cons_zero, Option.getD_some]
          go_wp2_with fail
          exact HK.out _ (Reg.Ext.refl _)
        · simp only [Act.put, Act.eval, List.setIfInBounds_toArray, List.set_cons_zero, List.set_cons_succ, Nat.reduceAdd, Array.getD_eq_getD_getElem?, List.getElem?_toArray, List.getElem?_cons_succ, List.getElem?_cons_zero, Option.getD_some]
          rfl
        apply Reg.TW.pure_ (c := .agg ((b).map byteV).toArray) rfl
        · intro w1 hw1 hf K hK
          simp only [Act.put, List.setIfInBounds_toArray, List.set_cons_zero, List.set_cons_succ] at hK
          have HK := Lib.hid hK
          clear hK
          unfold Reg.One; dsimp only
          refine wpList_ld rfl _ rfl g2 rfl _ _ hb (Lib.hid (H2.out.ext hw1)) ?_
          simp only [Act.put, Act.eval, List.setIfInBounds_toArray, List.set_cons_zero, List.set_cons_succ, Nat.reduceAdd, Array.getD_eq_getD_getElem?, List.getElem?_toArray, List.getElem?_cons_succ, List.getElem?_cons_zero, Option.getD_some]
          go_wp2_with fail
          exact HK.out _ (Reg.Ext.refl _)
        · simp only [Act.put, Act.eval, List.setIfInBounds_toArray, List.set_cons_zero, List.set_cons_succ, Nat.reduceAdd, Array.getD_eq_getD_getElem?, List.getElem?_toArray, List.getElem?_cons_succ, List.getElem?_cons_zero, Option.getD_some]
          rfl
        apply Reg.TW.call_ (c := .bool true) (fun _ => True) rfl (fun _ _ _ h => h)
        · intro w1 hw1 hf K hK
          simp only [Act.put, List.setIfInBounds_toArray, List.set_cons_zero, List.set_cons_succ] at hK
          have HK := Lib.hid hK
          clear hK
          unfold Reg.One; dsimp only
          go_wp2_with fail
          refine (less_is a b ha hb HP.out _).mono ?_
          rintro e w' ⟨rfl, hx⟩
          go_wp2_with fail
          exact HK.out _ hx trivial
        · simp only [Act.put, Act.eval, List.setIfInBounds_toArray, List.set_cons_zero, List.set_cons_succ, Nat.reduceAdd, Array.getD_eq_getD_getElem?, List.getElem?_toArray, List.getElem?_cons_succ, List.getElem?_cons_zero, Option.getD_some]
          rfl
        repeat (first
          | (apply Reg.TW.move_ Reg.Ext.refl _ rfl rfl
             · simp only [Act.put, Act.eval, List.setIfInBounds_toArray, List.set_cons_zero, List.set_cons_succ, Nat.reduceAdd, Array.getD_eq_getD_getElem?, List.getElem?_toArray, List.getElem?_cons_succ, List.getElem?_cons_zero, Option.getD_some]
               rfl)
          | (apply Reg.TW.assign_ Reg.Ext.refl _ rfl rfl
             · simp only [Act.put, Act.eval, List.setIfInBounds_toArray, List.set_cons_zero, List.set_cons_succ, Nat.reduceAdd, Array.getD_eq_getD_getElem?, List.getElem?_toArray, List.getElem?_cons_succ, List.getElem?_cons_zero, Option.getD_some]
               rfl)
          | (apply Reg.TW.skip_ rfl
             · simp only [Act.put, Act.eval, List.setIfInBounds_toArray, List.set_cons_zero, List.set_cons_succ, Nat.reduceAdd, Array.getD_eq_getD_getElem?, List.getElem?_toArray, List.getElem?_cons_succ, List.getElem?_cons_zero, Option.getD_some]
               rfl)
          | (apply Reg.TW.pure_ rfl
             · intro w1 hw1 hf K hK
               simp only [Act.put, List.setIfInBounds_toArray, List.set_cons_zero, List.set_cons_succ] at hK
               have HK := Lib.hid hK
               clear hf hK
               have q1 := HEQ.out
               unfold Reg.One; dsimp only
               go_wp2_with fail
               exact HK.out _ (Reg.Ext.refl _)
             · simp only [Act.put, Act.eval, List.setIfInBounds_toArray, List.set_cons_zero, List.set_cons_succ, Nat.reduceAdd, Array.getD_eq_getD_getElem?, List.getElem?_toArray, List.getElem?_cons_succ, List.getElem?_cons_zero, Option.getD_some]
               rfl))
        apply Reg.TW.pure_ (c := .agg ((b).map byteV).toArray) rfl
        · intro w1 hw1 hf K hK
          simp only [Act.put, List.setIfInBounds_toArray, List.set_cons_zero, List.set_cons_succ] at hK
          have HK := Lib.hid hK
          clear hK
          unfold Reg.One; dsimp only
          refine wpList_ld rfl _ rfl g2 rfl _ _ hb (Lib.hid (H2.out.ext hw1)) ?_
          simp only [Act.put, Act.eval, List.setIfInBounds_toArray, List.set_cons_zero, List.set_cons_succ, Nat.reduceAdd, Array.getD_eq_getD_getElem?, List.getElem?_toArray, List.getElem?_cons_succ, List.getElem?_cons_zero, Option.getD_some]
          go_wp2_with fail
          exact HK.out _ (Reg.Ext.refl _)
        · simp only [Act.put, Act.eval, List.setIfInBounds_toArray, List.set_cons_zero, List.set_cons_succ, Nat.reduceAdd, Array.getD_eq_getD_getElem?, List.getElem?_toArray, List.getElem?_cons_succ, List.getElem?_cons_zero, Option.getD_some]
          rfl
        apply Reg.TW.pure_ (c := .agg ((a).map byteV).toArray) rfl
        · intro w1 hw1 hf K hK
          simp only [Act.put, List.setIfInBounds_toArray, List.set_cons_zero, List.set_cons_succ] at hK
          have HK := Lib.hid hK
          clear hK
          unfold Reg.One; dsimp only
          refine wpList_ld rfl _ rfl g1 rfl _ _ ha (Lib.hid (H1.out.ext hw1)) ?_
          simp only [Act.put, Act.eval, List.setIfInBounds_toArray, List.set_cons_zero, List.set_cons_succ, Nat.reduceAdd, Array.getD_eq_getD_getElem?, List.getElem?_toArray, List.getElem?_cons_succ, List.getElem?_cons_zero, Option.getD_some]
          go_wp2_with fail
          exact HK.out _ (Reg.Ext.refl _)
        · simp only [Act.put, Act.eval, List.setIfInBounds_toArray, List.set_cons_zero, List.set_cons_succ, Nat.reduceAdd, Array.getD_eq_getD_getElem?, List.getElem?_toArray, List.getElem?_cons_succ, List.getElem?_cons_zero, Option.getD_some]
          rfl
        apply Reg.TW.call_ (c := .bool false) (fun _ => True) rfl (fun _ _ _ h => h)
        · intro w1 hw1 hf K hK
          simp only [Act.put, List.setIfInBounds_toArray, List.set_cons_zero, List.set_cons_succ] at hK
          have HK := Lib.hid hK
          clear hK
          unfold Reg.One; dsimp only
          go_wp2_with fail
          refine (less_is b a hb ha HBA.out _).mono ?_
          rintro e w' ⟨rfl, hx⟩
          go_wp2_with fail
          exact HK.out _ hx trivial
        · simp only [Act.put, Act.eval, List.setIfInBounds_toArray, List.set_cons_zero, List.set_cons_succ, Nat.reduceAdd, Array.getD_eq_getD_getElem?, List.getElem?_toArray, List.getElem?_cons_succ, List.getElem?_cons_zero, Option.getD_some]
          rfl
        repeat (first
          | (apply Reg.TW.move_ Reg.Ext.refl _ rfl rfl
             · simp only [Act.put, Act.eval, List.setIfInBounds_toArray, List.set_cons_zero, List.set_cons_succ, Nat.reduceAdd, Array.getD_eq_getD_getElem?, List.getElem?_toArray, List.getElem?_cons_succ, List.getElem?_cons_zero, Option.getD_some]
               rfl)
          | (apply Reg.TW.assign_ Reg.Ext.refl _ rfl rfl
             · simp only [Act.put, Act.eval, List.setIfInBounds_toArray, List.set_cons_zero, List.set_cons_succ, Nat.reduceAdd, Array.getD_eq_getD_getElem?, List.getElem?_toArray, List.getElem?_cons_succ, List.getElem?_cons_zero, Option.getD_some]
               rfl)
          | (apply Reg.TW.skip_ rfl
             · simp only [Act.put, Act.eval, List.setIfInBounds_toArray, List.set_cons_zero, List.set_cons_succ, Nat.reduceAdd, Array.getD_eq_getD_getElem?, List.getElem?_toArray, List.getElem?_cons_succ, List.getElem?_cons_zero, Option.getD_some]
               rfl)
          | (apply Reg.TW.pure_ rfl
             · intro w1 hw1 hf K hK
               simp only [Act.put, List.setIfInBounds_toArray, List.set_cons_zero, List.set_cons_succ] at hK
               have HK := Lib.hid hK
               clear hf hK
               have q1 := HEQ.out
               unfold Reg.One; dsimp only
               go_wp2_with fail
               exact HK.out _ (Reg.Ext.refl _)
             · simp only [Act.put, Act.eval, List.setIfInBounds_toArray, List.set_cons_zero, List.set_cons_succ, Nat.reduceAdd, Array.getD_eq_getD_getElem?, List.getElem?_toArray, List.getElem?_cons_succ, List.getElem?_cons_zero, Option.getD_some]
               rfl))
        refine Reg.TW.nil_ ?_
        intro w9 hw9 _
        go_wp2
        go_ret
        exact ⟨rfl, X.out.trans hw9⟩
      case hlen => rfl
  | false =>
    cases hs : lessL b a with
    | true =>
      have hne : (a == b) = false := by rw [hp, hs] at hab; simpa using hab.symm
      rw [hne] at hEQ
      have HP := Lib.hid hp
      have HBA := Lib.hid hs
      have HEQ := Lib.hid hEQ
      clear hab has hp hs hne hEQ
      refine (less_is a b ha hb HP.out _).mono ?_
      rintro e wn ⟨rfl, xn⟩
      have X := Lib.hid (X.out.trans xn)
      have H1 := Lib.hid (H1.out.ext xn)
      have H2 := Lib.hid (H2.out.ext xn)
      have H3 := Lib.hid (H3.out.ext xn)
      clear xn
      rename_i hK
      refine hK _ _ ?_
      repeat (first | refine wpList_ld rfl _ rfl g1 rfl _ a ha H1 ?_ | refine wpList_ld rfl _ rfl g2 rfl _ b hb H2 ?_ | refine wpList_ld rfl _ rfl g3 rfl _ c hc H3 ?_ | go_step)
      refine (less_is a a ha ha hEs.out _).mono ?_
      rintro e wn ⟨rfl, xn⟩
      have X := Lib.hid (X.out.trans xn)
      have H1 := Lib.hid (H1.out.ext xn)
      have H2 := Lib.hid (H2.out.ext xn)
      have H3 := Lib.hid (H3.out.ext xn)
      clear xn
      rename_i hK
      refine hK _ _ ?_
      repeat (first | refine wpList_ld rfl _ rfl g1 rfl _ a ha H1 ?_ | refine wpList_ld rfl _ rfl g2 rfl _ b hb H2 ?_ | refine wpList_ld rfl _ rfl g3 rfl _ c hc H3 ?_ | go_step)
      go_wp2_with fail
      apply Reg.wp_tab Reg.Ext (by kernel_rfl) (by kernel_rfl) Reg.Ext.refl (fun _ _ _ => Reg.Ext.trans) (Reg.Ext.drew _)
      case h =>
        intro O
        apply Reg.TW.pure_ (c := .agg ((a).map byteV).toArray) rfl
        · intro w1 hw1 hf K hK
          simp only [Act.put, List.setIfInBounds_toArray, List.set_cons_zero, List.set_cons_succ] at hK
          have HK := Lib.hid hK
          clear hK
          unfold Reg.One; dsimp only
          refine wpList_ld rfl _ rfl g1 rfl _ _ ha (Lib.hid (H1.out.ext hw1)) ?_
          simp only [Act.put, Act.eval, List.setIfInBounds_toArray, List.set_cons_zero, List.set_cons_succ, Nat.reduceAdd, Array.getD_eq_getD_getElem?, List.getElem?_toArray, List.getElem?_cons_succ, List.getElem?_cons_zero, Option.getD_some]
          go_wp2_with fail
          exact HK.out _ (Reg.Ext.refl _)
        · simp only [Act.put, Act.eval, List.setIfInBounds_toArray, List.set_cons_zero, List.set_cons_succ, Nat.reduceAdd, Array.getD_eq_getD_getElem?, List.getElem?_toArray, List.getElem?_cons_succ, List.getElem?_cons_zero, Option.getD_some]
          rfl
        apply Reg.TW.pure_ (c := .agg ((b).map byteV).toArray) rfl
        · intro w1 hw1 hf K hK
          simp only [Act.put, List.setIfInBounds_toArray, List.set_cons_zero, List.set_cons_succ] at hK
          have HK := Lib.hid hK
          clear hK
          unfold Reg.One; dsimp only
          refine wpList_ld rfl _ rfl g2 rfl _ _ hb (Lib.hid (H2.out.ext hw1)) ?_
          simp only [Act.put, Act.eval, List.setIfInBounds_toArray, List.set_cons_zero, List.set_cons_succ, Nat.reduceAdd, Array.getD_eq_getD_getElem?, List.getElem?_toArray, List.getElem?_cons_succ, List.getElem?_cons_zero, Option.getD_some]
          go_wp2_with fail
          exact HK.out _ (Reg.Ext.refl _)
        · simp only [Act.put, Act.eval, List.setIfInBounds_toArray, List.set_cons_zero, List.set_cons_succ, Nat.reduceAdd, Array.getD_eq_getD_getElem?, List.getElem?_toArray, List.getElem?_cons_succ, List.getElem?_cons_zero, Option.getD_some]
          rfl
        apply Reg.TW.call_ (c := .bool false) (fun _ => True) rfl (fun _ _ _ h => h)
        · intro w1 hw1 hf K hK
          simp only [Act.put, List.setIfInBounds_toArray, List.set_cons_zero, List.set_cons_succ] at hK
          have HK := Lib.hid hK
          clear hK
          unfold Reg.One; dsimp only
          go_wp2_with fail
          refine (less_is a b ha hb HP.out _).mono ?_
          rintro e w' ⟨rfl, hx⟩
          go_wp2_with fail
          exact HK.out _ hx trivial
        · simp only [Act.put, Act.eval, List.setIfInBounds_toArray, List.set_cons_zero, List.set_cons_succ, Nat.reduceAdd, Array.getD_eq_getD_getElem?, List.getElem?_toArray, List.getElem?_cons_succ, List.getElem?_cons_zero, Option.getD_some]
          rfl
        repeat (first
          | (apply Reg.TW.move_ Reg.Ext.refl _ rfl rfl
             · simp only [Act.put, Act.eval, List.setIfInBounds_toArray, List.set_cons_zero, List.set_cons_succ, Nat.reduceAdd, Array.getD_eq_getD_getElem?, List.getElem?_toArray, List.getElem?_cons_succ, List.getElem?_cons_zero, Option.getD_some]
               rfl)
          | (apply Reg.TW.assign_ Reg.Ext.refl _ rfl rfl
             · simp only [Act.put, Act.eval, List.setIfInBounds_toArray, List.set_cons_zero, List.set_cons_succ, Nat.reduceAdd, Array.getD_eq_getD_getElem?, List.getElem?_toArray, List.getElem?_cons_succ, List.getElem?_cons_zero, Option.getD_some]
               rfl)
          | (apply Reg.TW.skip_ rfl
             · simp only [Act.put, Act.eval, List.setIfInBounds_toArray, List.set_cons_zero, List.set_cons_succ, Nat.reduceAdd, Array.getD_eq_getD_getElem?, List.getElem?_toArray, List.getElem?_cons_succ, List.getElem?_cons_zero, Option.getD_some]
               rfl)
          | (apply Reg.TW.pure_ rfl
             · intro w1 hw1 hf K hK
               simp only [Act.put, List.setIfInBounds_toArray, List.set_cons_zero, List.set_cons_succ] at hK
               have HK := Lib.hid hK
               clear hf hK
               have q1 := HEQ.out
               unfold Reg.One; dsimp only
               go_wp2_with fail
               exact HK.out _ (Reg.Ext.refl _)
             · simp only [Act.put, Act.eval, List.setIfInBounds_toArray, List.set_cons_zero, List.set_cons_succ, Nat.reduceAdd, Array.getD_eq_getD_getElem?, List.getElem?_toArray, List.getElem?_cons_succ, List.getElem?_cons_zero, Option.getD_some]
               rfl))
        apply Reg.TW.pure_ (c := .agg ((b).map byteV).toArray) rfl
        · intro w1 hw1 hf K hK
          simp only [Act.put, List.setIfInBounds_toArray, List.set_cons_zero, List.set_cons_succ] at hK
          have HK := Lib.hid hK
          clear hK
          unfold Reg.One; dsimp only
          refine wpList_ld rfl _ rfl g2 rfl _ _ hb (Lib.hid (H2.out.ext hw1)) ?_
          simp only [Act.put, Act.eval, List.setIfInBounds_toArray, List.set_cons_zero, List.set_cons_succ, Nat.reduceAdd, Array.getD_eq_getD_getElem?, List.getElem?_toArray, List.getElem?_cons_succ, List.getElem?_cons_zero, Option.getD_some]
          go_wp2_with fail
          exact HK.out _ (Reg.Ext.refl _)
        · simp only [Act.put, Act.eval, List.setIfInBounds_toArray, List.set_cons_zero, List.set_cons_succ, Nat.reduceAdd, Array.getD_eq_getD_getElem?, List.getElem?_toArray, List.getElem?_cons_succ, List.getElem?_cons_zero, Option.getD_some]
          rfl
        apply Reg.TW.pure_ (c := .agg ((a).map byteV).toArray) rfl
        · intro w1 hw1 hf K hK
          simp only [Act.put, List.setIfInBounds_toArray, List.set_cons_zero, List.set_cons_succ] at hK
          have HK := Lib.hid hK
          clear hK
          unfold Reg.One; dsimp only
          refine wpList_ld rfl _ rfl g1 rfl _ _ ha (Lib.hid (H1.out.ext hw1)) ?_
          simp only [Act.put, Act.eval, List.setIfInBounds_toArray, List.set_cons_zero, List.set_cons_succ, Nat.reduceAdd, Array.getD_eq_getD_getElem?, List.getElem?_toArray, List.getElem?_cons_succ, List.getElem?_cons_zero, Option.getD_some]
          go_wp2_with fail
          exact HK.out _ (Reg.Ext.refl _)
        · simp only [Act.put, Act.eval, List.setIfInBounds_toArray, List.set_cons_zero, List.set_cons_succ, Nat.reduceAdd, Array.getD_eq_getD_getElem?, List.getElem?_toArray, List.getElem?_cons_succ, List.getElem?_cons_zero, Option.getD_some]
          rfl
        apply Reg.TW.call_ (c := .bool true) (fun _ => True) rfl (fun _ _ _ h => h)
        · intro w1 hw1 hf K hK
          simp only [Act.put, List.setIfInBounds_toArray, List.set_cons_zero, List.set_cons_succ] at hK
          have HK := Lib.hid hK
          clear hK
          unfold Reg.One; dsimp only
          go_wp2_with fail
          refine (less_is b a hb ha HBA.out _).mono ?_
          rintro e w' ⟨rfl, hx⟩
          go_wp2_with fail
          exact HK.out _ hx trivial
        · simp only [Act.put, Act.eval, List.setIfInBounds_toArray, List.set_cons_zero, List.set_cons_succ, Nat.reduceAdd, Array.getD_eq_getD_getElem?, List.getElem?_toArray, List.getElem?_cons_succ, List.getElem?_cons_zero, Option.getD_some]
          rfl
        repeat (first
          | (apply Reg.TW.move_ Reg.Ext.refl _ rfl rfl
             · simp only [Act.put, Act.eval, List.setIfInBounds_toArray, List.set_cons_zero, List.set_cons_succ, Nat.reduceAdd, Array.getD_eq_getD_getElem?, List.getElem?_toArray, List.getElem?_cons_succ, List.getElem?_cons_zero, Option.getD_some]
               rfl)
          | (apply Reg.TW.assign_ Reg.Ext.refl _ rfl rfl
             · simp only [Act.put, Act.eval, List.setIfInBounds_toArray, List.set_cons_zero, List.set_cons_succ, Nat.reduceAdd, Array.getD_eq_getD_getElem?, List.getElem?_toArray, List.getElem?_cons_succ, List.getElem?_cons_zero, Option.getD_some]
               rfl)
          | (apply Reg.TW.skip_ rfl
             · simp only [Act.put, Act.eval, List.setIfInBounds_toArray, List.set_cons_zero, List.set_cons_succ, Nat.reduceAdd, Array.getD_eq_getD_getElem?, List.getElem?_toArray, List.getElem?_cons_succ, List.getElem?_cons_zero, Option.getD_some]
               rfl)
          | (apply Reg.TW.pure_ rfl
             · intro w1 hw1 hf K hK
               simp only [Act.put, List.setIfInBounds_toArray, List.set_cons_zero, List.set_cons_succ] at hK
               have HK := Lib.hid hK
               clear hf hK
               have q1 := HEQ.out
               unfold Reg.One; dsimp only
               go_wp2_with fail
               exact HK.out _ (Reg.Ext.refl _)
             · simp only [Act.put, Act.eval, List.setIfInBounds_toArray, List.set_cons_zero, List.set_cons_succ, Nat.reduceAdd, Array.getD_eq_getD_getElem?, List.getElem?_toArray, List.getElem?_cons_succ, List.getElem?_cons_zero, Option.getD_some]
               rfl))
        apply Reg.TW.pure_ (c := .agg ((a).map byteV).toArray) rfl
        · intro w1 hw1 hf K hK
          simp only [Act.put, List.setIfInBounds_toArray, List.set_cons_zero, List.set_cons_succ] at hK
          have HK := Lib.hid hK
          clear hK
          unfold Reg.One; dsimp only
          refine wpList_ld rfl _ rfl g1 rfl _ _ ha (Lib.hid (H1.out.ext hw1)) ?_
          simp only [Act.put, Act.eval, List.setIfInBounds_toArray, List.set_cons_zero, List.set_cons_succ, Nat.reduceAdd, Array.getD_eq_getD_getElem?, List.getElem?_toArray, List.getElem?_cons_succ, List.getElem?_cons_zero, Option.getD_some]
          go_wp2_with fail
          exact HK.out _ (Reg.Ext.refl _)
        · simp only [Act.put, Act.eval, List.setIfInBounds_toArray, List.set_cons_zero, List.set_cons_succ, Nat.reduceAdd, Array.getD_eq_getD_getElem?, List.getElem?_toArray, List.getElem?_cons_succ, List.getElem?_cons_zero, Option.getD_some]
          rfl
        apply Reg.TW.pure_ (c := .agg ((b).map byteV).toArray) rfl
        · intro w1 hw1 hf K hK
          simp only [Act.put, List.setIfInBounds_toArray, List.set_cons_zero, List.set_cons_succ] at hK
          have HK := Lib.hid hK
          clear hK
          unfold Reg.One; dsimp only
          refine wpList_ld rfl _ rfl g2 rfl _ _ hb (Lib.hid (H2.out.ext hw1)) ?_
          simp only [Act.put, Act.eval, List.setIfInBounds_toArray, List.set_cons_zero, List.set_cons_succ, Nat.reduceAdd, Array.getD_eq_getD_getElem?, List.getElem?_toArray, List.getElem?_cons_succ, List.getElem?_cons_zero, Option.getD_some]
          go_wp2_with fail
          exact HK.out _ (Reg.Ext.refl _)
        · simp only [Act.put, Act.eval, List.setIfInBounds_toArray, List.set_cons_zero, List.set_cons_succ, Nat.reduceAdd, Array.getD_eq_getD_getElem?, List.getElem?_toArray, List.getElem?_cons_succ, List.getElem?_cons_zero, Option.getD_some]
          rfl
        repeat (first
          | (apply Reg.TW.move_ Reg.Ext.refl _ rfl rfl
             · simp only [Act.put, Act.eval, List.setIfInBounds_toArray, List.set_cons_zero, List.set_cons_succ, Nat.reduceAdd, Array.getD_eq_getD_getElem?, List.getElem?_toArray, List.getElem?_cons_succ, List.getElem?_cons_zero, Option.getD_some]
               rfl)
          | (apply Reg.TW.assign_ Reg.Ext.refl _ rfl rfl
             · simp only [Act.put, Act.eval, List.setIfInBounds_toArray, List.set_cons_zero, List.set_cons_succ, Nat.reduceAdd, Array.getD_eq_getD_getElem?, List.getElem?_toArray, List.getElem?_cons_succ, List.getElem?_cons_zero, Option.getD_some]
               rfl)
          | (apply Reg.TW.skip_ rfl
             · simp only [Act.put, Act.eval, List.setIfInBounds_toArray, List.set_cons_zero, List.set_cons_succ, Nat.reduceAdd, Array.getD_eq_getD_getElem?, List.getElem?_toArray, List.getElem?_cons_succ, List.getElem?_cons_zero, Option.getD_some]
               rfl)
          | (apply Reg.TW.pure_ rfl
             · intro w1 hw1 hf K hK
               simp only [Act.put, List.setIfInBounds_toArray, List.set_cons_zero, List.set_cons_succ] at hK
               have HK := Lib.hid hK
               clear hf hK
               have q1 := HEQ.out
               unfold Reg.One; dsimp only
               go_wp2_with fail
               exact HK.out _ (Reg.Ext.refl _)
             · simp only [Act.put, Act.eval, List.setIfInBounds_toArray, List.set_cons_zero, List.set_cons_succ, Nat.reduceAdd, Array.getD_eq_getD_getElem?, List.getElem?_toArray, List.getElem?_cons_succ, List.getElem?_cons_zero, Option.getD_some]
               rfl))
        apply Reg.TW.pure_ (c := .agg ((a).map byteV).toArray) rfl
        · intro w1 hw1 hf K hK
          simp only [Act.put, List.setIfInBounds_toArray, List.set_cons_zero, List.set_cons_succ] at hK
          have HK := Lib.hid hK
          clear hK
          unfold Reg.One; dsimp only
          refine wpList_ld rfl _ rfl g1 rfl _ _ ha (Lib.hid (H1.out.ext hw1)) ?_
          simp only [Act.put, Act.eval, List.setIfInBounds_toArray, List.set_cons_zero, List.set_cons_succ, Nat.reduceAdd, Array.getD_eq_getD_getElem?, List.getElem?_toArray, List.getElem?_cons_succ, List.getElem?_cons_zero, Option.getD_some]
          go_wp2_with fail
          exact HK.out _ (Reg.Ext.refl _)
        · simp only [Act.put, Act.eval, List.setIfInBounds_toArray, List.set_cons_zero, List.set_cons_succ, Nat.reduceAdd, Array.getD_eq_getD_getElem?, List.getElem?_toArray, List.getElem?_cons_succ, List.getElem?_cons_zero, Option.getD_some]
          rfl
        apply Reg.TW.pure_ (c := .agg ((b).map byteV).toArray) rfl
        · intro w1 hw1 hf K hK
          simp only [Act.put, List.setIfInBounds_toArray, List.set_cons_zero, List.set_cons_succ] at hK
          have HK := Lib.hid hK
          clear hK
          unfold Reg.One; dsimp only
          refine wpList_ld rfl _ rfl g2 rfl _ _ hb (Lib.hid (H2.out.ext hw1)) ?_
          simp only [Act.put, Act.eval, List.setIfInBounds_toArray, List.set_cons_zero, List.set_cons_succ, Nat.reduceAdd, Array.getD_eq_getD_getElem?, List.getElem?_toArray, List.getElem?_cons_succ, List.getElem?_cons_zero, Option.getD_some]
          go_wp2_with fail
          exact HK.out _ (Reg.Ext.refl _)
        · simp only [Act.put, Act.eval, List.setIfInBounds_toArray, List.set_cons_zero, List.set_cons_succ, Nat.reduceAdd, Array.getD_eq_getD_getElem?, List.getElem?_toArray, List.getElem?_cons_succ, List.getElem?_cons_zero, Option.getD_some]
          rfl
        apply Reg.TW.call_ (c := .bool false) (fun _ => True) rfl (fun _ _ _ h => h)
        · intro w1 hw1 hf K hK
          simp only [Act.put, List.setIfInBounds_toArray, List.set_cons_zero, List.set_cons_succ] at hK
          have HK := Lib.hid hK
          clear hK
          unfold Reg.One; dsimp only
          go_wp2_with fail
          refine (less_is a b ha hb HP.out _).mono ?_
          rintro e w' ⟨rfl, hx⟩
          go_wp2_with fail
          exact HK.out _ hx trivial
        · simp only [Act.put, Act.eval, List.setIfInBounds_toArray, List.set_cons_zero, List.set_cons_succ, Nat.reduceAdd, Array.getD_eq_getD_getElem?, List.getElem?_toArray, List.getElem?_cons_succ, List.getElem?_cons_zero, Option.getD_some]
          rfl
        repeat (first
          | (apply Reg.TW.move_ Reg.Ext.refl _ rfl rfl
             · simp only [Act.put, Act.eval, List.setIfInBounds_toArray, List.set_cons_zero, List.set_cons_succ, Nat.reduceAdd, Array.getD_eq_getD_getElem?, List.getElem?_toArray, List.getElem?_cons_succ, List.getElem?_cons_zero, Option.getD_some]
               rfl)
          | (apply Reg.TW.assign_ Reg.Ext.refl _ rfl rfl
             · simp only [Act.put, Act.eval, List.setIfInBounds_toArray, List.set_cons_zero, List.set_cons_succ, Nat.reduceAdd, Array.getD_eq_getD_getElem?, List.getElem?_toArray, List.getElem?_cons_succ, List.getElem?_cons_zero, Option.getD_some]
               rfl)
          | (apply Reg.TW.skip_ rfl
             · simp only [Act.put, Act.eval, List.setIfInBounds_toArray, List.set_cons_zero, List.set_cons_succ, Nat.reduceAdd, Array.getD_eq_getD_getElem?, List.getElem?_toArray, List.getElem?_cons_succ, List.getElem?_cons_zero, Option.getD_some]
               rfl)
          | (apply Reg.TW.pure_ rfl
             · intro w1 hw1 hf K hK
               simp only [Act.put, List.setIfInBounds_toArray, List.set_cons_zero, List.set_cons_succ] at hK
               have HK := Lib.hid hK
               clear hf hK
               have q1 := HEQ.out
               unfold Reg.One; dsimp only
               go_wp2_with fail
               exact HK.out _ (Reg.Ext.refl _)
             · simp only [Act.put, Act.eval, List.setIfInBounds_toArray, List.set_cons_zero, List.set_cons_succ, Nat.reduceAdd, Array.getD_eq_getD_getElem?, List.getElem?_toArray, List.getElem?_cons_succ, List.getElem?_cons_zero, Option.getD_some]
               rfl))
        refine Reg.TW.nil_ ?_
        intro w9 hw9 _
        go_wp2
        go_ret
        exact ⟨rfl, X.out.trans hw9⟩
      case hlen => rfl
    | false =>
      have hne : (a == b) = true := by rw [hp, hs] at hab; simpa using hab.symm
      rw [hne] at hEQ
      have HP := Lib.hid hp
      have HBA := Lib.hid hs
      have HEQ := Lib.hid hEQ
      clear hab has hp hs hne hEQ
      refine (less_is a b ha hb HP.out _).mono ?_
      rintro e wn ⟨rfl, xn⟩
      have X := Lib.hid (X.out.trans xn)
      have H1 := Lib.hid (H1.out.ext xn)
      have H2 := Lib.hid (H2.out.ext xn)
      have H3 := Lib.hid (H3.out.ext xn)
      clear xn
      rename_i hK
      refine hK _ _ ?_
      repeat (first | refine wpList_ld rfl _ rfl g1 rfl _ a ha H1 ?_ | refine wpList_ld rfl _ rfl g2 rfl _ b hb H2 ?_ | refine wpList_ld rfl _ rfl g3 rfl _ c hc H3 ?_ | go_step)
      refine (less_is a a ha ha hEs.out _).mono ?_
      rintro e wn ⟨rfl, xn⟩
      have X := Lib.hid (X.out.trans xn)
      have H1 := Lib.hid (H1.out.ext xn)
      have H2 := Lib.hid (H2.out.ext xn)
      have H3 := Lib.hid (H3.out.ext xn)
      clear xn
      rename_i hK
      refine hK _ _ ?_
      repeat (first | refine wpList_ld rfl _ rfl g1 rfl _ a ha H1 ?_ | refine wpList_ld rfl _ rfl g2 rfl _ b hb H2 ?_ | refine wpList_ld rfl _ rfl g3 rfl _ c hc H3 ?_ | go_step)
      go_wp2_with fail
      apply Reg.wp_tab Reg.Ext (by kernel_rfl) (by kernel_rfl) Reg.Ext.refl (fun _ _ _ => Reg.Ext.trans) (Reg.Ext.drew _)
      case h =>
        intro O
        apply Reg.TW.pure_ (c := .agg ((a).map byteV).toArray) rfl
        · intro w1 hw1 hf K hK
          simp only [Act.put, List.setIfInBounds_toArray, List.set_cons_zero, List.set_cons_succ] at hK
          have HK := Lib.hid hK
          clear hK
          unfold Reg.One; dsimp only
          refine wpList_ld rfl _ rfl g1 rfl _ _ ha (Lib.hid (H1.out.ext hw1)) ?_
          simp only [Act.put, Act.eval, List.setIfInBounds_toArray, List.set_cons_zero, List.set_cons_succ, Nat.reduceAdd, Array.getD_eq_getD_getElem?, List.getElem?_toArray, List.getElem?_cons_succ, List.getElem?_cons_zero, Option.getD_some]
          go_wp2_with fail
          exact HK.out _ (Reg.Ext.refl _)
        · simp only [Act.put, Act.eval, List.setIfInBounds_toArray, List.set_cons_zero, List.set_cons_succ, Nat.reduceAdd, Array.getD_eq_getD_getElem?, List.getElem?_toArray, List.getElem?_cons_succ, List.getElem?_cons_zero, Option.getD_some]
          rfl
        apply Reg.TW.pure_ (c := .agg ((b).map byteV).toArray) rfl
        · intro w1 hw1 hf K hK
          simp only [Act.put, List.setIfInBounds_toArray, List.set_cons_zero, List.set_cons_succ] at hK
          have HK := Lib.hid hK
          clear hK
          unfold Reg.One; dsimp only
          refine wpList_ld rfl _ rfl g2 rfl _ _ hb (Lib.hid (H2.out.ext hw1)) ?_
          simp only [Act.put, Act.eval, List.setIfInBounds_toArray, List.set_cons_zero, List.set_cons_succ, Nat.reduceAdd, Array.getD_eq_getD_getElem?, List.getElem?_toArray, List.getElem?_cons_succ, List.getElem?_cons_zero, Option.getD_some]
          go_wp2_with fail
          exact HK.out _ (Reg.Ext.refl _)
        · simp only [Act.put, Act.eval, List.setIfInBounds_toArray, List.set_cons_zero, List.set_cons_succ, Nat.reduceAdd, Array.getD_eq_getD_getElem?, List.getElem?_toArray, List.getElem?_cons_succ, List.getElem?_cons_zero, Option.getD_some]
          rfl
        apply Reg.TW.call_ (c := .bool false) (fun _ => True) rfl (fun _ _ _ h => h)
        · intro w1 hw1 hf K hK
          simp only [Act.put, List.setIfInBounds_toArray, List.set_cons_zero, List.set_cons_succ] at hK
          have HK := Lib.hid hK
          clear hK
          unfold Reg.One; dsimp only
          go_wp2_with fail
          refine (less_is a b ha hb HP.out _).mono ?_
          rintro e w' ⟨rfl, hx⟩
          go_wp2_with fail
          exact HK.out _ hx trivial
        · simp only [Act.put, Act.eval, List.setIfInBounds_toArray, List.set_cons_zero, List.set_cons_succ, Nat.reduceAdd, Array.getD_eq_getD_getElem?, List.getElem?_toArray, List.getElem?_cons_succ, List.getElem?_cons_zero, Option.getD_some]
          rfl
        repeat (first
          | (apply Reg.TW.move_ Reg.Ext.refl _ rfl rfl
             · simp only [Act.put, Act.eval, List.setIfInBounds_toArray, List.set_cons_zero, List.set_cons_succ, Nat.reduceAdd, Array.getD_eq_getD_getElem?, List.getElem?_toArray, List.getElem?_cons_succ, List.getElem?_cons_zero, Option.getD_some]
               rfl)
          | (apply Reg.TW.assign_ Reg.Ext.refl _ rfl rfl
             · simp only [Act.put, Act.eval, List.setIfInBounds_toArray, List.set_cons_zero, List.set_cons_succ, Nat.reduceAdd, Array.getD_eq_getD_getElem?, List.getElem?_toArray, List.getElem?_cons_succ, List.getElem?_cons_zero, Option.getD_some]
               rfl)
          | (apply Reg.TW.skip_ rfl
             · simp only [Act.put, Act.eval, List.setIfInBounds_toArray, List.set_cons_zero, List.set_cons_succ, Nat.reduceAdd, Array.getD_eq_getD_getElem?, List.getElem?_toArray, List.getElem?_cons_succ, List.getElem?_cons_zero, Option.getD_some]
               rfl)
          | (apply Reg.TW.pure_ rfl
             · intro w1 hw1 hf K hK
               simp only [Act.put, List.setIfInBounds_toArray, List.set_cons_zero, List.set_cons_succ] at hK
               have HK := Lib.hid hK
               clear hf hK
               have q1 := HEQ.out
               unfold Reg.One; dsimp only
               go_wp2_with fail
               exact HK.out _ (Reg.Ext.refl _)
             · simp only [Act.put, Act.eval, List.setIfInBounds_toArray, List.set_cons_zero, List.set_cons_succ, Nat.reduceAdd, Array.getD_eq_getD_getElem?, List.getElem?_toArray, List.getElem?_cons_succ, List.getElem?_cons_zero, Option.getD_some]
               rfl))
        apply Reg.TW.pure_ (c := .agg ((b).map byteV).toArray) rfl
        · intro w1 hw1 hf K hK
          simp only [Act.put, List.setIfInBounds_toArray, List.set_cons_zero, List.set_cons_succ] at hK
          have HK := Lib.hid hK
          clear hK
          unfold Reg.One; dsimp only
          refine wpList_ld rfl _ rfl g2 rfl _ _ hb (Lib.hid (H2.out.ext hw1)) ?_
          simp only [Act.put, Act.eval, List.setIfInBounds_toArray, List.set_cons_zero, List.set_cons_succ, Nat.reduceAdd, Array.getD_eq_getD_getElem?, List.getElem?_toArray, List.getElem?_cons_succ, List.getElem?_cons_zero, Option.getD_some]
          go_wp2_with fail
          exact HK.out _ (Reg.Ext.refl _)
        · simp only [Act.put, Act.eval, List.setIfInBounds_toArray, List.set_cons_zero, List.set_cons_succ, Nat.reduceAdd, Array.getD_eq_getD_getElem?, List.getElem?_toArray, List.getElem?_cons_succ, List.getElem?_cons_zero, Option.getD_some]
          rfl
        apply Reg.TW.pure_ (c := .agg ((a).map byteV).toArray) rfl
        · intro w1 hw1 hf K hK
          simp only [Act.put, List.setIfInBounds_toArray, List.set_cons_zero, List.set_cons_succ] at hK
          have HK := Lib.hid hK
          clear hK
          unfold Reg.One; dsimp only
          refine wpList_ld rfl _ rfl g1 rfl _ _ ha (Lib.hid (H1.out.ext hw1)) ?_
          simp only [Act.put, Act.eval, List.setIfInBounds_toArray, List.set_cons_zero, List.set_cons_succ, Nat.reduceAdd, Array.getD_eq_getD_getElem?, List.getElem?_toArray, List.getElem?_cons_succ, List.getElem?_cons_zero, Option.getD_some]
          go_wp2_with fail
          exact HK.out _ (Reg.Ext.refl _)
        · simp only [Act.put, Act.eval, List.setIfInBounds_toArray, List.set_cons_zero, List.set_cons_succ, Nat.reduceAdd, Array.getD_eq_getD_getElem?, List.getElem?_toArray, List.getElem?_cons_succ, List.getElem?_cons_zero, Option.getD_some]
          rfl
        apply Reg.TW.call_ (c := .bool false) (fun _ => True) rfl (fun _ _ _ h => h)
        · intro w1 hw1 hf K hK
          simp only [Act.put, List.setIfInBounds_toArray, List.set_cons_zero, List.set_cons_succ] at hK
          have HK := Lib.hid hK
          clear hK
          unfold Reg.One; dsimp only
          go_wp2_with fail
          refine (less_is b a hb ha HBA.out _).mono ?_
          rintro e w' ⟨rfl, hx⟩
          go_wp2_with fail
          exact HK.out _ hx trivial
        · simp only [Act.put, Act.eval, List.setIfInBounds_toArray, List.set_cons_zero, List.set_cons_succ, Nat.reduceAdd, Array.getD_eq_getD_getElem?, List.getElem?_toArray, List.getElem?_cons_succ, List.getElem?_cons_zero, Option.getD_some]
          rfl
        repeat (first
          | (apply Reg.TW.move_ Reg.Ext.refl _ rfl rfl
             · simp only [Act.put, Act.eval, List.setIfInBounds_toArray, List.set_cons_zero, List.set_cons_succ, Nat.reduceAdd, Array.getD_eq_getD_getElem?, List.getElem?_toArray, List.getElem?_cons_succ, List.getElem?_cons_zero, Option.getD_some]
               rfl)
          | (apply Reg.TW.assign_ Reg.Ext.refl _ rfl rfl
             · simp only [Act.put, Act.eval, List.setIfInBounds_toArray, List.set_cons_zero, List.set_cons_succ, Nat.reduceAdd, Array.getD_eq_getD_getElem?, List.getElem?_toArray, List.getElem?_cons_succ, List.getElem?_cons_zero, Option.getD_some]
               rfl)
          | (apply Reg.TW.skip_ rfl
             · simp only [Act.put, Act.eval, List.setIfInBounds_toArray, List.set_cons_zero, List.set_cons_succ, Nat.reduceAdd, Array.getD_eq_getD_getElem?, List.getElem?_toArray, List.getElem?_cons_succ, List.getElem?_cons_zero, Option.getD_some]
               rfl)
          | (apply Reg.TW.pure_ rfl
             · intro w1 hw1 hf K hK
               simp only [Act.put, List.setIfInBounds_toArray, List.set_cons_zero, List.set_cons_succ] at hK
               have HK := Lib.hid hK
               clear hf hK
               have q1 := HEQ.out
               unfold Reg.One; dsimp only
               go_wp2_with fail
               exact HK.out _ (Reg.Ext.refl _)
             · simp only [Act.put, Act.eval, List.setIfInBounds_toArray, List.set_cons_zero, List.set_cons_succ, Nat.reduceAdd, Array.getD_eq_getD_getElem?, List.getElem?_toArray, List.getElem?_cons_succ, List.getElem?_cons_zero, Option.getD_some]
               rfl))
        apply Reg.TW.pure_ (c := .agg ((a).map byteV).toArray) rfl
        · intro w1 hw1 hf K hK
          simp only [Act.put, List.setIfInBounds_toArray, List.set_cons_zero, List.set_cons_succ] at hK
          have HK := Lib.hid hK
          clear hK
          unfold Reg.One; dsimp only
          refine wpList_ld rfl _ rfl g1 rfl _ _ ha (Lib.hid (H1.out.ext hw1)) ?_
          simp only [Act.put, Act.eval, List.setIfInBounds_toArray, List.set_cons_zero, List.set_cons_succ, Nat.reduceAdd, Array.getD_eq_getD_getElem?, List.getElem?_toArray, List.getElem?_cons_succ, List.getElem?_cons_zero, Option.getD_some]
          go_wp2_with fail
          exact HK.out _ (Reg.Ext.refl _)
        · simp only [Act.put, Act.eval, List.setIfInBounds_toArray, List.set_cons_zero, List.set_cons_succ, Nat.reduceAdd, Array.getD_eq_getD_getElem?, List.getElem?_toArray, List.getElem?_cons_succ, List.getElem?_cons_zero, Option.getD_some]
          rfl
        apply Reg.TW.pure_ (c := .agg ((b).map byteV).toArray) rfl
        · intro w1 hw1 hf K hK
          simp only [Act.put, List.setIfInBounds_toArray, List.set_cons_zero, List.set_cons_succ] at hK
          have HK := Lib.hid hK
          clear hK
          unfold Reg.One; dsimp only
          refine wpList_ld rfl _ rfl g2 rfl _ _ hb (Lib.hid (H2.out.ext hw1)) ?_
          simp only [Act.put, Act.eval, List.setIfInBounds_toArray, List.set_cons_zero, List.set_cons_succ, Nat.reduceAdd, Array.getD_eq_getD_getElem?, List.getElem?_toArray, List.getElem?_cons_succ, List.getElem?_cons_zero, Option.getD_some]
          go_wp2_with fail
          exact HK.out _ (Reg.Ext.refl _)
        · simp only [Act.put, Act.eval, List.setIfInBounds_toArray, List.set_cons_zero, List.set_cons_succ, Nat.reduceAdd, Array.getD_eq_getD_getElem?, List.getElem?_toArray, List.getElem?_cons_succ, List.getElem?_cons_zero, Option.getD_some]
          rfl
        repeat (first
          | (apply Reg.TW.move_ Reg.Ext.refl _ rfl rfl
             · simp only [Act.put, Act.eval, List.setIfInBounds_toArray, List.set_cons_zero, List.set_cons_succ, Nat.reduceAdd, Array.getD_eq_getD_getElem?, List.getElem?_toArray, List.getElem?_cons_succ, List.getElem?_cons_zero, Option.getD_some]
               rfl)
          | (apply Reg.TW.assign_ Reg.Ext.refl _ rfl rfl
             · simp only [Act.put, Act.eval, List.setIfInBounds_toArray, List.set_cons_zero, List.set_cons_succ, Nat.reduceAdd, Array.getD_eq_getD_getElem?, List.getElem?_toArray, List.getElem?_cons_succ, List.getElem?_cons_zero, Option.getD_some]
               rfl)
          | (apply Reg.TW.skip_ rfl
             · simp only [Act.put, Act.eval, List.setIfInBounds_toArray, List.set_cons_zero, List.set_cons_succ, Nat.reduceAdd, Array.getD_eq_getD_getElem?, List.getElem?_toArray, List.getElem?_cons_succ, List.getElem?_cons_zero, Option.getD_some]
               rfl)
          | (apply Reg.TW.pure_ rfl
             · intro w1 hw1 hf K hK
               simp only [Act.put, List.setIfInBounds_toArray, List.set_cons_zero, List.set_cons_succ] at hK
               have HK := Lib.hid hK
               clear hf hK
               have q1 := HEQ.out
               unfold Reg.One; dsimp only
               go_wp2_with fail
               exact HK.out _ (Reg.Ext.refl _)
             · simp only [Act.put, Act.eval, List.setIfInBounds_toArray, List.set_cons_zero, List.set_cons_succ, Nat.reduceAdd, Array.getD_eq_getD_getElem?, List.getElem?_toArray, List.getElem?_cons_succ, List.getElem?_cons_zero, Option.getD_some]
               rfl))
        apply Reg.TW.pure_ (c := .agg ((a).map byteV).toArray) rfl
        · intro w1 hw1 hf K hK
          simp only [Act.put, List.setIfInBounds_toArray, List.set_cons_zero, List.set_cons_succ] at hK
          have HK := Lib.hid hK
          clear hK
          unfold Reg.One; dsimp only
          refine wpList_ld rfl _ rfl g1 rfl _ _ ha (Lib.hid (H1.out.ext hw1)) ?_
          simp only [Act.put, Act.eval, List.setIfInBounds_toArray, List.set_cons_zero, List.set_cons_succ, Nat.reduceAdd, Array.getD_eq_getD_getElem?, List.getElem?_toArray, List.getElem?_cons_succ, List.getElem?_cons_zero, Option.getD_some]
          go_wp2_with fail
          exact HK.out _ (Reg.Ext.refl _)
        · simp only [Act.put, Act.eval, List.setIfInBounds_toArray, List.set_cons_zero, List.set_cons_succ, Nat.reduceAdd, Array.getD_eq_getD_getElem?, List.getElem?_toArray, List.getElem?_cons_succ, List.getElem?_cons_zero, Option.getD_some]
          rfl
        apply Reg.TW.pure_ (c := .agg ((b).map byteV).toArray) rfl
        · intro w1 hw1 hf K hK
          simp only [Act.put, List.setIfInBounds_toArray, List.set_cons_zero, List.set_cons_succ] at hK
          have HK := Lib.hid hK
          clear hK
          unfold Reg.One; dsimp only
          refine wpList_ld rfl _ rfl g2 rfl _ _ hb (Lib.hid (H2.out.ext hw1)) ?_
          simp only [Act.put, Act.eval, List.setIfInBounds_toArray, List.set_cons_zero, List.set_cons_succ, Nat.reduceAdd, Array.getD_eq_getD_getElem?, List.getElem?_toArray, List.getElem?_cons_succ, List.getElem?_cons_zero, Option.getD_some]
          go_wp2_with fail
          exact HK.out _ (Reg.Ext.refl _)
        · simp only [Act.put, Act.eval, List.setIfInBounds_toArray, List.set_cons_zero, List.set_cons_succ, Nat.reduceAdd, Array.getD_eq_getD_getElem?, List.getElem?_toArray, List.getElem?_cons_succ, List.getElem?_cons_zero, Option.getD_some]
          rfl
        apply Reg.TW.call_ (c := .bool false) (fun _ => True) rfl (fun _ _ _ h => h)
        · intro w1 hw1 hf K hK
          simp only [Act.put, List.setIfInBounds_toArray, List.set_cons_zero, List.set_cons_succ] at hK
          have HK := Lib.hid hK
          clear hK
          unfold Reg.One; dsimp only
          go_wp2_with fail
          refine (less_is a b ha hb HP.out _).mono ?_
          rintro e w' ⟨rfl, hx⟩
          go_wp2_with fail
          exact HK.out _ hx trivial
        · simp only [Act.put, Act.eval, List.setIfInBounds_toArray, List.set_cons_zero, List.set_cons_succ, Nat.reduceAdd, Array.getD_eq_getD_getElem?, List.getElem?_toArray, List.getElem?_cons_succ, List.getElem?_cons_zero, Option.getD_some]
          rfl
        repeat (first
          | (apply Reg.TW.move_ Reg.Ext.refl _ rfl rfl
             · simp only [Act.put, Act.eval, List.setIfInBounds_toArray, List.set_cons_zero, List.set_cons_succ, Nat.reduceAdd, Array.getD_eq_getD_getElem?, List.getElem?_toArray, List.getElem?_cons_succ, List.getElem?_cons_zero, Option.getD_some]
               rfl)
          | (apply Reg.TW.assign_ Reg.Ext.refl _ rfl rfl
             · simp only [Act.put, Act.eval, List.setIfInBounds_toArray, List.set_cons_zero, List.set_cons_succ, Nat.reduceAdd, Array.getD_eq_getD_getElem?, List.getElem?_toArray, List.getElem?_cons_succ, List.getElem?_cons_zero, Option.getD_some]
               rfl)
          | (apply Reg.TW.skip_ rfl
             · simp only [Act.put, Act.eval, List.setIfInBounds_toArray, List.set_cons_zero, List.set_cons_succ, Nat.reduceAdd, Array.getD_eq_getD_getElem?, List.getElem?_toArray, List.getElem?_cons_succ, List.getElem?_cons_zero, Option.getD_some]
               rfl)
          | (apply Reg.TW.pure_ rfl
             · intro w1 hw1 hf K hK
               simp only [Act.put, List.setIfInBounds_toArray, List.set_cons_zero, List.set_cons_succ] at hK
               have HK := Lib.hid hK
               clear hf hK
               have q1 := HEQ.out
               unfold Reg.One; dsimp only
               go_wp2_with fail
               exact HK.out _ (Reg.Ext.refl _)
             · simp only [Act.put, Act.eval, List.setIfInBounds_toArray, List.set_cons_zero, List.set_cons_succ, Nat.reduceAdd, Array.getD_eq_getD_getElem?, List.getElem?_toArray, List.getElem?_cons_succ, List.getElem?_cons_zero, Option.getD_some]
               rfl))
        refine Reg.TW.nil_ ?_
        intro w9 hw9 _
        go_wp2
        go_ret
        exact ⟨rfl, X.out.trans hw9⟩
      case hlen => rfl
end Stp
end Go.Proofs.YtnaijnhpgalmjaaDoor

/- The walk of slip.Good. -/
import Derived.Test.YtbeghdoffiidoaaDoorSlipOnly
set_option linter.unusedSimpArgs false
set_option linter.unusedVariables false
set_option linter.unusedSectionVars false
namespace Go.Proofs.YtbeghdoffiidoaaDoor
open Go.RowKit
namespace Slp
def names128 (x : S) : Bool := decide (1 ≤ x.repo.size ∧ x.repo.size ≤ 128) && decide (1 ≤ x.tag.size ∧ x.tag.size ≤ 128)
def bounds (x : S) : Bool := decide (x.typ.size ≤ 100) && (decide (0 ≤ x.size ∧ x.size ≤ 1048576) && decide (0 ≤ x.at_ ∧ x.at_ ≤ 1099511627776))
def good (x : S) : Bool := known x.k && (x.same (x.only (flds x.k)) && ((!(flds x.k).names || names128 x) && bounds x))
theorem names_eq (x : S) : names128 x = ((decide ((1 : Int) ≤ (x.repo.size : Int)) && decide ((x.repo.size : Int) ≤ 128)) && (decide ((1 : Int) ≤ (x.tag.size : Int)) && decide ((x.tag.size : Int) ≤ 128))) := by
  unfold names128
  rw [Bool.eq_iff_iff]
  simp only [Bool.and_eq_true, decide_eq_true_eq]
  omega
theorem bounds_eq (x : S) : bounds x = (decide ((x.typ.size : Int) ≤ 100) && ((decide ((0 : Int) ≤ x.size) && decide (x.size ≤ 1048576)) && (decide ((0 : Int) ≤ x.at_) && decide (x.at_ ≤ 1099511627776)))) := by
  unfold bounds
  rw [Bool.eq_iff_iff]
  simp only [Bool.and_eq_true, decide_eq_true_eq]
  omega
theorem flds_known {k : Int} (h : known k = true) : flds k = ⟨true, true, true, true⟩ ∨ flds k = ⟨true, false, false, true⟩ ∨ flds k = ⟨true, false, false, false⟩ ∨ flds k = ⟨false, true, true, false⟩ ∨ flds k = ⟨false, true, false, false⟩ := by
  unfold known at h
  rw [decide_eq_true_iff] at h
  rcases (by omega : k = 1 ∨ k = 2 ∨ k = 3 ∨ k = 4 ∨ k = 5 ∨ k = 6) with rfl | rfl | rfl | rfl | rfl | rfl <;> simp [flds]
theorem wpList_ldr {ops : Array Oper} {rest : List Oper} {o : Oper} {a : Act} {w : World} {Q : Exit → Act → World → Prop} (hw : Region.wanted o (yielded ops a.tmps) = true) (ty : TypeId) (x : Operand) (ho : o.op = .load ty x)
    (g : Nat) (hx : a.eval x = .pointer (some ⟨g, 0, none⟩)) (T : TypeId) (cs : List Value) (fs : Array Field) (h : Hid (Blk w g T cs)) (hu : Tryd.prog.underlying ty = some (.struct fs))
    (hi : (Tryd.prog.info? ty).map (·.size) = some cs.length) (hk : wpList Tryd.prog ops Q rest (a.put o.dst (.agg cs.toArray)) w) : wpList Tryd.prog ops Q (o :: rest) a w := by
  unfold wpList
  rw [if_pos hw]
  exact .inl (wp_load_row _ x ho g hx T cs.toArray (0, 0) _ h.out hu rfl (by rw [List.size_toArray]; exact hi) hk)
set_option maxRecDepth 100000 in
set_option maxHeartbeats 4000000 in
theorem good_any (x : S) (hx : x.dig.length = 32) (w : World) :
    Calls Tryd.prog 10 #[.agg x.cells.toArray] w fun e w' => e = .returned (.bool (good x)) ∧ Reg.Ext w w' := by
  have hb1 := boxS w x
  have hx1 := Reg.Ext.alloc w (Obj.cells x.cells.toArray 25)
  obtain ⟨f, hf⟩ : ∃ f, f = flds x.k := ⟨_, rfl⟩
  have HO := Lib.hid (of_any x.k)
  rw [← hf] at HO
  have HG := Lib.hid (show good x = (known x.k && (x.same (x.only f) && ((!f.names || names128 x) && bounds x))) by rw [hf]; rfl)
  have HFK := Lib.hid (fun h : known x.k = true => flds_known h)
  rw [← hf] at HFK
  clear hf
  go_enter Tryd.func10, Tryd.ntmps10
  go_upto_region 1 with (fail)
  generalize w.alloc (Obj.cells x.cells.toArray 25) = w1 at *
  generalize hg1 : w.heap.size = g1 at *
  have c0 : w1.cell? ⟨g1, 0, none⟩ = some (.int .i64 x.k) := hb1.cell 0
  have H1 := Lib.hid hb1
  have X := Lib.hid hx1
  have l1 : w.heap.size ≤ g1 := by omega
  clear hb1 hx1 hg1
  go_wp2_with fail
  refine (HO.out w1).mono ?_
  rintro e w2 ⟨rfl, x2⟩
  have X2 := Lib.hid (X.out.trans x2)
  have H1 := Lib.hid (H1.out.ext x2)
  clear x2 X c0 HO
  obtain ⟨fn, fd, ft, fa⟩ := f
  rw [show (F.cells ⟨fn, fd, ft, fa⟩) = [.bool fn, .bool fd, .bool ft, .bool fa] from rfl]
  cases hkn : known x.k with
  | false =>
    have HV := Lib.hid (show good x = false by rw [HG.out, hkn]; rfl)
    clear hkn
    go_wp2_with fail
    apply Reg.wp_tab Reg.Ext (by kernel_rfl) (by kernel_rfl) Reg.Ext.refl (fun _ _ _ => Reg.Ext.trans) (Reg.Ext.drew _)
    case h =>
      intro O
      repeat (first
        | (apply Reg.TW.move_ Reg.Ext.refl _ rfl rfl
           · simp only [Act.put, Act.eval, List.setIfInBounds_toArray, List.set_cons_zero, List.set_cons_succ, Nat.reduceAdd, Array.getD_eq_getD_getElem?, List.getElem?_toArray, List.getElem?_cons_succ, List.getElem?_cons_zero, Option.getD_some]
             rfl)
        | (apply Reg.TW.assign_ Reg.Ext.refl _ rfl rfl
           · simp only [Act.put, Act.eval, List.setIfInBounds_toArray, List.set_cons_zero, List.set_cons_succ, Nat.reduceAdd, Array.getD_eq_getD_getElem?, List.getElem?_toArray, List.getElem?_cons_succ, List.getElem?_cons_zero, Option.getD_some]
             rfl)
        | (apply Reg.TW.skip_ rfl
           · simp only [Act.put, Act.eval, List.setIfInBounds_toArray, List.set_cons_zero, List.set_cons_succ, Nat.reduceAdd, Array.getD_eq_getD_getElem?, List.getElem?_toArray, List.getElem?_cons_succ, List.getElem?_cons_zero, Option.getD_some]
             rfl)
        | (apply Reg.TW.pure_ rfl
           · intro w1 hw1 hf K hK
             simp only [Act.put, List.setIfInBounds_toArray, List.set_cons_zero, List.set_cons_succ] at hK
             have HK := Lib.hid hK
             clear hf hK
             unfold Reg.One; dsimp only
             go_wp2_with fail
             exact HK.out _ (Reg.Ext.refl _)
           · simp only [Act.put, Act.eval, List.setIfInBounds_toArray, List.set_cons_zero, List.set_cons_succ, Nat.reduceAdd, Array.getD_eq_getD_getElem?, List.getElem?_toArray, List.getElem?_cons_succ, List.getElem?_cons_zero, Option.getD_some]
             rfl))
      refine Reg.TW.nil_ ?_
      intro wa hwa _
      have hwb := (X2.out.trans (Reg.Ext.alloc w2 _)).trans hwa
      have XB := Lib.hid hwb
      clear hwa hwb
      go_wp2_with fail
      go_ret
      exact ⟨by rw [HV.out]; rfl, XB.out⟩
    case hlen => rfl
  | true =>
    have hfk := HFK.out hkn
    obtain ⟨sm, hsm⟩ : ∃ sm, sm = x.same (x.only ⟨fn, fd, ft, fa⟩) := ⟨_, rfl⟩
    have HON := Lib.hid (only_any x ⟨fn, fd, ft, fa⟩ hx hfk)
    have hol : (x.only ⟨fn, fd, ft, fa⟩).dig.length = 32 := by
      simp only [S.only]
      split
      · exact hx
      · simp [zeros]
    have HE := Lib.hid (equal_slip x (x.only ⟨fn, fd, ft, fa⟩) hx hol)
    rw [← hsm] at HE
    have HG2 := Lib.hid (show good x = (sm && ((!fn || names128 x) && bounds x)) by rw [HG.out, hkn, ← hsm]; rfl)
    generalize x.only ⟨fn, fd, ft, fa⟩ = y at *
    clear hkn hfk hsm hol HFK HG
    go_wp2_with fail
    have hb3 : Blk (w2.alloc (Obj.cells #[Value.bool fn, Value.bool fd, Value.bool ft, Value.bool fa] 47)) w2.heap.size 47 (F.cells ⟨fn, fd, ft, fa⟩) := Blk.new w2 47 #[Value.bool fn, Value.bool fd, Value.bool ft, Value.bool fa]
    have hx3 := Reg.Ext.alloc w2 (Obj.cells #[Value.bool fn, Value.bool fd, Value.bool ft, Value.bool fa] 47)
    generalize w2.alloc (Obj.cells #[Value.bool fn, Value.bool fd, Value.bool ft, Value.bool fa] 47) = w3 at *
    generalize w2.heap.size = g3 at *
    have H3 := Lib.hid hb3
    have H1 := Lib.hid (H1.out.ext hx3)
    have X3 := Lib.hid (X2.out.trans hx3)
    clear hb3 hx3 X2
    obtain ⟨f, hf⟩ : ∃ f, f = (⟨fn, fd, ft, fa⟩ : F) := ⟨_, rfl⟩
    rw [← hf] at HON H3
    have HFN : Hid (f.names = fn) := by rw [hf]; exact rfl
    have H30 : Hid ((F.cells f)[0]? = some (.bool fn)) := by rw [hf]; exact rfl
    clear hf
    cases sm with
    | false =>
      have HV := Lib.hid (show good x = false by rw [HG2.out]; rfl)
      apply Reg.wp_tab Reg.Ext (by kernel_rfl) (by kernel_rfl) Reg.Ext.refl (fun _ _ _ => Reg.Ext.trans) (Reg.Ext.drew _)
      case h =>
        intro O
        repeat (first
          | (apply Reg.TW.move_ Reg.Ext.refl _ rfl rfl
             · simp only [Act.put, Act.eval, List.setIfInBounds_toArray, List.set_cons_zero, List.set_cons_succ, Nat.reduceAdd, Array.getD_eq_getD_getElem?, List.getElem?_toArray, List.getElem?_cons_succ, List.getElem?_cons_zero, Option.getD_some]
               rfl)
          | (apply Reg.TW.assign_ Reg.Ext.refl _ rfl rfl
             · simp only [Act.put, Act.eval, List.setIfInBounds_toArray, List.set_cons_zero, List.set_cons_succ, Nat.reduceAdd, Array.getD_eq_getD_getElem?, List.getElem?_toArray, List.getElem?_cons_succ, List.getElem?_cons_zero, Option.getD_some]
               rfl)
          | (apply Reg.TW.skip_ rfl
             · simp only [Act.put, Act.eval, List.setIfInBounds_toArray, List.set_cons_zero, List.set_cons_succ, Nat.reduceAdd, Array.getD_eq_getD_getElem?, List.getElem?_toArray, List.getElem?_cons_succ, List.getElem?_cons_zero, Option.getD_some]
               rfl)
          | (apply Reg.TW.pure_ rfl
             · intro w1 hw1 hf K hK
               simp only [Act.put, List.setIfInBounds_toArray, List.set_cons_zero, List.set_cons_succ] at hK
               have HK := Lib.hid hK
               clear hf hK
               unfold Reg.One; dsimp only
               go_wp2_with fail
               exact HK.out _ (Reg.Ext.refl _)
             · simp only [Act.put, Act.eval, List.setIfInBounds_toArray, List.set_cons_zero, List.set_cons_succ, Nat.reduceAdd, Array.getD_eq_getD_getElem?, List.getElem?_toArray, List.getElem?_cons_succ, List.getElem?_cons_zero, Option.getD_some]
               rfl))
        apply Reg.TW.pure_ (c := .agg x.cells.toArray) rfl
        · intro w1 hw1 hf K hK
          simp only [Act.put, List.setIfInBounds_toArray, List.set_cons_zero, List.set_cons_succ] at hK
          have HK := Lib.hid hK
          clear hK
          unfold Reg.One; dsimp only
          refine wpList_ldr rfl _ _ rfl g1 rfl _ _ _ (Lib.hid (H1.out.ext hw1)) undS (by rw [cells_length x hx]; exact size38) ?_
          simp only [Act.put, Act.eval, List.setIfInBounds_toArray, List.set_cons_zero, List.set_cons_succ, Nat.reduceAdd, Array.getD_eq_getD_getElem?, List.getElem?_toArray, List.getElem?_cons_succ, List.getElem?_cons_zero, Option.getD_some]
          go_wp2_with fail
          exact HK.out _ (Reg.Ext.refl _)
        · simp only [Act.put, Act.eval, List.setIfInBounds_toArray, List.set_cons_zero, List.set_cons_succ, Nat.reduceAdd, Array.getD_eq_getD_getElem?, List.getElem?_toArray, List.getElem?_cons_succ, List.getElem?_cons_zero, Option.getD_some]
          rfl
        apply Reg.TW.pure_ (c := .agg x.cells.toArray) rfl
        · intro w1 hw1 hf K hK
          simp only [Act.put, List.setIfInBounds_toArray, List.set_cons_zero, List.set_cons_succ] at hK
          have HK := Lib.hid hK
          clear hK
          unfold Reg.One; dsimp only
          refine wpList_ldr rfl _ _ rfl g1 rfl _ _ _ (Lib.hid (H1.out.ext hw1)) undS (by rw [cells_length x hx]; exact size38) ?_
          simp only [Act.put, Act.eval, List.setIfInBounds_toArray, List.set_cons_zero, List.set_cons_succ, Nat.reduceAdd, Array.getD_eq_getD_getElem?, List.getElem?_toArray, List.getElem?_cons_succ, List.getElem?_cons_zero, Option.getD_some]
          go_wp2_with fail
          exact HK.out _ (Reg.Ext.refl _)
        · simp only [Act.put, Act.eval, List.setIfInBounds_toArray, List.set_cons_zero, List.set_cons_succ, Nat.reduceAdd, Array.getD_eq_getD_getElem?, List.getElem?_toArray, List.getElem?_cons_succ, List.getElem?_cons_zero, Option.getD_some]
          rfl
        apply Reg.TW.pure_ (c := .agg (F.cells f).toArray) rfl
        · intro w1 hw1 hf K hK
          simp only [Act.put, List.setIfInBounds_toArray, List.set_cons_zero, List.set_cons_succ] at hK
          have HK := Lib.hid hK
          clear hK
          unfold Reg.One; dsimp only
          refine wpList_ldr rfl _ _ rfl g3 rfl _ _ _ (Lib.hid (H3.out.ext hw1)) und47 size47 ?_
          simp only [Act.put, Act.eval, List.setIfInBounds_toArray, List.set_cons_zero, List.set_cons_succ, Nat.reduceAdd, Array.getD_eq_getD_getElem?, List.getElem?_toArray, List.getElem?_cons_succ, List.getElem?_cons_zero, Option.getD_some]
          go_wp2_with fail
          exact HK.out _ (Reg.Ext.refl _)
        · simp only [Act.put, Act.eval, List.setIfInBounds_toArray, List.set_cons_zero, List.set_cons_succ, Nat.reduceAdd, Array.getD_eq_getD_getElem?, List.getElem?_toArray, List.getElem?_cons_succ, List.getElem?_cons_zero, Option.getD_some]
          rfl
        apply Reg.TW.call_ (c := .agg y.cells.toArray) (fun _ => True) rfl (fun _ _ _ h => h)
        · intro w1 hw1 hf K hK
          simp only [Act.put, List.setIfInBounds_toArray, List.set_cons_zero, List.set_cons_succ] at hK
          have HK := Lib.hid hK
          clear hK
          unfold Reg.One; dsimp only
          go_wp2_with fail
          refine (HON.out _).mono ?_
          rintro e w' ⟨rfl, hx⟩
          go_wp2_with fail
          exact HK.out _ hx trivial
        · simp only [Act.put, Act.eval, List.setIfInBounds_toArray, List.set_cons_zero, List.set_cons_succ, Nat.reduceAdd, Array.getD_eq_getD_getElem?, List.getElem?_toArray, List.getElem?_cons_succ, List.getElem?_cons_zero, Option.getD_some]
          rfl
        repeat (first
          | (apply Reg.TW.move_ Reg.Ext.refl _ rfl rfl
             · simp only [Act.put, Act.eval, List.setIfInBounds_toArray, List.set_cons_zero, List.set_cons_succ, Nat.reduceAdd, Array.getD_eq_getD_getElem?, List.getElem?_toArray, List.getElem?_cons_succ, List.getElem?_cons_zero, Option.getD_some]
               rfl)
          | (apply Reg.TW.assign_ Reg.Ext.refl _ rfl rfl
             · simp only [Act.put, Act.eval, List.setIfInBounds_toArray, List.set_cons_zero, List.set_cons_succ, Nat.reduceAdd, Array.getD_eq_getD_getElem?, List.getElem?_toArray, List.getElem?_cons_succ, List.getElem?_cons_zero, Option.getD_some]
               rfl)
          | (apply Reg.TW.skip_ rfl
             · simp only [Act.put, Act.eval, List.setIfInBounds_toArray, List.set_cons_zero, List.set_cons_succ, Nat.reduceAdd, Array.getD_eq_getD_getElem?, List.getElem?_toArray, List.getElem?_cons_succ, List.getElem?_cons_zero, Option.getD_some]
               rfl)
          | (apply Reg.TW.pure_ rfl
             · intro w1 hw1 hf K hK
               simp only [Act.put, List.setIfInBounds_toArray, List.set_cons_zero, List.set_cons_succ] at hK
               have HK := Lib.hid hK
               clear hf hK
               have q1 := HE.out
               unfold Reg.One; dsimp only
               go_wp2_with fail
               exact HK.out _ (Reg.Ext.refl _)
             · simp only [Act.put, Act.eval, List.setIfInBounds_toArray, List.set_cons_zero, List.set_cons_succ, Nat.reduceAdd, Array.getD_eq_getD_getElem?, List.getElem?_toArray, List.getElem?_cons_succ, List.getElem?_cons_zero, Option.getD_some]
               rfl))
        refine Reg.TW.nil_ ?_
        intro wa hwa _
        have XB := Lib.hid (X3.out.trans hwa)
        clear hwa
        go_wp2_with fail
        go_ret
        exact ⟨by rw [HV.out]; rfl, XB.out⟩
      case hlen => rfl
    | true =>
      apply Reg.wp_tab Reg.Ext (by kernel_rfl) (by kernel_rfl) Reg.Ext.refl (fun _ _ _ => Reg.Ext.trans) (Reg.Ext.drew _)
      case h =>
        intro O
        repeat (first
          | (apply Reg.TW.move_ Reg.Ext.refl _ rfl rfl
             · simp only [Act.put, Act.eval, List.setIfInBounds_toArray, List.set_cons_zero, List.set_cons_succ, Nat.reduceAdd, Array.getD_eq_getD_getElem?, List.getElem?_toArray, List.getElem?_cons_succ, List.getElem?_cons_zero, Option.getD_some]
               rfl)
          | (apply Reg.TW.assign_ Reg.Ext.refl _ rfl rfl
             · simp only [Act.put, Act.eval, List.setIfInBounds_toArray, List.set_cons_zero, List.set_cons_succ, Nat.reduceAdd, Array.getD_eq_getD_getElem?, List.getElem?_toArray, List.getElem?_cons_succ, List.getElem?_cons_zero, Option.getD_some]
               rfl)
          | (apply Reg.TW.skip_ rfl
             · simp only [Act.put, Act.eval, List.setIfInBounds_toArray, List.set_cons_zero, List.set_cons_succ, Nat.reduceAdd, Array.getD_eq_getD_getElem?, List.getElem?_toArray, List.getElem?_cons_succ, List.getElem?_cons_zero, Option.getD_some]
               rfl)
          | (apply Reg.TW.pure_ rfl
             · intro w1 hw1 hf K hK
               simp only [Act.put, List.setIfInBounds_toArray, List.set_cons_zero, List.set_cons_succ] at hK
               have HK := Lib.hid hK
               clear hf hK
               unfold Reg.One; dsimp only
               go_wp2_with fail
               exact HK.out _ (Reg.Ext.refl _)
             · simp only [Act.put, Act.eval, List.setIfInBounds_toArray, List.set_cons_zero, List.set_cons_succ, Nat.reduceAdd, Array.getD_eq_getD_getElem?, List.getElem?_toArray, List.getElem?_cons_succ, List.getElem?_cons_zero, Option.getD_some]
               rfl))
        apply Reg.TW.pure_ (c := .agg x.cells.toArray) rfl
        · intro w1 hw1 hf K hK
          simp only [Act.put, List.setIfInBounds_toArray, List.set_cons_zero, List.set_cons_succ] at hK
          have HK := Lib.hid hK
          clear hK
          unfold Reg.One; dsimp only
          refine wpList_ldr rfl _ _ rfl g1 rfl _ _ _ (Lib.hid (H1.out.ext hw1)) undS (by rw [cells_length x hx]; exact size38) ?_
          simp only [Act.put, Act.eval, List.setIfInBounds_toArray, List.set_cons_zero, List.set_cons_succ, Nat.reduceAdd, Array.getD_eq_getD_getElem?, List.getElem?_toArray, List.getElem?_cons_succ, List.getElem?_cons_zero, Option.getD_some]
          go_wp2_with fail
          exact HK.out _ (Reg.Ext.refl _)
        · simp only [Act.put, Act.eval, List.setIfInBounds_toArray, List.set_cons_zero, List.set_cons_succ, Nat.reduceAdd, Array.getD_eq_getD_getElem?, List.getElem?_toArray, List.getElem?_cons_succ, List.getElem?_cons_zero, Option.getD_some]
          rfl
        apply Reg.TW.pure_ (c := .agg x.cells.toArray) rfl
        · intro w1 hw1 hf K hK
          simp only [Act.put, List.setIfInBounds_toArray, List.set_cons_zero, List.set_cons_succ] at hK
          have HK := Lib.hid hK
          clear hK
          unfold Reg.One; dsimp only
          refine wpList_ldr rfl _ _ rfl g1 rfl _ _ _ (Lib.hid (H1.out.ext hw1)) undS (by rw [cells_length x hx]; exact size38) ?_
          simp only [Act.put, Act.eval, List.setIfInBounds_toArray, List.set_cons_zero, List.set_cons_succ, Nat.reduceAdd, Array.getD_eq_getD_getElem?, List.getElem?_toArray, List.getElem?_cons_succ, List.getElem?_cons_zero, Option.getD_some]
          go_wp2_with fail
          exact HK.out _ (Reg.Ext.refl _)
        · simp only [Act.put, Act.eval, List.setIfInBounds_toArray, List.set_cons_zero, List.set_cons_succ, Nat.reduceAdd, Array.getD_eq_getD_getElem?, List.getElem?_toArray, List.getElem?_cons_succ, List.getElem?_cons_zero, Option.getD_some]
          rfl
        apply Reg.TW.pure_ (c := .agg (F.cells f).toArray) rfl
        · intro w1 hw1 hf K hK
          simp only [Act.put, List.setIfInBounds_toArray, List.set_cons_zero, List.set_cons_succ] at hK
          have HK := Lib.hid hK
          clear hK
          unfold Reg.One; dsimp only
          refine wpList_ldr rfl _ _ rfl g3 rfl _ _ _ (Lib.hid (H3.out.ext hw1)) und47 size47 ?_
          simp only [Act.put, Act.eval, List.setIfInBounds_toArray, List.set_cons_zero, List.set_cons_succ, Nat.reduceAdd, Array.getD_eq_getD_getElem?, List.getElem?_toArray, List.getElem?_cons_succ, List.getElem?_cons_zero, Option.getD_some]
          go_wp2_with fail
          exact HK.out _ (Reg.Ext.refl _)
        · simp only [Act.put, Act.eval, List.setIfInBounds_toArray, List.set_cons_zero, List.set_cons_succ, Nat.reduceAdd, Array.getD_eq_getD_getElem?, List.getElem?_toArray, List.getElem?_cons_succ, List.getElem?_cons_zero, Option.getD_some]
          rfl
        apply Reg.TW.call_ (c := .agg y.cells.toArray) (fun _ => True) rfl (fun _ _ _ h => h)
        · intro w1 hw1 hf K hK
          simp only [Act.put, List.setIfInBounds_toArray, List.set_cons_zero, List.set_cons_succ] at hK
          have HK := Lib.hid hK
          clear hK
          unfold Reg.One; dsimp only
          go_wp2_with fail
          refine (HON.out _).mono ?_
          rintro e w' ⟨rfl, hx⟩
          go_wp2_with fail
          exact HK.out _ hx trivial
        · simp only [Act.put, Act.eval, List.setIfInBounds_toArray, List.set_cons_zero, List.set_cons_succ, Nat.reduceAdd, Array.getD_eq_getD_getElem?, List.getElem?_toArray, List.getElem?_cons_succ, List.getElem?_cons_zero, Option.getD_some]
          rfl
        repeat (first
          | (apply Reg.TW.move_ Reg.Ext.refl _ rfl rfl
             · simp only [Act.put, Act.eval, List.setIfInBounds_toArray, List.set_cons_zero, List.set_cons_succ, Nat.reduceAdd, Array.getD_eq_getD_getElem?, List.getElem?_toArray, List.getElem?_cons_succ, List.getElem?_cons_zero, Option.getD_some]
               rfl)
          | (apply Reg.TW.assign_ Reg.Ext.refl _ rfl rfl
             · simp only [Act.put, Act.eval, List.setIfInBounds_toArray, List.set_cons_zero, List.set_cons_succ, Nat.reduceAdd, Array.getD_eq_getD_getElem?, List.getElem?_toArray, List.getElem?_cons_succ, List.getElem?_cons_zero, Option.getD_some]
               rfl)
          | (apply Reg.TW.skip_ rfl
             · simp only [Act.put, Act.eval, List.setIfInBounds_toArray, List.set_cons_zero, List.set_cons_succ, Nat.reduceAdd, Array.getD_eq_getD_getElem?, List.getElem?_toArray, List.getElem?_cons_succ, List.getElem?_cons_zero, Option.getD_some]
               rfl)
          | (apply Reg.TW.pure_ rfl
             · intro w1 hw1 hf K hK
               simp only [Act.put, List.setIfInBounds_toArray, List.set_cons_zero, List.set_cons_succ] at hK
               have HK := Lib.hid hK
               clear hf hK
               have q1 := HE.out
               unfold Reg.One; dsimp only
               go_wp2_with fail
               exact HK.out _ (Reg.Ext.refl _)
             · simp only [Act.put, Act.eval, List.setIfInBounds_toArray, List.set_cons_zero, List.set_cons_succ, Nat.reduceAdd, Array.getD_eq_getD_getElem?, List.getElem?_toArray, List.getElem?_cons_succ, List.getElem?_cons_zero, Option.getD_some]
               rfl))
        refine Reg.TW.nil_ ?_
        intro wa hwa _
        have XB := Lib.hid (X3.out.trans hwa)
        have hX := H1.out.ext hwa
        have p0 : wa.cell? ⟨g3, 0, none⟩ = some (.bool fn) := by rw [(H3.out.ext hwa).cell]; exact H30.out
        have q1 : wa.cell? ⟨g1, 1, none⟩ = some (.string x.repo) := hX.cell 1
        have q2 : wa.cell? ⟨g1, 2, none⟩ = some (.string x.tag) := hX.cell 2
        have q35 : wa.cell? ⟨g1, 35, none⟩ = some (.string x.typ) := by rw [hX.cell, at35 x hx]
        have q36 : wa.cell? ⟨g1, 36, none⟩ = some (.int .i64 x.size) := by rw [hX.cell, at36 x hx]
        have q37 : wa.cell? ⟨g1, 37, none⟩ = some (.int .i64 x.at_) := by rw [hX.cell, at37 x hx]
        clear hwa hX H1 H3 H30 HON HE HFN X3
        obtain ⟨b1, hb1⟩ : ∃ b1, b1 = (decide ((1 : Int) ≤ (x.repo.size : Int)) && decide ((x.repo.size : Int) ≤ 128)) := ⟨_, rfl⟩
        obtain ⟨b2, hb2⟩ : ∃ b2, b2 = (decide ((1 : Int) ≤ (x.tag.size : Int)) && decide ((x.tag.size : Int) ≤ 128)) := ⟨_, rfl⟩
        obtain ⟨b3, hb3⟩ : ∃ b3, b3 = decide ((x.typ.size : Int) ≤ 100) := ⟨_, rfl⟩
        obtain ⟨b4, hb4⟩ : ∃ b4, b4 = (decide ((0 : Int) ≤ x.size) && decide (x.size ≤ 1048576)) := ⟨_, rfl⟩
        obtain ⟨b5, hb5⟩ : ∃ b5, b5 = (decide ((0 : Int) ≤ x.at_) && decide (x.at_ ≤ 1099511627776)) := ⟨_, rfl⟩
        have hn : names128 x = (b1 && b2) := by rw [hb1, hb2]; exact names_eq x
        have hbd : bounds x = (b3 && (b4 && b5)) := by rw [hb3, hb4, hb5]; exact bounds_eq x
        have HV := Lib.hid (show good x = ((!fn || (b1 && b2)) && (b3 && (b4 && b5))) by rw [HG2.out, hn, hbd]; rfl)
        have W1 := Lib.hid (fun w => (hb1 ▸ within_any (x.repo.size : Int) 1 128 w : Calls Tryd.prog 26 #[.int .i64 (x.repo.size : Int), .int .i64 1, .int .i64 128] w fun e w' => e = .returned (.bool b1) ∧ w = w'))
        have W2 := Lib.hid (fun w => (hb2 ▸ within_any (x.tag.size : Int) 1 128 w : Calls Tryd.prog 26 #[.int .i64 (x.tag.size : Int), .int .i64 1, .int .i64 128] w fun e w' => e = .returned (.bool b2) ∧ w = w'))
        have W4 := Lib.hid (fun w => (hb4 ▸ within_any x.size 0 1048576 w : Calls Tryd.prog 26 #[.int .i64 x.size, .int .i64 0, .int .i64 1048576] w fun e w' => e = .returned (.bool b4) ∧ w = w'))
        have W5 := Lib.hid (fun w => (hb5 ▸ within_any x.at_ 0 1099511627776 w : Calls Tryd.prog 26 #[.int .i64 x.at_, .int .i64 0, .int .i64 1099511627776] w fun e w' => e = .returned (.bool b5) ∧ w = w'))
        have d3 := hb3.symm
        clear hn hbd HG2 hb1 hb2 hb3 hb4 hb5
        cases fn with
        | true =>
          go_wp2_with fail
          refine (W1.out _).mono ?_
          rintro e w' ⟨rfl, rfl⟩
          cases b1 with
          | false =>
            go_wp2_with fail
            go_ret
            exact ⟨by rw [HV.out]; rfl, XB.out⟩
          | true =>
            go_wp2_with fail
            refine (W2.out _).mono ?_
            rintro e w' ⟨rfl, rfl⟩
            cases b2 with
            | false =>
              go_wp2_with fail
              go_ret
              exact ⟨by rw [HV.out]; rfl, XB.out⟩
            | true =>
              cases b3 with
              | false =>
                go_wp2_with fail
                go_ret
                exact ⟨by rw [HV.out]; simp, XB.out⟩
              | true =>
                go_wp2_with fail
                refine (W4.out _).mono ?_
                rintro e w' ⟨rfl, rfl⟩
                cases b4 with
                | false =>
                  go_wp2_with fail
                  go_ret
                  exact ⟨by rw [HV.out]; simp, XB.out⟩
                | true =>
                  go_wp2_with fail
                  refine (W5.out _).mono ?_
                  rintro e w' ⟨rfl, rfl⟩
                  go_wp2_with fail
                  go_ret
                  exact ⟨by rw [HV.out]; simp, XB.out⟩
        | false =>
          cases b3 with
          | false =>
            go_wp2_with fail
            go_ret
            exact ⟨by rw [HV.out]; simp, XB.out⟩
          | true =>
            go_wp2_with fail
            refine (W4.out _).mono ?_
            rintro e w' ⟨rfl, rfl⟩
            cases b4 with
            | false =>
              go_wp2_with fail
              go_ret
              exact ⟨by rw [HV.out]; simp, XB.out⟩
            | true =>
              go_wp2_with fail
              refine (W5.out _).mono ?_
              rintro e w' ⟨rfl, rfl⟩
              go_wp2_with fail
              go_ret
              exact ⟨by rw [HV.out]; simp, XB.out⟩
      case hlen => rfl
end Slp
end Go.Proofs.YtbeghdoffiidoaaDoor

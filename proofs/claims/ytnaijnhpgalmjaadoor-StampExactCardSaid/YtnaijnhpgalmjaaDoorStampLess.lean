/- The walks of package stamp: Less. -/
import Derived.Test.YtnaijnhpgalmjaaDoorStampWalks
import Derived.Test.YtnaijnhpgalmjaaDoorReg
import Derived.Test.YtnaijnhpgalmjaaDoorStampOrd
set_option linter.unusedSimpArgs false
set_option linter.unusedVariables false
set_option linter.unusedSectionVars false
namespace Go.Proofs.YtnaijnhpgalmjaaDoor
open Go.RowKit
namespace Stp
theorem run_load_bytes {P : Program} {w : World} : ∀ (l : List UInt8) (a : Addr) (acc : ByteArray), (∀ j x, l[j]? = some x → w.cell? (a.add j) = some (.int .u8 (x.toNat : Int))) →
    (Extern.Bytes.loadBytes a l.length acc).run P w = .ok ⟨acc.data ++ l.toArray⟩ w
  | [], a, acc, _ => by
    show Sem.run P (pure acc) w = _
    rw [Sem.run_pure]; simp
  | x :: l, a, acc, h => by
    have h0 : w.cell? a = some (.int .u8 (x.toNat : Int)) := by
      have := h 0 x rfl
      simpa [Addr.add] using this
    have ih := run_load_bytes (P := P) l (a.add 1) (acc.push x) (fun j y hy => by
      have := h (j + 1) y (by simpa using hy)
      have e : (a.add 1).add j = a.add (j + 1) := by
        unfold Addr.add
        by_cases hj : j = 0
        · subst hj; simp
        · simp [hj]; omega
      rw [e]; exact this)
    have hx : ((x.toNat : Int).toNat).toUInt8 = x := by simp
    simp only [List.length_cons, Extern.Bytes.loadBytes, Sem.run_bind, run_load, h0, Result.andThen, hx]
    rw [ih]
    congr 1
    apply ByteArray.ext
    simp
theorem run_bytes {P : Program} {w : World} {g : Nat} {l : List UInt8} {T : TypeId} (hb : Blk w g T (l.map byteV)) (n c : Nat) (hl : l.length = n) :
    (Extern.Bytes.bytesOf (.slice (some ⟨g, 0, none⟩) n c)).run P w = .ok ⟨l.toArray⟩ w := by
  subst hl
  have h := run_load_bytes (P := P) (w := w) l ⟨g, 0, none⟩ .empty (fun j x hx => by
    obtain ⟨hj, rfl⟩ := List.getElem?_eq_some_iff.1 hx
    rw [add_plain, Nat.zero_add, hb.cellAt (by simpa using hj)]
    simp [byteV])
  change Sem.run P (Extern.Bytes.loadBytes ⟨g, 0, none⟩ l.length .empty) w = _
  rw [h]
  congr 2
  show (#[] : Array UInt8) ++ l.toArray = l.toArray
  simp
theorem call_cmp (g1 g2 : Nat) (l m : List UInt8) (T1 T2 : TypeId) (w : World) (h1 : Blk w g1 T1 (l.map byteV)) (h2 : Blk w g2 T2 (m.map byteV)) (hl : l.length = 32) (hm : m.length = 32) :
    (callFunc 25 #[.slice (some ⟨g1, 0, none⟩) 32 32, .slice (some ⟨g2, 0, none⟩) 32 32]).run Tryd.prog w = .ok (.value (.int .i64 (Lib.compareBytes l m))) w := by
  rw [run_callFunc_extern Tryd.func25 (by kernel_rfl) (by kernel_rfl) (by kernel_rfl) (e := Extern.BytealgCompare.compare) (by kernel_rfl)]
  have h : (Extern.BytealgCompare.compare #[.slice (some ⟨g1, 0, none⟩) 32 32, .slice (some ⟨g2, 0, none⟩) 32 32]).run Tryd.prog w = .ok (.int .i64 (Lib.compareBytes l m)) w := by
    change Sem.run Tryd.prog (do pure (goInt (Extern.BytealgCompare.cmp (← Extern.Bytes.bytesOf (.slice (some ⟨g1, 0, none⟩) 32 32)) (← Extern.Bytes.bytesOf (.slice (some ⟨g2, 0, none⟩) 32 32))))) w = _
    simp only [Sem.run_bind, Sem.run_pure, run_bytes h1 32 32 hl, run_bytes h2 32 32 hm, Result.andThen]
    rw [Lib.cmp_eq]
    rfl
  rw [h]
  rfl
set_option maxHeartbeats 1000000 in
theorem compare_any (g1 g2 : Nat) (l m : List UInt8) (T1 T2 : TypeId) (w : World) (h1 : Blk w g1 T1 (l.map byteV)) (h2 : Blk w g2 T2 (m.map byteV)) (hl : l.length = 32) (hm : m.length = 32) :
    Calls Tryd.prog 18 #[.slice (some ⟨g1, 0, none⟩) 32 32, .slice (some ⟨g2, 0, none⟩) 32 32] w fun e w' => e = .returned (.int .i64 (Lib.compareBytes l m)) ∧ w = w' := by
  have hc := call_cmp g1 g2 l m T1 T2 w h1 h2 hl hm
  go_enter Tryd.func18, Tryd.ntmps18
  go_wp2_with fail
  go_ret
  exact ⟨rfl, rfl⟩
theorem cmp_range (l m : List UInt8) : -1 ≤ Lib.compareBytes l m ∧ Lib.compareBytes l m ≤ 1 := by
  induction l generalizing m with
  | nil => cases m <;> simp [Lib.compareBytes]
  | cons a l ih =>
    cases m with
    | nil => simp [Lib.compareBytes]
    | cons b m =>
      simp only [Lib.compareBytes]
      split
      · omega
      · split
        · omega
        · exact ih m
set_option maxHeartbeats 2000000 in
theorem less_any (l m : List UInt8) (hl : l.length = 32) (hm : m.length = 32) (w : World) :
    Calls Tryd.prog 7 #[.agg (l.map byteV).toArray, .agg (m.map byteV).toArray] w fun e w' => e = .returned (.bool (lessL l m)) ∧ Reg.Ext w w' := by
  have hb1 := box_blk w l
  have hx1 := Reg.Ext.alloc w (Obj.cells (l.map byteV).toArray 23)
  have hb2 := box_blk (w.alloc (Obj.cells (l.map byteV).toArray 23)) m
  have hx2 := hx1.trans (Reg.Ext.alloc (w.alloc (Obj.cells (l.map byteV).toArray 23)) (Obj.cells (m.map byteV).toArray 23))
  have hb3 := hb1.alloc (Obj.cells (m.map byteV).toArray 23)
  have H1 := Lib.hid hb3
  have H2 := Lib.hid hb2
  have HX := Lib.hid hx2
  clear hb1 hx1 hb2 hx2 hb3
  go_enter Tryd.func7, Tryd.ntmps7
  go_wp2_with fail
  rw [show (w.alloc (Obj.cells (l.map byteV).toArray 23)).heap.size = w.heap.size + 1 from Array.size_push _] at H2
  generalize ((w.alloc (Obj.cells (List.map byteV l).toArray 23)).alloc (Obj.cells (List.map byteV m).toArray 23)) = w2 at *
  generalize w.heap.size = g1 at *
  generalize g1 + 1 = g2 at *
  apply Reg.wp_tab Reg.Ext (by kernel_rfl) (by kernel_rfl) Reg.Ext.refl (fun _ _ _ => Reg.Ext.trans) (Reg.Ext.drew _)
  case h =>
    intro O
    repeat (first
      | (apply Reg.TW.move_ Reg.Ext.refl _ rfl rfl
         · simp only [Act.put, Act.eval, List.setIfInBounds_toArray, List.set_cons_zero, List.set_cons_succ, Nat.reduceAdd, Array.getD_eq_getD_getElem?, List.getElem?_toArray, List.getElem?_cons_succ, List.getElem?_cons_zero, Option.getD_some]
           rfl)
      | (apply Reg.TW.assign_ Reg.Ext.refl _ rfl rfl
         · simp only [Act.put, Act.eval, List.setIfInBounds_toArray, List.set_cons_zero, List.set_cons_succ, Nat.reduceAdd, Array.getD_eq_getD_getElem?, List.getElem?_toArray, List.getElem?_cons_succ, List.getElem?_cons_zero, Option.getD_some]
           rfl)
      | (apply Reg.TW.skip_ rfl
         · simp only [Act.put, Act.eval, List.setIfInBounds_toArray, List.set_cons_zero, List.set_cons_succ, Nat.reduceAdd, Array.getD_eq_getD_getElem?, List.getElem?_toArray, List.getElem?_cons_succ, List.getElem?_cons_zero, Option.getD_some]
           rfl)
      | (apply Reg.TW.pure_ rfl
         · intro w1 hw1 hf K hK
           simp only [Act.put, List.setIfInBounds_toArray, List.set_cons_zero, List.set_cons_succ] at hK
           have HK := Lib.hid hK
           clear hf hK
           unfold Reg.One; dsimp only
           go_wp2_with fail
           exact HK.out _ (Reg.Ext.refl _)
         · simp only [Act.put, Act.eval, List.setIfInBounds_toArray, List.set_cons_zero, List.set_cons_succ, Nat.reduceAdd, Array.getD_eq_getD_getElem?, List.getElem?_toArray, List.getElem?_cons_succ, List.getElem?_cons_zero, Option.getD_some]
           rfl))
    apply Reg.TW.call_ (c := .int .i64 (Lib.compareBytes l m)) (fun _ => True) rfl (fun _ _ _ h => h)
    · intro w1 hw1 hf K hK
      simp only [Act.put, List.setIfInBounds_toArray, List.set_cons_zero, List.set_cons_succ] at hK
      have HK := Lib.hid hK
      clear hK
      unfold Reg.One; dsimp only
      go_wp2_with fail
      refine (compare_any _ _ l m _ _ w1 (H1.out.ext hw1) (H2.out.ext hw1) hl hm).mono ?_
      rintro e w' ⟨rfl, rfl⟩
      go_wp2_with fail
      exact HK.out _ (Reg.Ext.refl _) trivial
    · simp only [Act.put, Act.eval, List.setIfInBounds_toArray, List.set_cons_zero, List.set_cons_succ, Nat.reduceAdd, Array.getD_eq_getD_getElem?, List.getElem?_toArray, List.getElem?_cons_succ, List.getElem?_cons_zero, Option.getD_some]
      rfl
    repeat (first
      | (apply Reg.TW.move_ Reg.Ext.refl _ rfl rfl
         · simp only [Act.put, Act.eval, List.setIfInBounds_toArray, List.set_cons_zero, List.set_cons_succ, Nat.reduceAdd, Array.getD_eq_getD_getElem?, List.getElem?_toArray, List.getElem?_cons_succ, List.getElem?_cons_zero, Option.getD_some]
           rfl)
      | (apply Reg.TW.assign_ Reg.Ext.refl _ rfl rfl
         · simp only [Act.put, Act.eval, List.setIfInBounds_toArray, List.set_cons_zero, List.set_cons_succ, Nat.reduceAdd, Array.getD_eq_getD_getElem?, List.getElem?_toArray, List.getElem?_cons_succ, List.getElem?_cons_zero, Option.getD_some]
           rfl)
      | (apply Reg.TW.skip_ rfl
         · simp only [Act.put, Act.eval, List.setIfInBounds_toArray, List.set_cons_zero, List.set_cons_succ, Nat.reduceAdd, Array.getD_eq_getD_getElem?, List.getElem?_toArray, List.getElem?_cons_succ, List.getElem?_cons_zero, Option.getD_some]
           rfl)
      | (apply Reg.TW.pure_ rfl
         · intro w1 hw1 hf K hK
           simp only [Act.put, List.setIfInBounds_toArray, List.set_cons_zero, List.set_cons_succ] at hK
           have HK := Lib.hid hK
           clear hf hK
           unfold Reg.One; dsimp only
           go_wp2_with fail
           exact HK.out _ (Reg.Ext.refl _)
         · simp only [Act.put, Act.eval, List.setIfInBounds_toArray, List.set_cons_zero, List.set_cons_succ, Nat.reduceAdd, Array.getD_eq_getD_getElem?, List.getElem?_toArray, List.getElem?_cons_succ, List.getElem?_cons_zero, Option.getD_some]
           rfl))
    refine Reg.TW.nil_ ?_
    intro w3 hw3 _
    go_wp2
    go_ret
    exact ⟨rfl, HX.out.trans hw3⟩
  case hlen => rfl
end Stp
end Go.Proofs.YtnaijnhpgalmjaaDoor

/- The walk of the log's law's great. -/
import Derived.Test.YtafeealbdpmdkaaGreatDoorDyL
set_option linter.unusedSimpArgs false
set_option linter.unusedVariables false
set_option linter.unusedSectionVars false
open Go.Lib renaming hid → y_
-- squeezed
namespace Go.Proofs.YtafeealbdpmdkaaGreatDoor
open Go Go.RowKit
namespace Plk
open Slp (S RdS)
def bigS (x : S) : Bool := decide ((500 : Int) < (x.repo.size : Int)) || (decide ((500 : Int) < (x.tag.size : Int)) || decide ((500 : Int) < (x.typ.size : Int)))
def actC (k : Int) (x : S) (l : Value) (a n m : Int) (s : ByteArray) : List Value := .int .i64 k :: (x.cells ++ [l, .int .i64 a, .int .i64 n, .int .i64 m, .string s])
def greatA (x : S) (xs : List S) (s : ByteArray) : Bool := decide ((20 : Int) < (xs.length : Int)) || (decide ((500 : Int) < (s.size : Int)) || (bigS x || xs.any bigS))
theorem actC_length (k : Int) (x : S) (l : Value) (a n m : Int) (s : ByteArray) (hx : x.dig.length = 32) : (actC k x l a n m s).length = 44 := by simp [actC, Slp.cells_length x hx]
theorem actC_x (k : Int) (x : S) (l : Value) (a n m : Int) (s : ByteArray) (hx : x.dig.length = 32) (i : Nat) (hi : i < 38) : (actC k x l a n m s)[1 + i]? = x.cells[i]? := by
 unfold actC
 rw [Nat.add_comm, List.getElem?_cons_succ, List.getElem?_append_left (by rw [Slp.cells_length x hx]; exact hi)]
theorem actC_t (k : Int) (x : S) (l : Value) (a n m : Int) (s : ByteArray) (hx : x.dig.length = 32) (i : Nat) : (actC k x l a n m s)[39 + i]? = [l, .int .i64 a, .int .i64 n, .int .i64 m, .string s][i]? := by
 unfold actC
 rw [show 39 + i = (38 + i) + 1 by omega, List.getElem?_cons_succ, List.getElem?_append_right (by rw [Slp.cells_length x hx]; omega), Slp.cells_length x hx]
 congr 1
 omega
theorem range_cell {w : World} {g o : Nat} {cs : List Value} (h : w.rangeAt g o cs) {i : Nat} {v : Value} (hi : cs[i]? = some v) : w.cell? ⟨g, o + i, none⟩ = some v := h i v hi
theorem take_any {xs : List S} {k : Nat} (h : k < xs.length) (h1 : (xs.take k).any bigS = false) (h2 : bigS xs[k] = false) : (xs.take (k + 1)).any bigS = false := by
 rw [List.take_succ_eq_append_getElem h, List.any_append, h1]
 simp [h2]
set_option maxRecDepth 100000 in
set_option maxHeartbeats 2000000 in
theorem great_any (k a n m : Int) (x : S) (p : Option Addr) (c : Nat) (xs : List S) (s : ByteArray) (hx : x.dig.length = 32) (w : World) (hr : RdS (.slice p xs.length c) xs w) :
  Calls Tryz.prog 9 #[.agg (actC k x (.slice p xs.length c) a n m s).toArray] w fun e w' => e = .returned (.bool (greatA x xs s)) ∧ Reg.Ext w w' := by
 have hb1 : Blk (w.alloc (Obj.cells (actC k x (.slice p xs.length c) a n m s).toArray 41)) w.heap.size 41 (actC k x (.slice p xs.length c) a n m s) := by
  have := Blk.new w 41 (actC k x (.slice p xs.length c) a n m s).toArray
  simpa using this
 have hx1 := Reg.Ext.alloc w (Obj.cells (actC k x (.slice p xs.length c) a n m s).toArray 41)
 have HV : Hid (greatA x xs s = (decide ((20 : Int) < (xs.length : Int)) || (decide ((500 : Int) < (s.size : Int)) || ((decide ((500 : Int) < (x.repo.size : Int)) || (decide ((500 : Int) < (x.tag.size : Int)) || decide ((500 : Int) < (x.typ.size : Int)))) || xs.any bigS)))) := rfl
 have HR := y_ hr
 clear hr
 go_enter Tryz.func9, Tryz.ntmps9
 go_upto_region 1 with (fail)
 generalize w.alloc (Obj.cells (actC k x (.slice p xs.length c) a n m s).toArray 41) = w1 at *
 generalize hg1 : w.heap.size = g1 at *
 have q2 : w1.cell? ⟨g1, 2, none⟩ = some (.string x.repo) := by rw [hb1.cell, actC_x k x _ a n m s hx 1 (by omega)]; rfl
 have q3 : w1.cell? ⟨g1, 3, none⟩ = some (.string x.tag) := by rw [hb1.cell, actC_x k x _ a n m s hx 2 (by omega)]; rfl
 have q36 : w1.cell? ⟨g1, 36, none⟩ = some (.string x.typ) := by rw [hb1.cell, actC_x k x _ a n m s hx 35 (by omega)]; exact Slp.at35 x hx
 have q39 : w1.cell? ⟨g1, 39, none⟩ = some (.slice p xs.length c) := by rw [hb1.cell, actC_t k x _ a n m s hx 0]; rfl
 have q43 : w1.cell? ⟨g1, 43, none⟩ = some (.string s) := by rw [hb1.cell, actC_t k x _ a n m s hx 4]; rfl
 have X := y_ hx1
 have HR1 := y_ (HR.out.ext hx1)
 clear hb1 hx1 hg1 HR
 by_cases h0 : 20 < xs.length
 ·have d0 : decide ((20 : Int) < (xs.length : Int)) = true := by rw [decide_eq_true_iff]; omega
  rw [d0] at HV
  clear h0
  go_wp2_with fail
  go_ret
  exact ⟨by rw [HV.out]; rfl, X.out⟩
 have hl20 : xs.length ≤ 20 := by omega
 have d0 : decide ((20 : Int) < (xs.length : Int)) = false := by rw [decide_eq_false_iff_not]; omega
 rw [d0] at HV
 clear h0
 by_cases ht : 500 < s.size
 ·have d : decide ((500 : Int) < (s.size : Int)) = true := by rw [decide_eq_true_iff]; omega
  rw [d] at HV
  clear ht
  go_wp2_with fail
  go_ret
  exact ⟨by rw [HV.out]; rfl, X.out⟩
 have d : decide ((500 : Int) < (s.size : Int)) = false := by rw [decide_eq_false_iff_not]; omega
 rw [d] at HV
 clear ht
 by_cases ht : 500 < x.repo.size
 ·have d : decide ((500 : Int) < (x.repo.size : Int)) = true := by rw [decide_eq_true_iff]; omega
  rw [d] at HV
  clear ht
  go_wp2_with fail
  go_ret
  exact ⟨by rw [HV.out]; rfl, X.out⟩
 have d : decide ((500 : Int) < (x.repo.size : Int)) = false := by rw [decide_eq_false_iff_not]; omega
 rw [d] at HV
 clear ht
 by_cases ht : 500 < x.tag.size
 ·have d : decide ((500 : Int) < (x.tag.size : Int)) = true := by rw [decide_eq_true_iff]; omega
  rw [d] at HV
  clear ht
  go_wp2_with fail
  go_ret
  exact ⟨by rw [HV.out]; rfl, X.out⟩
 have d : decide ((500 : Int) < (x.tag.size : Int)) = false := by rw [decide_eq_false_iff_not]; omega
 rw [d] at HV
 clear ht
 by_cases ht : 500 < x.typ.size
 ·have d : decide ((500 : Int) < (x.typ.size : Int)) = true := by rw [decide_eq_true_iff]; omega
  rw [d] at HV
  clear ht
  go_wp2_with fail
  go_ret
  exact ⟨by rw [HV.out]; rfl, X.out⟩
 have d : decide ((500 : Int) < (x.typ.size : Int)) = false := by rw [decide_eq_false_iff_not]; omega
 rw [d] at HV
 clear ht
 have HV2 : Hid (greatA x xs s = xs.any bigS) := y_ (by rw [HV.out]; rfl)
 clear HV
 go_wp2_with fail
 go_loop [3] (fun i => ∃ k : Nat, k ≤ xs.length ∧ i = .int .i64 (k : Int) ∧ Hid ((xs.take k).any bigS = false)) (fun i => xs.length - (intOf i).toNat)
 case atStart => exact ⟨0, Nat.zero_le _, rfl, y_ rfl⟩
 case round =>
  obtain ⟨k, hk, rfl, HA⟩ := hrel
  by_cases hkl : k < xs.length
  ·obtain ⟨hd, p', c', e1, -, hrr⟩ := HR1.out
   injection e1 with e1 _ _
   subst e1
   obtain ⟨g, o, rfl, hrk⟩ := hrr k hkl
   have hyd := hd xs[k] (List.getElem_mem hkl)
   have HN : Hid (bigS xs[k] = false → (xs.take (k + 1)).any bigS = false) := y_ (take_any hkl HA.out)
   have HP : Hid (bigS xs[k] = true → xs.any bigS = true) := y_ fun h => List.any_eq_true.2 ⟨_, List.getElem_mem hkl, h⟩
   clear hrr hd
   generalize xs[k] = y at *
   have r1 : w1.cell? ⟨g, o + k * 38 + 1, none⟩ = some (.string y.repo) := range_cell hrk rfl
   have r2 : w1.cell? ⟨g, o + k * 38 + 2, none⟩ = some (.string y.tag) := range_cell hrk rfl
   have r3 : w1.cell? ⟨g, o + k * 38 + 35, none⟩ = some (.string y.typ) := range_cell hrk (Slp.at35 y hyd)
   have HB : Hid (bigS y = (decide ((500 : Int) < (y.repo.size : Int)) || (decide ((500 : Int) < (y.tag.size : Int)) || decide ((500 : Int) < (y.typ.size : Int))))) := y_ rfl
   clear hrk hyd HR1 HA
   by_cases ht : 500 < y.repo.size
   ·have d : decide ((500 : Int) < (y.repo.size : Int)) = true := by rw [decide_eq_true_iff]; omega
    rw [d] at HB
    have HT : Hid (greatA x xs s = true) := y_ (by rw [HV2.out]; exact HP.out (by rw [HB.out]; rfl))
    clear ht HB HP HN HV2
    go_wp2_with fail
    go_ret
    exact ⟨by rw [HT.out]; rfl, X.out⟩
   have d : decide ((500 : Int) < (y.repo.size : Int)) = false := by rw [decide_eq_false_iff_not]; omega
   rw [d] at HB
   clear ht
   by_cases ht : 500 < y.tag.size
   ·have d : decide ((500 : Int) < (y.tag.size : Int)) = true := by rw [decide_eq_true_iff]; omega
    rw [d] at HB
    have HT : Hid (greatA x xs s = true) := y_ (by rw [HV2.out]; exact HP.out (by rw [HB.out]; rfl))
    clear ht HB HP HN HV2
    go_wp2_with fail
    go_ret
    exact ⟨by rw [HT.out]; rfl, X.out⟩
   have d : decide ((500 : Int) < (y.tag.size : Int)) = false := by rw [decide_eq_false_iff_not]; omega
   rw [d] at HB
   clear ht
   by_cases ht : 500 < y.typ.size
   ·have d : decide ((500 : Int) < (y.typ.size : Int)) = true := by rw [decide_eq_true_iff]; omega
    rw [d] at HB
    have HT : Hid (greatA x xs s = true) := y_ (by rw [HV2.out]; exact HP.out (by rw [HB.out]; rfl))
    clear ht HB HP HN HV2
    go_wp2_with fail
    go_ret
    exact ⟨by rw [HT.out]; rfl, X.out⟩
   have d : decide ((500 : Int) < (y.typ.size : Int)) = false := by rw [decide_eq_false_iff_not]; omega
   rw [d] at HB
   clear ht
   have HNN := y_ (HN.out (by rw [HB.out]; rfl))
   go_wp2_with fail
   go_round
   case rel => exact ⟨k + 1, by omega, by go_num, HNN⟩
   case measure => simp [intOf]; omega
  ·have hke : k = xs.length := by omega
   subst hke
   have HF : Hid (greatA x xs s = false) := y_ (by rw [HV2.out]; have := HA.out; rwa [List.take_length] at this)
   clear HA HV2 HR1
   go_wp2_with fail
   go_ret
   exact ⟨by rw [HF.out]; rfl, X.out⟩
section
variable {ops : Array Oper} {rest : List Oper} {o : Oper} {a : Act} {w : World} {Q : Exit → Act → World → Prop}
end
end Plk
end Go.Proofs.YtafeealbdpmdkaaGreatDoor

/- The walk of the log's law's great. -/
import Derived.Test.YtafeealbdpmdkaaDoorDyL
set_option linter.unusedSimpArgs false
set_option linter.unusedVariables false
set_option linter.unusedSectionVars false
namespace Go.Proofs.YtafeealbdpmdkaaDoor
open Go Go.RowKit
namespace Plk
open Slp (S RdS)
def bigS (x : S) : Bool := decide ((500 : Int) < (x.repo.size : Int)) || (decide ((500 : Int) < (x.tag.size : Int)) || decide ((500 : Int) < (x.typ.size : Int)))
def actC (k : Int) (x : S) (l : Value) (a n m : Int) (s : ByteArray) : List Value := .int .i64 k :: (x.cells ++ [l, .int .i64 a, .int .i64 n, .int .i64 m, .string s])
/-- zeros of an act -/
def actZ : List Value := .int .i64 0 :: (S.none.cells ++ [.slice none 0 0, .int .i64 0, .int .i64 0, .int .i64 0, .string Slp.noStr])
theorem built_fill (parts : List (Nat × Value)) : Tryd.prog.built 39 parts = Instr.fill ((#[(0, 1), (1, 38), (39, 1), (40, 1), (41, 1), (42, 1), (43, 1)] : Array (Nat × Nat))[·]?) actZ.toArray parts := by kernel_rfl
theorem fill_x (c : Array Value) (hc : c.size = 38) (z : List Value) (hz : z.length = 43) (u : Value) : Instr.fill ((#[(0, 1), (1, 38), (39, 1), (40, 1), (41, 1), (42, 1), (43, 1)] : Array (Nat × Nat))[·]?) (u :: z).toArray [(1, .agg c)] = some ([u] ++ c.toList ++ z.drop 38).toArray := by
  have hv : (Value.agg c).cells = c := rfl
  have a := Slp.fold_at 1 c.toList [u] z 0 rfl (by simp; omega)
  have e : ((#[(0, 1), (1, 38), (39, 1), (40, 1), (41, 1), (42, 1), (43, 1)] : Array (Nat × Nat))[1]?) = some (1, 38) := rfl
  unfold Instr.fill
  simp only [hv, e]
  rw [if_neg (by simp [hc]; omega)]
  unfold Instr.fill
  rw [← Array.foldl_toList, Array.toList_zipIdx]
  simp only [List.singleton_append] at a ⊢
  rw [a, Array.length_toList, hc]
theorem build_x (x : S) (hx : x.dig.length = 32) (w : World) : (Instr.build 39 #[(1, .agg x.cells.toArray)]).run Tryd.prog w = .ok (.agg (actC 0 x (.slice none 0 0) 0 0 0 Slp.noStr).toArray) w := by
  refine run_build w _ _ _ ?_
  rw [built_fill]
  have hl : S.none.cells.length = 38 := rfl
  refine (fill_x x.cells.toArray (by rw [List.size_toArray, Slp.cells_length x hx]) (S.none.cells ++ [.slice none 0 0, .int .i64 0, .int .i64 0, .int .i64 0, .string Slp.noStr]) rfl (.int .i64 0)).trans ?_
  rw [List.drop_append_of_le_length (by rw [hl]; exact Nat.le_refl _), List.drop_of_length_le (by rw [hl]; exact Nat.le_refl _)]
  simp [actC]
theorem build_lx (x : S) (hx : x.dig.length = 32) (p : Option Addr) (n c : Nat) (w : World) : (Instr.build 39 #[(2, .slice p n c), (1, .agg x.cells.toArray)]).run Tryd.prog w = .ok (.agg (actC 0 x (.slice p n c) 0 0 0 Slp.noStr).toArray) w := by
  refine run_build w _ _ _ ?_
  rw [built_fill]
  have hl : S.none.cells.length = 38 := rfl
  have e : ∀ rest, Instr.fill ((#[(0, 1), (1, 38), (39, 1), (40, 1), (41, 1), (42, 1), (43, 1)] : Array (Nat × Nat))[·]?) actZ.toArray ((2, .slice p n c) :: rest) = Instr.fill ((#[(0, 1), (1, 38), (39, 1), (40, 1), (41, 1), (42, 1), (43, 1)] : Array (Nat × Nat))[·]?) (.int .i64 0 :: (S.none.cells ++ [.slice p n c, .int .i64 0, .int .i64 0, .int .i64 0, .string Slp.noStr])).toArray rest := fun rest => by
    conv => lhs; unfold Instr.fill
    rfl
  rw [e]
  refine (fill_x x.cells.toArray (by rw [List.size_toArray, Slp.cells_length x hx]) (S.none.cells ++ [.slice p n c, .int .i64 0, .int .i64 0, .int .i64 0, .string Slp.noStr]) rfl (.int .i64 0)).trans ?_
  rw [List.drop_append_of_le_length (by rw [hl]; exact Nat.le_refl _), List.drop_of_length_le (by rw [hl]; exact Nat.le_refl _)]
  simp [actC]
theorem build_l (p : Option Addr) (n c : Nat) (w : World) : (Instr.build 39 #[(2, .slice p n c)]).run Tryd.prog w = .ok (.agg (actC 0 S.none (.slice p n c) 0 0 0 Slp.noStr).toArray) w := by
  refine run_build w _ _ _ ?_
  rw [built_fill]
  rfl
def greatA (x : S) (xs : List S) (s : ByteArray) : Bool := decide ((20 : Int) < (xs.length : Int)) || (decide ((500 : Int) < (s.size : Int)) || (bigS x || xs.any bigS))
theorem actC_length (k : Int) (x : S) (l : Value) (a n m : Int) (s : ByteArray) (hx : x.dig.length = 32) : (actC k x l a n m s).length = 44 := by simp [actC, Slp.cells_length x hx]
theorem actC_x (k : Int) (x : S) (l : Value) (a n m : Int) (s : ByteArray) (hx : x.dig.length = 32) (i : Nat) (hi : i < 38) : (actC k x l a n m s)[1 + i]? = x.cells[i]? := by
  unfold actC
  rw [Nat.add_comm, List.getElem?_cons_succ, List.getElem?_append_left (by rw [Slp.cells_length x hx]; exact hi)]
theorem actC_t (k : Int) (x : S) (l : Value) (a n m : Int) (s : ByteArray) (hx : x.dig.length = 32) (i : Nat) : (actC k x l a n m s)[39 + i]? = [l, .int .i64 a, .int .i64 n, .int .i64 m, .string s][i]? := by
  unfold actC
  rw [show 39 + i = (38 + i) + 1 by omega, List.getElem?_cons_succ, List.getElem?_append_right (by rw [Slp.cells_length x hx]; omega), Slp.cells_length x hx]
  congr 1
  omega
theorem range_cell {w : World} {g o : Nat} {cs : List Value} (h : w.rangeAt g o cs) {i : Nat} {v : Value} (hi : cs[i]? = some v) : w.cell? ⟨g, o + i, none⟩ = some v := h i v hi
theorem take_any {xs : List S} {k : Nat} (h : k < xs.length) (h1 : (xs.take k).any bigS = false) (h2 : bigS xs[k] = false) : (xs.take (k + 1)).any bigS = false := by
  rw [List.take_succ_eq_append_getElem h, List.any_append, h1]
  simp [h2]
set_option maxRecDepth 100000 in
set_option maxHeartbeats 2000000 in
theorem great_any (k a n m : Int) (x : S) (p : Option Addr) (c : Nat) (xs : List S) (s : ByteArray) (hx : x.dig.length = 32) (w : World) (hr : RdS (.slice p xs.length c) xs w) :
    Calls Tryd.prog 10 #[.agg (actC k x (.slice p xs.length c) a n m s).toArray] w fun e w' => e = .returned (.bool (greatA x xs s)) ∧ Reg.Ext w w' := by
  have hb1 : Blk (w.alloc (Obj.cells (actC k x (.slice p xs.length c) a n m s).toArray 39)) w.heap.size 39 (actC k x (.slice p xs.length c) a n m s) := by
    have := Blk.new w 39 (actC k x (.slice p xs.length c) a n m s).toArray
    simpa using this
  have hx1 := Reg.Ext.alloc w (Obj.cells (actC k x (.slice p xs.length c) a n m s).toArray 39)
  have HV : Hid (greatA x xs s = (decide ((20 : Int) < (xs.length : Int)) || (decide ((500 : Int) < (s.size : Int)) || ((decide ((500 : Int) < (x.repo.size : Int)) || (decide ((500 : Int) < (x.tag.size : Int)) || decide ((500 : Int) < (x.typ.size : Int)))) || xs.any bigS)))) := rfl
  have HR := Lib.hid hr
  clear hr
  go_enter Tryd.func10, Tryd.ntmps10
  go_upto_region 1 with (fail)
  generalize w.alloc (Obj.cells (actC k x (.slice p xs.length c) a n m s).toArray 39) = w1 at *
  generalize hg1 : w.heap.size = g1 at *
  have q2 : w1.cell? ⟨g1, 2, none⟩ = some (.string x.repo) := by rw [hb1.cell, actC_x k x _ a n m s hx 1 (by omega)]; rfl
  have q3 : w1.cell? ⟨g1, 3, none⟩ = some (.string x.tag) := by rw [hb1.cell, actC_x k x _ a n m s hx 2 (by omega)]; rfl
  have q36 : w1.cell? ⟨g1, 36, none⟩ = some (.string x.typ) := by rw [hb1.cell, actC_x k x _ a n m s hx 35 (by omega)]; exact Slp.at35 x hx
  have q39 : w1.cell? ⟨g1, 39, none⟩ = some (.slice p xs.length c) := by rw [hb1.cell, actC_t k x _ a n m s hx 0]; rfl
  have q43 : w1.cell? ⟨g1, 43, none⟩ = some (.string s) := by rw [hb1.cell, actC_t k x _ a n m s hx 4]; rfl
  have X := Lib.hid hx1
  have HR1 := Lib.hid (HR.out.ext hx1)
  clear hb1 hx1 hg1 HR
  by_cases h0 : 20 < xs.length
  · have d0 : decide ((20 : Int) < (xs.length : Int)) = true := by rw [decide_eq_true_iff]; omega
    rw [d0] at HV
    clear h0
    go_wp2_with fail
    go_ret
    exact ⟨by rw [HV.out]; rfl, X.out⟩
  have hl20 : xs.length ≤ 20 := by omega
  have d0 : decide ((20 : Int) < (xs.length : Int)) = false := by rw [decide_eq_false_iff_not]; omega
  rw [d0] at HV
  clear h0
  by_cases ht : 500 < s.size
  · have d : decide ((500 : Int) < (s.size : Int)) = true := by rw [decide_eq_true_iff]; omega
    rw [d] at HV
    clear ht
    go_wp2_with fail
    go_ret
    exact ⟨by rw [HV.out]; rfl, X.out⟩
  have d : decide ((500 : Int) < (s.size : Int)) = false := by rw [decide_eq_false_iff_not]; omega
  rw [d] at HV
  clear ht
  by_cases ht : 500 < x.repo.size
  · have d : decide ((500 : Int) < (x.repo.size : Int)) = true := by rw [decide_eq_true_iff]; omega
    rw [d] at HV
    clear ht
    go_wp2_with fail
    go_ret
    exact ⟨by rw [HV.out]; rfl, X.out⟩
  have d : decide ((500 : Int) < (x.repo.size : Int)) = false := by rw [decide_eq_false_iff_not]; omega
  rw [d] at HV
  clear ht
  by_cases ht : 500 < x.tag.size
  · have d : decide ((500 : Int) < (x.tag.size : Int)) = true := by rw [decide_eq_true_iff]; omega
    rw [d] at HV
    clear ht
    go_wp2_with fail
    go_ret
    exact ⟨by rw [HV.out]; rfl, X.out⟩
  have d : decide ((500 : Int) < (x.tag.size : Int)) = false := by rw [decide_eq_false_iff_not]; omega
  rw [d] at HV
  clear ht
  by_cases ht : 500 < x.typ.size
  · have d : decide ((500 : Int) < (x.typ.size : Int)) = true := by rw [decide_eq_true_iff]; omega
    rw [d] at HV
    clear ht
    go_wp2_with fail
    go_ret
    exact ⟨by rw [HV.out]; rfl, X.out⟩
  have d : decide ((500 : Int) < (x.typ.size : Int)) = false := by rw [decide_eq_false_iff_not]; omega
  rw [d] at HV
  clear ht
  have HV2 : Hid (greatA x xs s = xs.any bigS) := Lib.hid (by rw [HV.out]; rfl)
  clear HV
  go_wp2_with fail
  go_loop [3] (fun i => ∃ k : Nat, k ≤ xs.length ∧ i = .int .i64 (k : Int) ∧ Hid ((xs.take k).any bigS = false)) (fun i => xs.length - (intOf i).toNat)
  case atStart => exact ⟨0, Nat.zero_le _, rfl, Lib.hid rfl⟩
  case round =>
    obtain ⟨k, hk, rfl, HA⟩ := hrel
    by_cases hkl : k < xs.length
    · obtain ⟨hd, p', c', e1, -, hrr⟩ := HR1.out
      injection e1 with e1 _ _
      subst e1
      obtain ⟨g, o, rfl, hrk⟩ := hrr k hkl
      have hyd := hd xs[k] (List.getElem_mem hkl)
      have HN : Hid (bigS xs[k] = false → (xs.take (k + 1)).any bigS = false) := Lib.hid (take_any hkl HA.out)
      have HP : Hid (bigS xs[k] = true → xs.any bigS = true) := Lib.hid fun h => List.any_eq_true.2 ⟨_, List.getElem_mem hkl, h⟩
      clear hrr hd
      generalize xs[k] = y at *
      have r1 : w1.cell? ⟨g, o + k * 38 + 1, none⟩ = some (.string y.repo) := range_cell hrk rfl
      have r2 : w1.cell? ⟨g, o + k * 38 + 2, none⟩ = some (.string y.tag) := range_cell hrk rfl
      have r3 : w1.cell? ⟨g, o + k * 38 + 35, none⟩ = some (.string y.typ) := range_cell hrk (Slp.at35 y hyd)
      have HB : Hid (bigS y = (decide ((500 : Int) < (y.repo.size : Int)) || (decide ((500 : Int) < (y.tag.size : Int)) || decide ((500 : Int) < (y.typ.size : Int))))) := Lib.hid rfl
      clear hrk hyd HR1 HA
      by_cases ht : 500 < y.repo.size
      · have d : decide ((500 : Int) < (y.repo.size : Int)) = true := by rw [decide_eq_true_iff]; omega
        rw [d] at HB
        have HT : Hid (greatA x xs s = true) := Lib.hid (by rw [HV2.out]; exact HP.out (by rw [HB.out]; rfl))
        clear ht HB HP HN HV2
        go_wp2_with fail
        go_ret
        exact ⟨by rw [HT.out]; rfl, X.out⟩
      have d : decide ((500 : Int) < (y.repo.size : Int)) = false := by rw [decide_eq_false_iff_not]; omega
      rw [d] at HB
      clear ht
      by_cases ht : 500 < y.tag.size
      · have d : decide ((500 : Int) < (y.tag.size : Int)) = true := by rw [decide_eq_true_iff]; omega
        rw [d] at HB
        have HT : Hid (greatA x xs s = true) := Lib.hid (by rw [HV2.out]; exact HP.out (by rw [HB.out]; rfl))
        clear ht HB HP HN HV2
        go_wp2_with fail
        go_ret
        exact ⟨by rw [HT.out]; rfl, X.out⟩
      have d : decide ((500 : Int) < (y.tag.size : Int)) = false := by rw [decide_eq_false_iff_not]; omega
      rw [d] at HB
      clear ht
      by_cases ht : 500 < y.typ.size
      · have d : decide ((500 : Int) < (y.typ.size : Int)) = true := by rw [decide_eq_true_iff]; omega
        rw [d] at HB
        have HT : Hid (greatA x xs s = true) := Lib.hid (by rw [HV2.out]; exact HP.out (by rw [HB.out]; rfl))
        clear ht HB HP HN HV2
        go_wp2_with fail
        go_ret
        exact ⟨by rw [HT.out]; rfl, X.out⟩
      have d : decide ((500 : Int) < (y.typ.size : Int)) = false := by rw [decide_eq_false_iff_not]; omega
      rw [d] at HB
      clear ht
      have HNN := Lib.hid (HN.out (by rw [HB.out]; rfl))
      go_wp2_with fail
      go_round
      case rel => exact ⟨k + 1, by omega, by go_num, HNN⟩
      case measure => simp [intOf]; omega
    · have hke : k = xs.length := by omega
      subst hke
      have HF : Hid (greatA x xs s = false) := Lib.hid (by rw [HV2.out]; have := HA.out; rwa [List.take_length] at this)
      clear HA HV2 HR1
      go_wp2_with fail
      go_ret
      exact ⟨by rw [HF.out]; rfl, X.out⟩
section
variable {ops : Array Oper} {rest : List Oper} {o : Oper} {a : Act} {w : World} {Q : Exit → Act → World → Prop}
theorem wpList_bl (x : Operand) (ho : o.op = .build 39 #[(2, x)]) (p : Option Addr) (n c : Nat) (hx : a.eval x = .slice p n c) (hw : Region.wanted o (yielded ops a.tmps) = true)
    (hk : wpList Tryd.prog ops Q rest (a.put o.dst (.agg (actC 0 S.none (.slice p n c) 0 0 0 Slp.noStr).toArray)) w) : wpList Tryd.prog ops Q (o :: rest) a w := by
  refine Slp.wpList_any hw _ w ?_ hk
  unfold execOp
  rw [ho]
  simp only [List.map_toArray, List.map_cons, List.map_nil, hx, Sem.run_bind, build_l, Result.andThen_ok, Sem.run_pure]
theorem wpList_bx (x : Operand) (ho : o.op = .build 39 #[(1, x)]) (u : S) (hu : u.dig.length = 32) (hx : a.eval x = .agg u.cells.toArray) (hw : Region.wanted o (yielded ops a.tmps) = true)
    (hk : wpList Tryd.prog ops Q rest (a.put o.dst (.agg (actC 0 u (.slice none 0 0) 0 0 0 Slp.noStr).toArray)) w) : wpList Tryd.prog ops Q (o :: rest) a w := by
  refine Slp.wpList_any hw _ w ?_ hk
  unfold execOp
  rw [ho]
  simp only [List.map_toArray, List.map_cons, List.map_nil, hx, Sem.run_bind, build_x u hu, Result.andThen_ok, Sem.run_pure]
theorem wpList_blx (x y : Operand) (ho : o.op = .build 39 #[(2, x), (1, y)]) (p : Option Addr) (n c : Nat) (u : S) (hu : u.dig.length = 32) (hx : a.eval x = .slice p n c) (hy : a.eval y = .agg u.cells.toArray) (hw : Region.wanted o (yielded ops a.tmps) = true)
    (hk : wpList Tryd.prog ops Q rest (a.put o.dst (.agg (actC 0 u (.slice p n c) 0 0 0 Slp.noStr).toArray)) w) : wpList Tryd.prog ops Q (o :: rest) a w := by
  refine Slp.wpList_any hw _ w ?_ hk
  unfold execOp
  rw [ho]
  simp only [List.map_toArray, List.map_cons, List.map_nil, hx, hy, Sem.run_bind, build_lx u hu, Result.andThen_ok, Sem.run_pure]
end
theorem row_empty (w : World) (B : Nat) (hB : B ≤ w.heap.size) : Slp.Row B (.slice (some ⟨w.heap.size, 0, none⟩) 0 0) [] (w.alloc (.cells #[] 37)) :=
  ⟨World.ownsRow_made w #[] 0 hB (Nat.zero_le _) rfl, by simp⟩
def okS (xs : List S) : List S := xs.filter Slp.good
theorem okS_good {xs : List S} {k : Nat} (h : k < xs.length) (hg : Slp.good xs[k] = true) : okS (xs.take (k + 1)) = okS (xs.take k) ++ [xs[k]] := by
  unfold okS
  rw [List.take_succ_eq_append_getElem h, List.filter_append]
  simp [hg]
theorem okS_bad {xs : List S} {k : Nat} (h : k < xs.length) (hg : Slp.good xs[k] = false) : okS (xs.take (k + 1)) = okS (xs.take k) := by
  unfold okS
  rw [List.take_succ_eq_append_getElem h, List.filter_append]
  simp [hg]
theorem okS_len (xs : List S) (k : Nat) : (okS (xs.take k)).length ≤ k := by
  have h1 := List.length_filter_le Slp.good (xs.take k)
  rw [List.length_take] at h1
  unfold okS
  omega
theorem okS_fit {xs : List S} (h : ∀ x ∈ xs, x.dig.length = 32) (k : Nat) : Slp.Fit (okS (xs.take k)) := fun x hx => by
  obtain ⟨h1, h2⟩ := List.mem_filter.1 hx
  exact ⟨h x (List.mem_of_mem_take h1), h2⟩
theorem fit_good {xs : List S} (h : Slp.Fit xs) : allGood xs = true := by
  unfold allGood
  rw [List.all_eq_true]
  exact fun x hx => (h x hx).2
theorem fit_of {xs : List S} (h : ∀ x ∈ xs, x.dig.length = 32) (hg : allGood xs = true) : Slp.Fit xs := by
  unfold allGood at hg
  rw [List.all_eq_true] at hg
  exact fun x hx => ⟨h x hx, hg x hx⟩
theorem opened_whole {xs : List S} (h : Slp.Fit xs) : opened (Slp.frames xs) = ⟨(xs.length : Int), (xs.length : Int), ((Slp.frames xs).length : Int), false⟩ := by
  unfold opened
  rw [Slp.allP_whole xs h]
  simp
end Plk
end Go.Proofs.YtafeealbdpmdkaaDoor

/- Flights: New, none at all, a law's key, two rows compared. -/
import Derived.Test.YtjkhfnfimicffaaPyH
import Derived.Carry
set_option linter.unusedSimpArgs false
set_option linter.unusedVariables false
set_option linter.unusedSectionVars false
namespace Go.Proofs.Ytjkhfnfimicffaa
open Go Go.RowKit Go.Proofs Go.Sort Go.Lib Go.Shelf
namespace Py
theorem new_at (most : Int) (hm : 0 ≤ most) (W : World) : Pn ((((W.alloc (.map #[] 0)).alloc (.map #[] 0)).alloc (.map #[] 0)).alloc (.cells #[.map (some W.heap.size), .map (some (W.heap.size + 1)), .map (some (W.heap.size + 1 + 1)), .int .i64 most, .int .i64 0] 63)) ⟨W.heap.size + 1 + 1 + 1, W.heap.size, W.heap.size + 1, W.heap.size + 1 + 1⟩ [] ⟨[], most, 0⟩ 0 := by
  have m1 := (World.ownsMap_made (H := Unit) W Try.prog 3 ptrR)
  have m2 := (World.ownsMap_made (H := Unit) (W.alloc (.map #[] 0)) Try.prog 33 (plainElem Try.prog 3))
  have m3 := (World.ownsMap_made (H := Unit) ((W.alloc (.map #[] 0)).alloc (.map #[] 0)) Try.prog 3 (plainElem Try.prog 3))
  have hb := Blk.new (((W.alloc (.map #[] 0)).alloc (.map #[] 0)).alloc (.map #[] 0)) 63 #[.map (some W.heap.size), .map (some (W.heap.size + 1)), .map (some (W.heap.size + 1 + 1)), .int .i64 most, .int .i64 0]
  have s1 : (W.alloc (.map #[] 0)).heap.size = W.heap.size + 1 := by simp
  have s2 : ((W.alloc (.map #[] 0)).alloc (.map #[] 0)).heap.size = W.heap.size + 1 + 1 := by simp
  have s3 : (((W.alloc (.map #[] 0)).alloc (.map #[] 0)).alloc (.map #[] 0)).heap.size = W.heap.size + 1 + 1 + 1 := by simp
  rw [s1] at m2
  rw [s2] at m3
  rw [s3] at hb
  refine ⟨⟨hb, ⟨.map [], ((m1.alloc _).alloc _).alloc _, rfl, fun i => ⟨rfl, rfl⟩⟩, ⟨.map [], (m2.alloc _).alloc _, fun k l _ _ => ⟨rfl, rfl⟩⟩, ⟨.map [], m3.alloc _, fun i => ⟨rfl, rfl⟩⟩, fun e he => (by cases he), fun e he => (by cases he), .nil, fun e he => (by cases he), fun e he => (by cases he), ?_, fun e he => (by cases he)⟩,
    rfl, good_new most hm, fun f hf => (by cases hf), Int.le_refl _, fun f hf => (by cases hf), Nat.le_refl _⟩
  unfold base
  simp only [List.nodup_cons, List.mem_cons, List.not_mem_nil, or_false, not_or]
  refine ⟨⟨by omega, by omega, by omega⟩, ⟨by omega, by omega⟩, by omega, fun h => h, .nil⟩
def ResN (W : World) (most : Int) (e : Ending) (w' : World) : Prop := ∃ h, e = .returned (.tuple #[.pointer (some ⟨h.d, 0, none⟩), .int .i64 0]) ∧ Pn w' h [] ⟨[], most, 0⟩ 0 ∧ Reg.Ext W w' ∧ ∀ i, Own h [] i → W.heap.size ≤ i
theorem new_any (most : Int) (h0 : 1 ≤ most) (h1 : most ≤ 16) (W : World) : Calls Try.prog 7 #[.int .i64 most] W (ResN W most) := by
  have hmm := @run_makeMap Try.prog
  have q0 : decide (most < 1) = false := decide_eq_false (by omega)
  have q1 : decide (16 < most) = false := decide_eq_false (by omega)
  have fin : ResN W most (.returned (.tuple #[.pointer (some ⟨W.heap.size + 1 + 1 + 1, 0, none⟩), .int .i64 0])) ((((W.alloc (.map #[] 0)).alloc (.map #[] 0)).alloc (.map #[] 0)).alloc (.cells #[.map (some W.heap.size), .map (some (W.heap.size + 1)), .map (some (W.heap.size + 1 + 1)), .int .i64 most, .int .i64 0] 63)) := by
    refine ⟨_, rfl, new_at most (by omega) W, (((Reg.Ext.alloc _ _).trans (Reg.Ext.alloc _ _)).trans (Reg.Ext.alloc _ _)).trans (Reg.Ext.alloc _ _), fun i hi => ?_⟩
    rcases hi with hi | ⟨e, he, _⟩
    · unfold base at hi
      simp only [List.mem_cons, List.not_mem_nil, or_false] at hi
      omega
    · cases he
  have FIN := Lib.hid fin
  clear fin h0 h1
  go_enter Try.func7, Try.ntmps7
  go_wp2_with fail
  go_ret2
  exact FIN.out
theorem new_bad (most : Int) (h0 : most < 1 ∨ 16 < most) (W : World) : Calls Try.prog 7 #[.int .i64 most] W fun e w' => e = .returned (.tuple #[.pointer none, .int .i64 1]) ∧ w' = W := by
  by_cases h1 : most < 1
  · have q0 : decide (most < 1) = true := decide_eq_true h1
    clear h0 h1
    go_enter Try.func7, Try.ntmps7
    go_wp2_with fail
    go_ret2
    exact ⟨rfl, rfl⟩
  · have q0 : decide (most < 1) = false := decide_eq_false h1
    have q1 : decide (16 < most) = true := decide_eq_true (by omega)
    clear h0 h1
    go_enter Try.func7, Try.ntmps7
    go_wp2_with fail
    go_ret2
    exact ⟨rfl, rfl⟩
/-- a law's key -/
def lkey (n : Int) : Ky := ⟨n, [], [], List.replicate 32 0, n.tmod 2 == 0⟩
theorem lkey_fine {n : Int} (h : wfI n) : (lkey n).Fine := by
  unfold wfI at h
  simp only [Lit.wf, Bool.and_eq_true, decide_eq_true_eq] at h
  exact ⟨rfl, h.1, h.2, Nat.zero_le _, Nat.zero_le _⟩
theorem z36 : (#[.int .i64 0, .string ⟨#[]⟩, .string ⟨#[]⟩, .int .u8 0, .int .u8 0, .int .u8 0, .int .u8 0, .int .u8 0, .int .u8 0, .int .u8 0, .int .u8 0, .int .u8 0, .int .u8 0, .int .u8 0, .int .u8 0, .int .u8 0, .int .u8 0, .int .u8 0, .int .u8 0, .int .u8 0, .int .u8 0, .int .u8 0, .int .u8 0, .int .u8 0, .int .u8 0, .int .u8 0, .int .u8 0, .int .u8 0, .int .u8 0, .int .u8 0, .int .u8 0, .int .u8 0, .int .u8 0, .int .u8 0, .int .u8 0, .bool false] : Array Value) = zK.cells.toArray := rfl
set_option maxRecDepth 100000 in
theorem key_any (n : Int) (w : World) : Calls Try.prog 9 #[.int .i64 n] w fun e w' => e = .returned (.agg (lkey n).cells.toArray) ∧ Reg.Ext w w' := by
  have hb0 := boxK w zK
  have hx0 := Reg.Ext.alloc w (Obj.cells zK.cells.toArray 33)
  go_enter Try.func9, Try.ntmps9
  go_upto_region 1 with (fail)
  rw [z36]
  generalize w.alloc (Obj.cells zK.cells.toArray 33) = w1 at *
  generalize hg : w.heap.size = g at *
  refine wp_region_lit ?_
  iterate 12 go_step
  refine wpList_val rfl (.agg (lkey n).cells.toArray) (by as_aux_lemma => kernel_rfl) ?_
  simp only [Act.put, Act.eval, List.setIfInBounds_toArray, List.set_cons_zero, List.set_cons_succ, Nat.reduceAdd, Array.getD_eq_getD_getElem?, List.getElem?_toArray, List.getElem?_cons_succ, List.getElem?_cons_zero, Option.getD_some]
  refine wpList_store_mid rfl 33 _ _ rfl g 0 ((lkey n).cells).toArray rfl ?_ (hb0.there _ (by rw [List.size_toArray]; exact Nat.le_refl _)) (by exact sizeK) (all_oneCell_toArray (Ky.one _)) ?_
  · rfl
  simp only [List.toList_toArray]
  simp only [Act.put, Act.eval, List.setIfInBounds_toArray, List.set_cons_zero, List.set_cons_succ, Nat.reduceAdd, Array.getD_eq_getD_getElem?, List.getElem?_toArray, List.getElem?_cons_succ, List.getElem?_cons_zero, Option.getD_some]
  have hbx := But.setCells g (lkey n).cells 0 w1
  have H8 := Lib.hid (hb0.setAll (lkey n).cells rfl)
  have HX := Lib.hid (hx0.trans_but hbx (by omega))
  clear hb0 hbx hx0
  go_wp2_with fail
  exact bodyPost_ret (results_cell_row rfl _ _ g 33 ((lkey n).cells).toArray (0, 0) _ rfl H8.out undK rfl (by exact sizeK)) rfl ⟨rfl, HX.out⟩
theorem row_nil {B : Nat} {w : World} {v : Value} (h : RowI B w v []) : ∃ A c, v = .slice A 0 c := by
  rcases h.2 with ⟨e, _⟩ | ⟨g, cap, cur, e, _⟩
  · exact ⟨none, 0, e⟩
  · exact ⟨_, cap, e⟩
theorem same_nil {w : World} {A A' : Option Addr} {c c' : Nat} : Calls Try.prog 12 #[.slice A 0 c, .slice A' 0 c'] w fun e w' => e = .returned (.bool true) ∧ w' = w := by
  go_enter Try.func12, Try.ntmps12
  go_wp2_with fail
  go_loopw [5] (fun i wr => i = .int .i64 0 ∧ wr = w) (fun _ _ => 0)
  case atStart => exact ⟨rfl, rfl⟩
  case round =>
    obtain ⟨rfl, rfl⟩ := hrel
    go_wp2_with fail
    go_ret
    exact ⟨rfl, rfl⟩
set_option maxRecDepth 100000 in
theorem same_row {w : World} {l : List Int} {g g' c c' : Nat} (ha : RowI 0 w (.slice (some ⟨g, 0, none⟩) l.length c) l) (hb : RowI 0 w (.slice (some ⟨g', 0, none⟩) l.length c') l) (hn : l.length ≤ 1000000) : Calls Try.prog 12 #[.slice (some ⟨g, 0, none⟩) l.length c, .slice (some ⟨g', 0, none⟩) l.length c'] w fun e w' => e = .returned (.bool true) ∧ Reg.Ext w w' := by
  have HA := Lib.hid ha
  have HB := Lib.hid hb
  have q : ((l.length : Int) != (l.length : Int)) = false := bne_self_eq_false _
  clear ha hb
  go_enter Try.func12, Try.ntmps12
  go_wp2_with fail
  go_loopw [5] (fun i wr => ∃ m : Nat, i = .int .i64 (m : Int) ∧ m ≤ l.length ∧ Hid (Reg.Ext w wr)) (fun i _ => l.length - (intOf i).toNat)
  case atStart => exact ⟨0, rfl, Nat.zero_le _, Lib.hid (Reg.Ext.refl _)⟩
  case round =>
    obtain ⟨m, rfl, hm, HX⟩ := hrel
    by_cases hml : m < l.length
    · have y0 := HX.out.at_ (RowI.at_ HA.out m hml)
      have y1 := HX.out.at_ (RowI.at_ HB.out m hml)
      generalize l[m] = x at *
      have qx : (x != x) = false := bne_self_eq_false _
      go_wp2_with fail
      go_quiet (fail)
      go_wp2_with fail
      go_roundw
      case rel => exact ⟨m + 1, by go_num, by omega, Lib.hid (HX.out.trans (Reg.Ext.drewN _ _))⟩
      case measure => simp [intOf]; omega
    · have hme : m = l.length := by omega
      subst hme
      go_wp2_with fail
      go_ret
      exact ⟨rfl, HX.out⟩
theorem same_any {w : World} {l : List Int} {a b : Value} {A B : Nat} (ha : RowI A w a l) (hb : RowI B w b l) (hn : l.length ≤ 1000000) : Calls Try.prog 12 #[a, b] w fun e w' => e = .returned (.bool true) ∧ Reg.Ext w w' := by
  by_cases hl : l = []
  · subst hl
    obtain ⟨p, c, rfl⟩ := row_nil ha
    obtain ⟨p', c', rfl⟩ := row_nil hb
    refine same_nil.mono ?_
    rintro e w' ⟨h1, rfl⟩
    exact ⟨h1, Reg.Ext.refl _⟩
  · obtain ⟨g, c, rfl, _⟩ := ha.form hl
    obtain ⟨g', c', rfl, _⟩ := hb.form hl
    exact same_row ⟨ha.1, ha.2.imp id fun ⟨g, cap, cur, e, _, h⟩ => ⟨g, cap, cur, e, Nat.zero_le _, h⟩⟩ ⟨hb.1, hb.2.imp id fun ⟨g, cap, cur, e, _, h⟩ => ⟨g, cap, cur, e, Nat.zero_le _, h⟩⟩ hn
/-! ### no party at all -/
theorem nil_join (k : Ky) (x : Int) (w : World) : Calls Try.prog 8 #[.pointer none, .agg k.cells.toArray, .int .i64 x] w fun e w' => e = .returned (.tuple #[.int .i64 0, .bool false, .int .i64 2]) ∧ Reg.Ext w w' := by
  have HX := Lib.hid (Reg.Ext.alloc w (Obj.cells k.cells.toArray 33))
  go_enter Try.func8, Try.ntmps8
  go_wp2_with fail
  refine bodyPost_ret (results_tmp3 rfl _ _ _) rfl ?_
  exact ⟨rfl, HX.out⟩
theorem nil_find (k : Ky) (w : World) : Calls Try.prog 15 #[.pointer none, .agg k.cells.toArray] w fun e w' => e = .returned (.tuple #[.int .i64 0, .bool false]) ∧ Reg.Ext w w' := by
  have HX := Lib.hid (Reg.Ext.alloc w (Obj.cells k.cells.toArray 33))
  go_enter Try.func15, Try.ntmps15
  go_wp2_with fail
  go_ret2
  exact ⟨rfl, HX.out⟩
theorem nil_where (x : Int) (w : World) : Calls Try.prog 14 #[.pointer none, .int .i64 x] w fun e w' => e = .returned (.tuple #[.int .i64 0, .bool false]) ∧ w' = w := by
  go_enter Try.func14, Try.ntmps14
  go_wp2_with fail
  go_ret2
  exact ⟨rfl, rfl⟩
theorem nil_leave (x : Int) (w : World) : Calls Try.prog 10 #[.pointer none, .int .i64 x] w fun e w' => e = .returned (.tuple #[.int .i64 0, .bool false]) ∧ Reg.Ext w w' := by
  have HX := Lib.hid (Reg.Ext.alloc w (Obj.cells #[.int .i64 x] 3))
  have HW := Lib.hid (nil_where x)
  go_enter Try.func10, Try.ntmps10
  go_wp2_with (go_at_call 14; refine (HW.out _).mono ?_; rintro e w' ⟨rfl, rfl⟩)
  go_ret2
  exact ⟨rfl, HX.out⟩
theorem nil_len (w : World) : Calls Try.prog 13 #[.pointer none] w fun e w' => e = .returned (.int .i64 0) ∧ w' = w := by
  go_enter Try.func13, Try.ntmps13
  go_wp2_with fail
  go_ret
  exact ⟨rfl, rfl⟩
theorem nil_list (w : World) : Calls Try.prog 16 #[.pointer none] w fun e w' => e = .returned (.slice none 0 0) ∧ w' = w := by
  go_enter Try.func16, Try.ntmps16
  go_wp2_with fail
  go_ret
  exact ⟨rfl, rfl⟩
theorem nil_waiters (i : Int) (w : World) : Calls Try.prog 17 #[.pointer none, .int .i64 i] w fun e w' => e = .returned (.slice none 0 0) ∧ w' = w := by
  go_enter Try.func17, Try.ntmps17
  go_wp2_with fail
  go_ret
  exact ⟨rfl, rfl⟩
theorem nil_end (i : Int) (w : World) : Calls Try.prog 11 #[.pointer none, .int .i64 i] w fun e w' => e = .returned (.slice none 0 0) ∧ w' = w := by
  have HW := Lib.hid (nil_waiters i)
  have q22 : ∀ (w : World) (a : Option Addr) (n c n' c' : Nat), (binOp .eql 22 (.slice a n c) (.slice none n' c')).run Try.prog w = .ok (.bool a.isNone) w := fun w a n c n' c' => Lib.run_eql_slice_nil w _ _ a n c n' c' Try.underlying22
  go_enter Try.func11, Try.ntmps11
  go_wp2_with (go_at_call 17; refine (HW.out _).mono ?_; rintro e w' ⟨rfl, rfl⟩)
  go_ret
  exact ⟨rfl, rfl⟩
end Py
end Go.Proofs.Ytjkhfnfimicffaa

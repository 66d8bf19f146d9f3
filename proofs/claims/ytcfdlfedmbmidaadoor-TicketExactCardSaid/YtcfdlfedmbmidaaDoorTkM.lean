/- The table: New, Get, Drop, List, Len. -/
import Derived.Test.YtcfdlfedmbmidaaDoorTkL
set_option linter.unusedSimpArgs false
set_option linter.unusedVariables false
set_option linter.unusedSectionVars false
namespace Go.Proofs.YtcfdlfedmbmidaaDoor
open Go Go.RowKit
namespace Tk
theorem results_tk {fn : Func} {p u : Tmp} (h : fn.results = #[.cell p 25, .tmp u]) (tmps : Array Value) (w : World) (g : Nat) (t : TypeId) (cs : Array Value) (fr : Nat × Nat)
    (hp : tmps.getD p undef = .pointer (some ⟨g, 0, none⟩)) (hg : w.heap[g]? = some (.cells cs t fr)) (hi : (Tryd.prog.info? 25).map (·.size) = some cs.size) :
    (results fn tmps).run Tryd.prog w = .ok (.tuple #[.agg cs, tmps.getD u undef]) w := by
  rw [results_cell_tmp h, hp]
  simp [asAddr, run_loadVar_row w g t 25 cs fr _ hg undT rfl hi]
theorem results_tk3 {fn : Func} {p u s : Tmp} (h : fn.results = #[.cell p 25, .tmp u, .tmp s]) (tmps : Array Value) (w : World) (g : Nat) (t : TypeId) (cs : Array Value) (fr : Nat × Nat)
    (hp : tmps.getD p undef = .pointer (some ⟨g, 0, none⟩)) (hg : w.heap[g]? = some (.cells cs t fr)) (hi : (Tryd.prog.info? 25).map (·.size) = some cs.size) :
    (results fn tmps).run Tryd.prog w = .ok (.tuple #[.agg cs, tmps.getD u undef, tmps.getD s undef]) w := by
  have hl := run_loadVar_row (P := Tryd.prog) w g t 25 cs fr _ hg undT rfl hi
  have hp' : tmps[p]?.getD undef = .pointer (some ⟨g, 0, none⟩) := by rw [← Array.getD_eq_getD_getElem?]; exact hp
  simp only [results, h]
  simp [Sem.run_bind, Result.andThen, hp', asAddr, hl]
def probe (r t : List UInt8) : T := ⟨r, t, false, List.replicate 32 0, [], 0, 0⟩
theorem nm_probe (r t : List UInt8) : nm (probe r t) = pair r t := rfl
section
variable {w : World} {b : Nat} {v : Value} {l : List T} {most : Int}
theorem len_any (h : Tb 62 w b v l most) : Calls Tryd.prog 21 #[.pointer (some ⟨b, 0, none⟩)] w fun e w' => e = .returned (.int .i64 (l.length : Int)) ∧ w' = w := by
  obtain ⟨A, cap, hv⟩ := h.row.slice
  subst hv
  have c0 := h.c.1
  clear h
  go_enter Tryd.func21, Tryd.ntmps21
  go_wp2_with fail
  go_ret
  exact ⟨rfl, rfl⟩
def ResC (w : World) (l : List T) (e : Ending) (w' : World) : Prop := ∃ v', e = .returned v' ∧ LT w.heap.size w' v' l ∧ Reg.Ext w w'
theorem clone_any (h : LT 0 w v l) (hf : Fit l) (hl : l.length ≤ 1000) : Calls Tryd.prog 37 #[v] w (ResC w l) := by
  have q22 : ∀ (w : World) (a : Option Addr) (n c n' c' : Nat), (binOp .eql 42 (.slice a n c) (.slice none n' c')).run Tryd.prog w = .ok (.bool a.isNone) w := fun w a n c n' c' => Lib.run_eql_slice_nil w _ _ a n c n' c' Tryd.underlying42
  rcases h.form with ⟨rfl, rfl⟩ | ⟨g, cap, rfl, _, hlt, _, _⟩
  · clear h
    go_enter Tryd.func37, Tryd.ntmps37
    go_wp2_with fail
    go_ret
    exact ⟨_, rfl, ⟨rfl, .inl ⟨rfl, rfl⟩⟩, Reg.Ext.refl _⟩
  · have HL := Lib.hid h
    have HF := Lib.hid hf
    obtain ⟨i, hi, hz, hsz, hby⟩ := tkInfo_of
    have HI := Lib.hid (And.intro hi (And.intro hz (And.intro hsz hby)))
    have HM : Hid ((w.alloc (.cells #[] 25)).ownsRow w.heap.size 25 38 (.slice (some ⟨w.heap.size, 0, none⟩) 0 0) 0 []) := Lib.hid (World.ownsRow_made w #[] 0 (Nat.le_refl _) (Nat.zero_le _) rfl)
    have HX := Lib.hid (Reg.Ext.alloc w (.cells #[] 25))
    clear h hf hi hz hsz hby
    go_enter Tryd.func37, Tryd.ntmps37
    go_wp2_with (refine Go.wpList_append_own_at _ rfl (.tmp 5) (.tmp 6) 42 rfl w.heap.size 25 i (.agg zT.cells.toArray) 38 104 Tryd.underlying42 HI.out.1 HI.out.2.1 HI.out.2.2.1 HI.out.2.2.2 rfl (by decide) (.slice (some ⟨w.heap.size, 0, none⟩) 0 0) 0 [] rfl HM.out ⟨g, 0, none⟩ l.length cap (flat l) rfl (Flt.len HF.out.len) (fun j u hj => HX.out.at_ (World.ownsRow.cells HL.out rfl j u hj)) (fun u hu => by obtain ⟨y, _, hu⟩ := List.mem_flatMap.1 hu; exact y.one u hu) (by unfold maxLen; omega) (by omega) (by simp) ?_; intro v2 w2 ho2 hg2 _ _; have HO2 := Lib.hid ho2; have HG2 := Lib.hid hg2; clear ho2 hg2)
    go_ret
    refine ⟨v2, rfl, ?_, Below.grown HX.out HG2.out HX.out.size fun k hk => ?_⟩
    · have h1 := HO2.out
      rw [Nat.zero_add, List.nil_append] at h1
      exact h1
    · have h1 : w.heap.size = k := by injection hk
      rw [h1]; exact Nat.le_refl _
theorem list_any (h : Tb 62 w b v l most) (hl : l.length ≤ 1000) : Calls Tryd.prog 23 #[.pointer (some ⟨b, 0, none⟩)] w (ResC w l) := by
  have HC := Lib.hid (clone_any h.row h.fit hl)
  obtain ⟨A, cap, hv⟩ := h.row.slice
  subst hv
  have c0 := h.c.1
  clear h
  go_enter Tryd.func23, Tryd.ntmps23
  go_wp2_with (go_at_call 37; refine (HC.out).mono ?_; rintro e w2 ⟨v2, rfl, h2, hx2⟩)
  go_ret
  exact ⟨v2, rfl, h2, hx2⟩
theorem new_any (most : Int) (h0 : 1 ≤ most) (h1 : most ≤ 64) (w : World) : Calls Tryd.prog 14 #[.int .i64 most] w fun e w' => ∃ b, e = .returned (.tuple #[.pointer (some ⟨b, 0, none⟩), .int .i64 0]) ∧ Tb 62 w' b (.slice none 0 0) [] most ∧ w.heap.size ≤ b ∧ Reg.Ext w w' := by
  have hw := fun w => within_any most 1 64 w
  have hi : inside most 1 64 = true := by unfold inside; rw [decide_eq_true h0, decide_eq_true h1]; rfl
  rw [hi] at hw
  have HW := Lib.hid hw
  have HN := Lib.hid (newT 62 most w)
  clear hw hi h0 h1
  go_enter Tryd.func14, Tryd.ntmps14
  go_wp2_with (go_at_call 26; refine (HW.out _).mono ?_; rintro e w2 ⟨rfl, rfl⟩)
  go_ret2
  exact ⟨_, rfl, HN.out, Nat.le_refl _, Reg.Ext.alloc _ _⟩
theorem new_bad (most : Int) (h0 : most < 1 ∨ 64 < most) (w : World) : Calls Tryd.prog 14 #[.int .i64 most] w fun e w' => e = .returned (.tuple #[.pointer none, .int .i64 1]) ∧ w' = w := by
  have hw := fun w => within_any most 1 64 w
  have hi : inside most 1 64 = false := by
    unfold inside
    rcases h0 with h | h
    · rw [decide_eq_false (show ¬ 1 ≤ most by omega)]; rfl
    · rw [decide_eq_false (show ¬ most ≤ 64 by omega), Bool.and_false]
  rw [hi] at hw
  have HW := Lib.hid hw
  clear hw hi h0
  go_enter Tryd.func14, Tryd.ntmps14
  go_wp2_with (go_at_call 26; refine (HW.out _).mono ?_; rintro e w2 ⟨rfl, rfl⟩)
  go_ret2
  exact ⟨rfl, rfl⟩
set_option maxRecDepth 100000 in
set_option maxHeartbeats 1000000 in
theorem get_any (h : Tb 62 w b v l most) (hu : Nmd.Up nm l) (hl : l.length ≤ 1000) (r t : List UInt8) : Calls Tryd.prog 17 #[.pointer (some ⟨b, 0, none⟩), .string ⟨r.toArray⟩, .string ⟨t.toArray⟩] w fun e w' => e = .returned (.tuple #[.agg ((Nmd.get nm (pair r t) l).getD zT).cells.toArray, .bool (Nmd.get nm (pair r t) l).isSome]) ∧ Reg.Ext w w' := by
  have hb0 := boxT w zT
  have hx0 := Reg.Ext.alloc w (Obj.cells zT.cells.toArray 25)
  have HT := Lib.hid (h.ext hx0)
  have HU := Lib.hid hu
  clear h hu
  go_enter Tryd.func17, Tryd.ntmps17
  go_upto_region 1 with (fail)
  rw [z38]
  generalize w.alloc (Obj.cells zT.cells.toArray 25) = w1 at *
  generalize hg6 : w.heap.size = g6 at *
  have HG6 := Lib.hid hg6
  have HB := Lib.hid hb0
  have HX := Lib.hid hx0
  clear hb0 hx0 hg6
  have HFI := Lib.hid (find_any HT.out HU.out (probe r t) rfl hl)
  rw [nm_probe] at HFI
  go_upto_region 3 with (fail)
  refine wp_region_lit ?_
  iterate 9 go_step
  refine wpList_val rfl (.agg (probe r t).cells.toArray) (by as_aux_lemma => kernel_rfl) ?_
  simp only [Act.put, Act.eval, List.setIfInBounds_toArray, List.set_cons_zero, List.set_cons_succ, Nat.reduceAdd, Array.getD_eq_getD_getElem?, List.getElem?_toArray, List.getElem?_cons_succ, List.getElem?_cons_zero, Option.getD_some]
  repeat go_step
  refine (HFI.out).mono ?_
  rintro e w2 ⟨rfl, hx2⟩
  rename_i hK
  refine hK _ _ ?_
  clear hK
  have HT2 := Lib.hid (HT.out.ext hx2)
  have HX2 := Lib.hid (HX.out.trans hx2)
  have HB2 := Lib.hid (HB.out.ext hx2)
  clear hx2 HT HX HB HFI
  cases hg : Nmd.get nm (pair r t) l with
  | none =>
    have HG := Lib.hid hg
    clear hg
    dsimp only [Option.isSome]
    go_upto_region 5 with (fail)
    refine wp_region_lit ?_
    refine wpList_val rfl (.agg zT.cells.toArray) (by as_aux_lemma => kernel_rfl) ?_
    simp only [Act.put, Act.eval, List.setIfInBounds_toArray, List.set_cons_zero, List.set_cons_succ, Nat.reduceAdd, Array.getD_eq_getD_getElem?, List.getElem?_toArray, List.getElem?_cons_succ, List.getElem?_cons_zero, Option.getD_some]
    refine wpList_store_mid rfl 25 _ _ rfl g6 0 (zT).cells.toArray rfl ?_ ((HB2.out).there _ (by have e1 := (zT).len rfl; have e2 := (zT).len rfl; rw [List.size_toArray]; omega)) (by rw [List.size_toArray, (zT).len rfl]; exact sizeT) (all_oneCell_toArray (T.one _)) ?_
    · rfl
    simp only [List.toList_toArray]
    simp only [Act.put, Act.eval, List.setIfInBounds_toArray, List.set_cons_zero, List.set_cons_succ, Nat.reduceAdd, Array.getD_eq_getD_getElem?, List.getElem?_toArray, List.getElem?_cons_succ, List.getElem?_cons_zero, Option.getD_some]
    have HB3 := Lib.hid (HB2.out.setAll zT.cells rfl)
    have HX3 := Lib.hid (HX2.out.trans_but (But.setCells g6 zT.cells 0 w2) (by rw [HG6.out]; exact Nat.le_refl _))
    generalize w2.setCells g6 0 zT.cells = w3 at *
    go_wp2_with fail
    refine bodyPost_ret (results_tk rfl _ _ g6 25 zT.cells.toArray (0, 0) rfl HB3.out (by exact sizeT)) rfl ⟨?_, HX3.out⟩
    rw [HG.out]
    rfl
  | some y =>
    obtain ⟨hlt, hy, _⟩ := Nmd.at_lo HU.out hg
    have HG := Lib.hid hg
    have HYD : Hid (y.dig.length = 32) := Lib.hid (HT2.out.fit y (Nmd.get_mem hg).1)
    rcases HT2.out.row.form with ⟨_, h2⟩ | ⟨g, cap, h2, _, _, _, _⟩
    · rw [h2] at hlt; exact absurd hlt (Nat.not_lt_zero _)
    subst h2
    have hrg := HT2.out.row.range HT2.out.fit _ hlt
    rw [hy] at hrg
    have HRG := Lib.hid hrg
    have c0 := HT2.out.c.1
    clear hg hy hrg
    generalize Nmd.lo nm (pair r t) l = lo at *
    dsimp only [Option.isSome]
    go_upto_region 6 with (fail)
    refine wp_region_lit ?_
    iterate 18 go_step
    refine wpList_ldm rfl 25 (.tmp 29) rfl g (lo * 38) rfl y.cells _ HRG undT (by rw [y.len HYD.out]; exact sizeT) ?_
    simp only [Act.put, Act.eval, List.setIfInBounds_toArray, List.set_cons_zero, List.set_cons_succ, Nat.reduceAdd, Array.getD_eq_getD_getElem?, List.getElem?_toArray, List.getElem?_cons_succ, List.getElem?_cons_zero, Option.getD_some]
    refine wpList_store_mid rfl 25 _ _ rfl g6 0 (y).cells.toArray rfl ?_ ((HB2.out).there _ (by have e1 := (y).len HYD.out; have e2 := (zT).len rfl; rw [List.size_toArray]; omega)) (by rw [List.size_toArray, (y).len HYD.out]; exact sizeT) (all_oneCell_toArray (T.one _)) ?_
    · rfl
    simp only [List.toList_toArray]
    simp only [Act.put, Act.eval, List.setIfInBounds_toArray, List.set_cons_zero, List.set_cons_succ, Nat.reduceAdd, Array.getD_eq_getD_getElem?, List.getElem?_toArray, List.getElem?_cons_succ, List.getElem?_cons_zero, Option.getD_some]
    have HB3 := Lib.hid (HB2.out.setAll y.cells (by rw [y.len HYD.out]; rfl))
    have HX3 := Lib.hid (HX2.out.trans_but (But.setCells g6 y.cells 0 w2) (by rw [HG6.out]; exact Nat.le_refl _))
    generalize w2.setCells g6 0 y.cells = w3 at *
    go_wp2_with fail
    refine bodyPost_ret (results_tk rfl _ _ g6 25 y.cells.toArray (0, 0) rfl HB3.out (by rw [List.size_toArray, y.len HYD.out]; exact sizeT)) rfl ⟨?_, HX3.out⟩
    rw [HG.out]
    rfl
end
end Tk
end Go.Proofs.YtcfdlfedmbmidaaDoor

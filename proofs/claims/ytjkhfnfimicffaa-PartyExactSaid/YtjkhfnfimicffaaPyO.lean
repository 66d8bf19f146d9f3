/- Flights: Key of a flight; what a law asks at its round's end. -/
import Derived.Test.YtjkhfnfimicffaaPyN
set_option linter.unusedSimpArgs false
set_option linter.unusedVariables false
set_option linter.unusedSectionVars false
namespace Go.Proofs.Ytjkhfnfimicffaa
open Go Go.RowKit Go.Proofs Go.Sort Go.Lib Go.Shelf
namespace Py
theorem results_key {fn : Func} {p u : Tmp} (h : fn.results = #[.cell p 33, .tmp u]) (tmps : Array Value) (w : World) (g : Nat) (t : TypeId) (cs : Array Value) (fr : Nat × Nat)
    (hp : tmps.getD p undef = .pointer (some ⟨g, 0, none⟩)) (hg : w.heap[g]? = some (.cells cs t fr)) (hi : (Try.prog.info? 33).map (·.size) = some cs.size) :
    (results fn tmps).run Try.prog w = .ok (.tuple #[.agg cs, tmps.getD u undef]) w := by
  rw [results_cell_tmp h, hp]
  simp [asAddr, run_loadVar_row w g t 33 cs fr _ hg undK rfl hi]
set_option maxRecDepth 100000 in
theorem key_at {w : World} {h : Hd} {es : List E} {p : P} {n : Nat} (P : Pn w h es p n) {e : E} (he : e ∈ es) (hn : n < 1000000) : Calls Try.prog 23 #[.pointer (some ⟨h.d, 0, none⟩), .int .i64 e.f.id] w fun e1 w' => e1 = .returned (.tuple #[.agg e.f.key.cells.toArray, .bool true]) ∧ Reg.Ext w w' := by
  have hm := P.mem he
  have hwf : wfI e.f.id := by
    have h1 := P.good.le e.f hm
    have h2 := P.last
    exact wfI_of (by omega) (by omega)
  have HEK := Lib.hid (P.fine e.f hm).dig
  have hb0 := boxK w zK
  have hx0 := Reg.Ext.alloc w (Obj.cells zK.cells.toArray 33)
  have HP := Lib.hid (P.ext hx0)
  have hl := HP.out.pt.lookF e.f.id hwf
  rw [get_of P.pt.up he] at hl
  unfold ptrV at hl
  obtain ⟨c0, c1, c2, c3, c4⟩ := HP.out.pt.c
  have HF := Lib.hid (rng_left (blk_rng (HP.out.pt.file e he)))
  clear P hm hwf he hn
  go_enter Try.func23, Try.ntmps23
  go_upto_region 1 with (fail)
  rw [z36]
  generalize w.alloc (Obj.cells zK.cells.toArray 33) = w1 at *
  generalize hg : w.heap.size = g at *
  go_upto_region 3 with (fail)
  refine wp_region_lit ?_
  iterate 24 go_step
  refine wpList_ldm rfl 33 (.tmp 25) rfl e.g 0 rfl e.f.key.cells _ HF undK (by rw [e.f.key.len HEK.out]; exact sizeK) ?_
  simp only [Act.put, Act.eval, List.setIfInBounds_toArray, List.set_cons_zero, List.set_cons_succ, Nat.reduceAdd, Array.getD_eq_getD_getElem?, List.getElem?_toArray, List.getElem?_cons_succ, List.getElem?_cons_zero, Option.getD_some]
  refine wpList_store_mid rfl 33 _ _ rfl g 0 (e.f.key.cells).toArray rfl ?_ (hb0.there _ (by rw [List.size_toArray, e.f.key.len HEK.out]; exact Nat.le_refl _)) (by rw [List.size_toArray, e.f.key.len HEK.out]; exact sizeK) (all_oneCell_toArray (Ky.one _)) ?_
  · rfl
  simp only [List.toList_toArray]
  simp only [Act.put, Act.eval, List.setIfInBounds_toArray, List.set_cons_zero, List.set_cons_succ, Nat.reduceAdd, Array.getD_eq_getD_getElem?, List.getElem?_toArray, List.getElem?_cons_succ, List.getElem?_cons_zero, Option.getD_some]
  have hbx := But.setCells g e.f.key.cells 0 w1
  have H8 := Lib.hid (hb0.setAll e.f.key.cells (e.f.key.len HEK.out))
  have HX := Lib.hid (hx0.trans_but hbx (by omega))
  clear hb0 hbx hx0 HP HF hl c0 c1 c2 c3 c4
  generalize w1.setCells g 0 e.f.key.cells = w2 at *
  go_wp2_with fail
  exact bodyPost_ret (results_key rfl _ _ g 33 (e.f.key.cells).toArray (0, 0) rfl H8.out (by rw [List.size_toArray, e.f.key.len HEK.out]; exact sizeK)) rfl ⟨rfl, HX.out⟩
end Py
end Go.Proofs.Ytjkhfnfimicffaa

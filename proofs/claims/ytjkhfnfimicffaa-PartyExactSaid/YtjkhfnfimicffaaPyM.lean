/- Flights: the keys of the map, appended one by one (slices.AppendSeq over numbers). -/
import Derived.Test.YtjkhfnfimicffaaPyL
import Derived.Test.YtjkhfnfimicffaaRf
set_option linter.unusedSimpArgs false
set_option linter.unusedVariables false
set_option linter.unusedSectionVars false
namespace Go.Proofs.Ytjkhfnfimicffaa
open Go Go.RowKit Go.Proofs Go.Sort Go.Lib Go.Shelf
attribute [local go_sem] Oper.semAt_some
namespace Py
open Rf
/-- between two rounds: the box B holds what has come; the loop's record and the list of deferred calls lie behind it -/
structure Ap (w : World) (rec : LoopState → Option Code → Obj) (ss : List Int) (W : World) : Prop where
  box : ∃ v, Blk W w.heap.size 22 [v] ∧ RowI w.heap.size W v ss
  col : W.heap[w.heap.size + 1]? = some (.deferred (some []))
  lp : W.heap[w.heap.size + 2]? = some (rec .ready none)
  ext : Reg.Ext w W
theorem RowI.cells {B : Nat} {w : World} {v : Value} {l : List Int} (h : RowI B w v l) {g : Nat} (hg : v.ownBlock = some g) : ∃ cur, w.heap[g]? = some (.cells cur 3 (0, 0)) := by
  rcases h.2 with ⟨e, _⟩ | ⟨g', cap, cur, e, _, hc, _⟩
  · rw [e] at hg; cases hg
  · rw [e] at hg
    have : g' = g := by injection hg
    subst this
    exact ⟨cur, hc⟩
theorem RowI.far {B : Nat} {w : World} {v : Value} {l : List Int} (h : RowI B w v l) {j : Nat} {o : Obj} (hj : w.heap[j]? = some o) (ho : ∀ cur, o ≠ .cells cur 3 (0, 0)) : v.ownBlock ≠ some j := fun e => by
  obtain ⟨cur, hc⟩ := h.cells e
  rw [hj] at hc
  injection hc with hc
  exact ho cur hc
theorem Ap.abides (w : World) (rec : LoopState → Option Code → Obj) (hrw : (rec .ready none).isWalk = false) (B : Nat) (hB : w.heap.size ≤ B) : AbidesFrom B (Ap w rec) := fun s W W' row h hg hrow => by
  have hw : ∀ r, row = some r → ∃ o : Obj, W.heap[r]? = some o ∧ o.isWalk = true := fun r e => (hrow r e).2
  obtain ⟨v, hv, hr⟩ := h.box
  refine ⟨⟨v, (grownBy_keeps hg hw hv rfl).trans hv, hr.same fun g hgv => ?_⟩, (grownBy_keeps hg hw h.col rfl).trans h.col, (grownBy_keeps hg hw h.lp hrw).trans h.lp, ?_⟩
  · obtain ⟨cur, hc⟩ := hr.cells hgv
    exact grownBy_keeps hg hw hc rfl
  · refine ⟨hg.os.trans h.ext.os, hg.tape.trans h.ext.tape, hg.output.trans h.ext.output, Nat.le_trans h.ext.size hg.size, fun i hi => ?_⟩
    refine (hg.block i (Nat.lt_of_lt_of_le hi h.ext.size) fun e => ?_).trans (h.ext.block i hi)
    have := (hrow i e.symm).1
    omega
set_option maxRecDepth 100000 in
set_option maxHeartbeats 4000000 in
theorem append_seq (w : World) (g : Nat) (lb : Array Value) (hF : Fence.wide.fn g) (eg : ∀ args w, (callFunc g args).run Try.prog w = .ok (.enter g args) w) (N : Nat) (hN : N ≤ 1000000) (S : List Int → Prop)
    (hseq : ∀ (l : Nat) (J : List Int → World → Prop) (W : World), Reg.Ext w W → AbidesFrom W.heap.size J →
      (∀ pre x W, J pre W → pre.length < N → YieldAt Fence.wide 3 Try.prog l #[.int .i64 x] W fun e W' => e = .returned (.bool true) ∧ J (pre ++ [x]) W' ∧ KeepsWalks W W') → J [] W →
      CallsIn Fence.wide 4 Try.prog g (#[.func (.yield l) #[] #[]] ++ lb) W fun e W' => (∃ v, e = .returned v) ∧ ∃ ss, S ss ∧ J ss W') :
    CallsIn Fence.wide 5 Try.prog 38 #[.slice none 0 0, .func (.func g) #[] lb] w fun e w' => ∃ v ss, e = .returned v ∧ S ss ∧ RowI w.heap.size w' v ss ∧ Reg.Ext w w' := by
  refine callsIn_of_wp_marks Try.func38 rfl trivial ?_ rfl
  simp only [Try.ntmps38, List.size_toArray, List.length_cons, List.length_nil, Nat.reduceAdd, Nat.reduceSub, Array.replicate_succ, Array.replicate_zero, List.push_toArray, List.append_toArray, List.nil_append, List.cons_append]
  gi_wp2
  have hsz : (w.alloc (Obj.cells #[Value.slice none 0 0] 22)).heap.size = w.heap.size + 1 := Array.size_push _
  have b0 := Blk.new w 22 #[.slice none 0 0]
  have x0 := Reg.Ext.alloc w (Obj.cells #[Value.slice none 0 0] 22)
  generalize w.alloc (Obj.cells #[Value.slice none 0 0] 22) = u0 at *
  refine rf_stmt (gf := g) (lb := lb) rfl eg ?_
  intro fn rec hrec
  rw [hsz]
  have x4 := Reg.Ext.alloc u0 (Obj.deferred (some []))
  have k4 := alloc_at' u0 (Obj.deferred (some [])) _ hsz
  have s4 : (u0.alloc (Obj.deferred (some []))).heap.size = w.heap.size + 2 := by rw [show (u0.alloc (Obj.deferred (some []))).heap.size = u0.heap.size + 1 from Array.size_push _, hsz]
  generalize u0.alloc (Obj.deferred (some [])) = u4 at *
  have x5 := Reg.Ext.alloc u4 (rec .ready none)
  have k5 := alloc_at' u4 (rec .ready none) _ s4
  generalize u4.alloc (rec .ready none) = u5 at *
  have hSt : Ap w rec [] u5 := ⟨⟨_, b0.ext (x4.trans x5), ⟨rfl, .inl ⟨rfl, rfl⟩⟩⟩, (x5.block _ (lt_of k4)).trans k4, k5, (x0.trans x4).trans x5⟩
  have hrw : ∀ st pe, (rec st pe).isWalk = false := fun st pe => by rw [hrec]; rfl
  have hrl : ∀ st pe cur, rec st pe ≠ .cells cur 3 (0, 0) := fun st pe cur e => by rw [hrec] at e; cases e
  have HRW := Lib.hid hrw
  have HRL := Lib.hid hrl
  have HST := Lib.hid hSt
  clear hSt x0 x4 x5 b0 k4 k5 s4 hsz hrw hrl
  have hround : ∀ pre x W, Ap w rec pre W → pre.length < N → YieldAt Fence.wide 3 Try.prog (w.heap.size + 2) #[.int .i64 x] W fun e W' => e = .returned (.bool true) ∧ Ap w rec (pre ++ [x]) W' ∧ KeepsWalks W W' := by
    intro pre x W h hlen
    obtain ⟨i0, hi, hz0, hz1, hz2⟩ := intInfo_of
    refine rf_round hrec (a1 := { tmps := #[.slice none 0 0, .func (.func g) #[] lb, .pointer (some ⟨w.heap.size, 0, none⟩), undef, .slice none 0 0, .int .i64 x, .func (.func g) #[] lb, .int .i64 x, undef, undef, undef, undef, undef], defers := [] }) h.lp ?_ ?_
    · intro K hK
      gi_wp2
      exact hK
    · obtain ⟨v, hv, hr⟩ := h.box
      have hb := put_but W (w.heap.size + 2) (rec .busy none)
      have hkw : KeepsWalks W (W.putObj (w.heap.size + 2) (rec .busy none)) := KeepsWalks.putObj _ h.lp (HRW.out _ _)
      have hl2 := World.putObj_heap_same (o := rec .busy none) (lt_of h.lp)
      have hv2 := hv.but hb (by omega)
      have hr2 := hr.same fun q hq => hb.block q (Go.Proofs.Ytjkhfnfimicffaa.own_lt hr hq) fun e => hr.far h.lp (fun cur => HRL.out _ _ cur) (by rw [hq, ← e])
      have hcol := (hb.block _ (lt_of h.col) (by intro e; injection e; omega)).trans h.col
      have hext := h.ext.trans_but hb (by omega)
      generalize W.putObj (w.heap.size + 2) (rec .busy none) = W2 at *
      have c2 := hv2.cell 0
      have H1 := Lib.hid hv2
      have H2 := Lib.hid hr2
      have H3 := Lib.hid hcol
      have H4 := Lib.hid hl2
      have H5 := Lib.hid hext
      have H6 := Lib.hid hkw
      clear hv2 hr2 hcol hl2 hext hkw hb hv hr h hrec HST
      gi_wp2_with (gi_at_builtin; refine wpListIn_append_own _ rfl _ _ 22 rfl w.heap.size 3 i0 (.int .i64 0) 1 8 Try.underlying22 hi hz0 hz1 hz2 rfl (by decide) v pre.length (pre.map (Value.int .i64)) rfl (own_ext H2.out (Reg.Ext.alloc _ _)) ⟨W2.heap.size, 0, none⟩ 1 1 [.int .i64 x] rfl rfl (cell_one_new _ _ _) (by simp [Value.oneCell']) (by unfold maxLen; omega) (by omega) (Nat.le_trans H5.out.size (Reg.Ext.alloc _ _).size) ?_; intro v' w3 hown' hg3 hnil3; have hx3 := Reg.Ext.alloc W2 (Obj.cells #[.int .i64 x] 3); have hfar : ∀ {j : Nat} {o : Obj}, W2.heap[j]? = some o → (∀ cur, o ≠ .cells cur 3 (0, 0)) → w3.heap[j]? = some o := (fun hj ho => ((hg3.block _ (Nat.lt_of_lt_of_le (lt_of hj) hx3.size) fun e => H2.out.far hj ho e.symm).trans (hx3.block _ (lt_of hj))).trans hj); have hb3 : Blk w3 w.heap.size 22 [v] := hfar H1.out (fun cur e => by cases e); have c3 := hb3.cell 0; have f3 := hb3.frozen 0; obtain ⟨vA, vc, rfl, -, -⟩ := own_rd hown'; have K1 := Lib.hid hb3; have K2 := Lib.hid hown'; have K3 := Lib.hid (hfar H3.out (fun cur e => by cases e)); have K4 := Lib.hid (hfar H4.out (fun cur => HRL.out _ _ cur)); have K5 := Lib.hid hg3; clear hown' hg3 hnil3 hx3 hfar hb3)
      have hr3 : RowI w.heap.size w3 (.slice vA (pre.length + 1) vc) (pre ++ [x]) := by
        unfold RowI
        rw [List.length_append, List.map_append]
        exact K2.out
      have hx3 : Reg.Ext w w3 := by
        have hg := K5.out
        have hx := H5.out.trans (Reg.Ext.alloc W2 (Obj.cells #[.int .i64 x] 3))
        refine ⟨hg.os.trans hx.os, hg.tape.trans hx.tape, hg.output.trans hx.output, Nat.le_trans hx.size hg.size, fun i hi => (hg.block i (Nat.lt_of_lt_of_le hi hx.size) fun e => ?_).trans (hx.block i hi)⟩
        have := (H2.out.lt i e.symm).1
        omega
      have hk3 : KeepsWalks W w3 := (H6.out.trans (KeepsWalks.alloc _ _)).trans (KeepsWalks.of_grownBy K5.out fun j o hj ho => by
        obtain ⟨cur, hc⟩ := RowI.cells (RowI.ext H2.out (Reg.Ext.alloc _ _)) hj
        rw [hc] at ho
        injection ho with ho
        rw [← ho]; rfl)
      have hs4 := But.set_ w.heap.size w3 0 (.slice vA (pre.length + 1) vc)
      have k1 := K1.out.set_ 0 (.slice vA (pre.length + 1) vc)
      have k2 := hr3.same fun q hq => hs4.block q (Go.Proofs.Ytjkhfnfimicffaa.own_lt hr3 hq) fun e => hr3.far K1.out (fun cur e => by cases e) (by rw [hq, ← e])
      have k3 := (hs4.block _ (lt_of K3.out) (by intro e; injection e; omega)).trans K3.out
      have k4 := (hs4.block _ (lt_of K4.out) (by intro e; injection e; omega)).trans K4.out
      have k5 := hx3.trans_but hs4 (by omega)
      have k6 := hk3.trans (KeepsWalks.setCell w3 ⟨w.heap.size, 0, none⟩ (.slice vA (pre.length + 1) vc))
      have hb5 := put_but (w3.setCell ⟨w.heap.size, 0, none⟩ (.slice vA (pre.length + 1) vc)) (w.heap.size + 2) (rec .ready none)
      exact ⟨k4, rfl, ⟨⟨_, k1.but hb5 (by omega), k2.same fun q hq => hb5.block q (Go.Proofs.Ytjkhfnfimicffaa.own_lt k2 hq) fun e => k2.far k4 (fun cur => HRL.out _ _ cur) (by rw [hq, ← e])⟩, (hb5.block _ (lt_of k3) (by intro e; injection e; omega)).trans k3, World.putObj_heap_same (lt_of k4), k5.trans_but hb5 (by omega)⟩, k6.trans (KeepsWalks.putObj _ k4 (HRW.out _ _))⟩
  refine (hseq (w.heap.size + 2) (Ap w rec) u5 HST.out.ext (Ap.abides w rec (HRW.out _ _) _ HST.out.ext.size) hround HST.out).mono ?_
  rintro e W' ⟨⟨v0, rfl⟩, ss, hS, h⟩
  obtain ⟨v, hv, hr⟩ := h.box
  have hb := put_but W' (w.heap.size + 2) (rec .exhausted none)
  have k1 := hv.but hb (by omega)
  have k2 := hr.same fun q hq => hb.block q (Go.Proofs.Ytjkhfnfimicffaa.own_lt hr hq) fun e => hr.far h.lp (fun cur => HRL.out _ _ cur) (by rw [hq, ← e])
  have k3 := (hb.block _ (lt_of h.col) (by intro e; injection e; omega)).trans h.col
  have k5 := h.ext.trans_but hb (by omega)
  refine ⟨none, _, rf_end hrec h.lp (by decide), ?_⟩
  generalize W'.putObj (w.heap.size + 2) (rec .exhausted none) = W4 at *
  have c4 := k1.cell 0
  have K2 := Lib.hid k2
  have K3 := Lib.hid k3
  have K5 := Lib.hid k5
  clear hround hrec HST hv hr hb k1 k2 k3 k5 h hseq
  gi_wp2
  refine ⟨by simp, .inl ⟨_, _, rfl, run_takeDeferred K3.out, ?_⟩⟩
  have hb5 := put_but W4 (w.heap.size + 1) (.deferred none)
  exact ⟨_, results_tmp rfl _ _ _, v, ss, rfl, hS, K2.out.same fun q hq => hb5.block q (Go.Proofs.Ytjkhfnfimicffaa.own_lt K2.out hq) fun e => K2.out.far K3.out (fun cur e => by cases e) (by rw [hq, ← e]), K5.out.trans_but hb5 (by omega)⟩
end Py
end Go.Proofs.Ytjkhfnfimicffaa

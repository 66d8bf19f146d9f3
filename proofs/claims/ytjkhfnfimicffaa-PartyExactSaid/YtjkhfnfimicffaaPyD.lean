/- Flights: look-ups; begin, over. -/
import Derived.Test.YtjkhfnfimicffaaKyS
import Derived.Test.YtjkhfnfimicffaaPyC
import Derived.Test.YtjkhfnfimicffaaRowN
import Derived.BigQuiet
import Derived.BigRegion
import Derived.Deep.Cut
import Derived.Deep.CutBlock
import Derived.Lib.Hide
set_option linter.unusedSimpArgs false
set_option linter.unusedVariables false
set_option linter.unusedSectionVars false
namespace Go.Proofs.Ytjkhfnfimicffaa
open Go Go.RowKit
namespace Py
def wfI (x : Int) : Prop := (Lit.int .i64 x).wf = true
theorem wfI_of {x : Int} (h0 : -9223372036854775808 ≤ x) (h1 : x ≤ 9223372036854775807) : wfI x := by
  unfold wfI
  simp only [Lit.wf, Bool.and_eq_true, decide_eq_true_eq]
  exact ⟨h0, h1⟩
section
variable {w w' : World} {h : Hd} {es : List E} {kf : Ky → Option Int} {wf : Int → Option Int} {most last : Int} {n : Nat}
set_option maxRecDepth 100000 in
theorem look_int {k b m : Nat} {T : TypeId} {K : Maps.Keyed Try.prog k} (hT : Try.prog.underlying T = some (.map k 3)) {D : DataW Unit} (ho : w.ownsMap Try.prog k (plainElem Try.prog 3) b m D) {x : Value} {l : Lit} (hk : keyOf Try.prog k x = some l)
    {f : Option Int} (hD : D.atKey l zeroI = .lit (.int .i64 (f.getD 0)) ∧ Maps.has D l = f.isSome) : (Instr.lookup T (.map (some b)) x true).run Try.prog w = .ok (.tuple #[.int .i64 (f.getD 0), .bool f.isSome]) w := by
  obtain ⟨v, ps, hr, hv⟩ := ho.look_ok K hT (Try.zeroValue3 w) (plainElem_int Try.underlying3 (by decide)) hk
  rw [hD.2] at hr
  obtain ⟨c, rfl, hc, _⟩ := plainElem_int_inv Try.underlying3 hv
  have hc := congrArg Prod.fst hc
  have h1 := hD.1
  unfold zeroI at h1
  rw [h1] at hc
  have hc : f.getD 0 = c := by injection hc with hc; injection hc with _ hc
  rw [hc]
  exact hr
theorem Pt.lookW (P : Pt w h es kf wf most last n) (x : Int) (hx : wfI x) : (Instr.lookup 61 (.map (some h.wm)) (.int .i64 x) true).run Try.prog w = .ok (.tuple #[.int .i64 ((wf x).getD 0), .bool (wf x).isSome]) w := by
  obtain ⟨D, ho, hD⟩ := P.mw
  exact look_int (K := kun) Try.underlying61 ho (keyI x hx) (hD x)
theorem Pt.lookK (P : Pt w h es kf wf most last n) (k : Ky) (hk : k.Fine) : (Instr.lookup 60 (.map (some h.km)) (.agg k.cells.toArray) true).run Try.prog w = .ok (.tuple #[.int .i64 ((kf k).getD 0), .bool (kf k).isSome]) w := by
  obtain ⟨D, ho, hD⟩ := P.mK
  obtain ⟨l, hl⟩ := k.ok hk
  exact look_int (K := laidK) Try.underlying60 ho hl (hD k l hk.dig hl)
theorem look_fl {m : Nat} {D : DataW Unit} (hm : FOwn w h m D) (hD : MapF D es) (i : Int) (hi : wfI i) : (Instr.lookup 59 (.map (some h.fm)) (.int .i64 i) false).run Try.prog w = .ok (ptrV (get i es)) w := by
  obtain ⟨v, ps, hr, hv⟩ := hm.lookup kun Try.underlying59 (Try.zeroValue66 w) (zd := zeroI) (zp := []) rfl (keyI i hi)
  rw [(hD.2 i).1] at hv
  rw [ptrR_of hv] at hr
  exact hr
theorem Pt.lookF (P : Pt w h es kf wf most last n) (i : Int) (hi : wfI i) : (Instr.lookup 59 (.map (some h.fm)) (.int .i64 i) false).run Try.prog w = .ok (ptrV (get i es)) w := by
  obtain ⟨D, hm, hD⟩ := P.mf
  exact look_fl hm hD i hi
theorem Pt.c (P : Pt w h es kf wf most last n) : w.cell? ⟨h.d, 0, none⟩ = some (.map (some h.fm)) ∧ w.cell? ⟨h.d, 1, none⟩ = some (.map (some h.km)) ∧ w.cell? ⟨h.d, 2, none⟩ = some (.map (some h.wm)) ∧ w.cell? ⟨h.d, 3, none⟩ = some (.int .i64 most) ∧ w.cell? ⟨h.d, 4, none⟩ = some (.int .i64 last) :=
  ⟨P.blk.cell 0, P.blk.cell 1, P.blk.cell 2, P.blk.cell 3, P.blk.cell 4⟩
theorem exec_len {ρ : Operand → Value} {o : Oper} (m : Operand) (ho : o.op = .call { callee := .builtin .len, args := #[m], argTypes := #[59] }) (P : Pt w h es kf wf most last n) (hm : ρ m = .map (some h.fm)) :
    (execOp ρ o).run Try.prog w = .ok (.value (.int .i64 (es.length : Int))) w := by
  obtain ⟨D, ho', hD⟩ := P.mf
  have := ho'.len Try.underlying59 o.type
  rw [hD.1] at this
  simp [execOp, ho, resolve, invoke, builtin, hm, this, Result.andThen]
/-- a call that leaves the flights turned -/
def ResT (h : Hd) (w : World) (es : List E) (v : Value) (kf : Ky → Option Int) (wf : Int → Option Int) (most last : Int) (n : Nat) (es' : List E → Prop) (e : Ending) (w' : World) : Prop :=
  e = .returned v ∧ ∃ es1, es' es1 ∧ Pt w' h es1 kf wf most last n ∧ Turn h w es w' es1
end
theorem boxK (w : World) (k : Ky) : Blk (w.alloc (Obj.cells k.cells.toArray 33)) w.heap.size 33 k.cells := by
  have := Blk.new w 33 k.cells.toArray
  simpa using this
/-- zeros of a flight -/
def zK : Ky := ⟨0, [], [], List.replicate 32 0, false⟩
theorem built_fl (parts : List (Nat × Value)) : Try.prog.built 68 parts = Instr.fill ((#[(0, 36), (36, 1)] : Array (Nat × Nat))[·]?) (zK.cells ++ [Value.slice none 0 0]).toArray parts := by kernel_rfl
theorem fill_k (c : Array Value) (hc : c.size = 36) (z : List Value) (hz : z.length = 37) : Instr.fill ((#[(0, 36), (36, 1)] : Array (Nat × Nat))[·]?) z.toArray [(0, .agg c)] = some (c.toList ++ z.drop 36).toArray := by
  have hv : (Value.agg c).cells = c := rfl
  have a := fold_at 0 c.toList [] z 0 rfl (by simp; omega)
  have e : ((#[(0, 36), (36, 1)] : Array (Nat × Nat))[0]?) = some (0, 36) := rfl
  unfold Instr.fill
  simp only [hv, e]
  rw [if_neg (by simp [hc]; omega)]
  unfold Instr.fill
  rw [← Array.foldl_toList, Array.toList_zipIdx]
  simp only [List.nil_append] at a ⊢
  rw [a, Array.length_toList, hc]
theorem build_fl (k : Ky) (hk : k.dig.length = 32) (w : World) : (Instr.build 68 #[(0, .agg k.cells.toArray)]).run Try.prog w = .ok (.agg (k.cells ++ [Value.slice none 0 0]).toArray) w := by
  refine run_build w _ _ _ ?_
  rw [built_fl]
  have hl : zK.cells.length = 36 := rfl
  refine (fill_k k.cells.toArray (by rw [List.size_toArray, k.len hk]) (zK.cells ++ [Value.slice none 0 0]) rfl).trans ?_
  rw [List.drop_append_of_le_length (by rw [hl]; exact Nat.le_refl _), List.drop_of_length_le (by rw [hl]; exact Nat.le_refl _)]
  simp
theorem exec_fl {ρ : Operand → Value} {o : Oper} (x : Operand) (ho : o.op = .build 68 #[(0, x)]) (k : Ky) (hk : k.dig.length = 32) (hx : ρ x = .agg k.cells.toArray) (w : World) :
    (execOp ρ o).run Try.prog w = .ok (.value (.agg (k.cells ++ [Value.slice none 0 0]).toArray)) w := by
  unfold execOp
  simp only [ho, List.map_toArray, List.map_cons, List.map_nil, hx, Sem.run_bind, build_fl k hk, Result.andThen_ok, Sem.run_pure]
theorem ptrR_at (g : Nat) : ptrR (.pointer (some ⟨g, 0, none⟩)) = some (.lit (.int .i64 ((g : Int) + 1)), []) := rfl
/-- what begin leaves -/
def BegR (w : World) (h : Hd) (es : List E) (kf : Ky → Option Int) (wf : Int → Option Int) (most last : Int) (n : Nat) (k : Ky) (e : Ending) (w' : World) : Prop :=
      ((es.length : Int) ≥ most ∧ e = .returned (.tuple #[.int .i64 0, .int .i64 6]) ∧ Reg.Ext w w') ∨
      (¬ (es.length : Int) ≥ most ∧ e = .returned (.tuple #[.int .i64 (last + 1), .int .i64 0]) ∧ ∃ g, w.heap.size ≤ g ∧ Pt w' h (es ++ [⟨⟨last + 1, k, []⟩, g, .slice none 0 0⟩]) (fun c => if c = k then some (last + 1) else kf c) wf most (last + 1) (n + 2) ∧ Turn h w es w' (es ++ [⟨⟨last + 1, k, []⟩, g, .slice none 0 0⟩]))
set_option maxHeartbeats 1000000 in
/-- a flight begins, or there are too many -/
theorem begin_any {w : World} {h : Hd} {es : List E} {kf : Ky → Option Int} {wf : Int → Option Int} {most last : Int} {n : Nat} (P : Pt w h es kf wf most last n) (k : Ky) (hk : k.Fine) (hl : 0 ≤ last ∧ last ≤ 1000000) (hlast : ∀ e ∈ es, e.f.id ≤ last) (hn : n + 3 < maxLen) (he : es.length ≤ 1000000) :
    Calls Try.prog 24 #[.pointer (some ⟨h.d, 0, none⟩), .agg k.cells.toArray] w (BegR w h es kf wf most last n k) := by
  have HK := Lib.hid hk
  have HN := Lib.hid hn
  have HL := Lib.hid hl
  have HA := Lib.hid hlast
  clear hk hn hl hlast he
  have hb1 := boxK w k
  have hx1 := Reg.Ext.alloc w (Obj.cells k.cells.toArray 33)
  go_enter Try.func24, Try.ntmps24
  go_upto_region 1 with (fail)
  generalize w.alloc (Obj.cells k.cells.toArray 33) = w1 at *
  generalize hg1 : w.heap.size = g1 at *
  have HP := Lib.hid ((P.ext hx1).ext (Reg.Ext.drew w1))
  have HB := Lib.hid (hb1.drew)
  have HX := Lib.hid (hx1.trans (Reg.Ext.drew w1))
  have HF : Hid (h.d < g1) := Lib.hid (by rw [← hg1]; exact P.blk.lt)
  have HG : Hid (¬ Own h es g1) := Lib.hid fun o => by have := P.own_lt o; omega
  clear P hb1 hx1
  obtain ⟨c0, c1, c2, c3, c4⟩ := HP.out.c
  refine Ordl.begins (S := fun w' => Reg.Ext (w1).drew w') (z := 99) (by kernel_rfl) ?_
  refine Ordl.Bx.out (?_ : Ordl.Bx (Ordl.Any _ _ _ _ _ _ _ _ _ _))
  have X0 : Reg.Ext (w1).drew (w1).drew := Reg.Ext.refl _
  generalize w1.drew = w2 at *
  refine Ordl.take (i := 0) (v := .pointer (some ⟨h.d, 0, none⟩)) rfl (by kernel_rfl) (by kernel_rfl) (by kernel_rfl) (by kernel_rfl) (fun _ _ _ h => h) (.inl ⟨by kernel_rfl, fun w _ => by as_aux_lemma => kernel_rfl⟩) X0 ?_
  simp only [List.getElem_toArray, List.getElem_cons_succ, List.getElem_cons_zero, Act.put, Act.eval, List.setIfInBounds_toArray, List.set_cons_zero, List.set_cons_succ, Nat.reduceAdd, Array.getD_eq_getD_getElem?, List.getElem?_toArray, List.getElem?_cons_succ, List.getElem?_cons_zero, Option.getD_some]
  refine Ordl.take (i := 1) (v := .pointer (some ⟨h.d, 0, none⟩)) rfl (by kernel_rfl) (by kernel_rfl) (by kernel_rfl) (by kernel_rfl) (fun _ _ _ h => h) (.inl ⟨by kernel_rfl, fun w _ => by as_aux_lemma => kernel_rfl⟩) X0 ?_
  simp only [List.getElem_toArray, List.getElem_cons_succ, List.getElem_cons_zero, Act.put, Act.eval, List.setIfInBounds_toArray, List.set_cons_zero, List.set_cons_succ, Nat.reduceAdd, Array.getD_eq_getD_getElem?, List.getElem?_toArray, List.getElem?_cons_succ, List.getElem?_cons_zero, Option.getD_some]
  refine Ordl.take (i := 2) (v := .pointer (some ⟨h.d, 0, none⟩)) rfl (by kernel_rfl) (by kernel_rfl) (by kernel_rfl) (by kernel_rfl) (fun _ _ _ h => h) (.inl ⟨by kernel_rfl, fun w _ => by as_aux_lemma => kernel_rfl⟩) X0 ?_
  simp only [List.getElem_toArray, List.getElem_cons_succ, List.getElem_cons_zero, Act.put, Act.eval, List.setIfInBounds_toArray, List.set_cons_zero, List.set_cons_succ, Nat.reduceAdd, Array.getD_eq_getD_getElem?, List.getElem?_toArray, List.getElem?_cons_succ, List.getElem?_cons_zero, Option.getD_some]
  refine Ordl.take (i := 3) (v := .map (some h.fm)) rfl (by kernel_rfl) (by kernel_rfl) (by kernel_rfl) (by kernel_rfl) (fun _ _ _ h => h) (yields_load1 (by kernel_rfl) 59 (.tmp 8) rfl ⟨h.d, 0, none⟩ (by kernel_rfl) (.map (some h.fm)) _ Try.underlying59 rfl (fun w h => h.at_ c0)) X0 ?_
  simp only [List.getElem_toArray, List.getElem_cons_succ, List.getElem_cons_zero, Act.put, Act.eval, List.setIfInBounds_toArray, List.set_cons_zero, List.set_cons_succ, Nat.reduceAdd, Array.getD_eq_getD_getElem?, List.getElem?_toArray, List.getElem?_cons_succ, List.getElem?_cons_zero, Option.getD_some]
  refine Ordl.take (i := 4) (v := .int .i64 (es.length : Int)) rfl (by kernel_rfl) (by kernel_rfl) (by kernel_rfl) (by kernel_rfl) (fun _ _ _ h => h) (.inl ⟨by kernel_rfl, fun w hS => exec_len (.tmp 9) rfl (HP.out.ext hS) (by kernel_rfl)⟩) X0 ?_
  simp only [List.getElem_toArray, List.getElem_cons_succ, List.getElem_cons_zero, Act.put, Act.eval, List.setIfInBounds_toArray, List.set_cons_zero, List.set_cons_succ, Nat.reduceAdd, Array.getD_eq_getD_getElem?, List.getElem?_toArray, List.getElem?_cons_succ, List.getElem?_cons_zero, Option.getD_some]
  refine Ordl.take (i := 5) (v := .pointer (some ⟨h.d, 0, none⟩)) rfl (by kernel_rfl) (by kernel_rfl) (by kernel_rfl) (by kernel_rfl) (fun _ _ _ h => h) (.inl ⟨by kernel_rfl, fun w _ => by as_aux_lemma => kernel_rfl⟩) X0 ?_
  simp only [List.getElem_toArray, List.getElem_cons_succ, List.getElem_cons_zero, Act.put, Act.eval, List.setIfInBounds_toArray, List.set_cons_zero, List.set_cons_succ, Nat.reduceAdd, Array.getD_eq_getD_getElem?, List.getElem?_toArray, List.getElem?_cons_succ, List.getElem?_cons_zero, Option.getD_some]
  refine Ordl.take (i := 6) (v := .pointer (some ⟨h.d, 0, none⟩)) rfl (by kernel_rfl) (by kernel_rfl) (by kernel_rfl) (by kernel_rfl) (fun _ _ _ h => h) (.inl ⟨by kernel_rfl, fun w _ => by as_aux_lemma => kernel_rfl⟩) X0 ?_
  simp only [List.getElem_toArray, List.getElem_cons_succ, List.getElem_cons_zero, Act.put, Act.eval, List.setIfInBounds_toArray, List.set_cons_zero, List.set_cons_succ, Nat.reduceAdd, Array.getD_eq_getD_getElem?, List.getElem?_toArray, List.getElem?_cons_succ, List.getElem?_cons_zero, Option.getD_some]
  refine Ordl.take (i := 7) (v := .pointer (some ⟨h.d, 3, none⟩)) rfl (by kernel_rfl) (by kernel_rfl) (by kernel_rfl) (by kernel_rfl) (fun _ _ _ h => h) (.inl ⟨by kernel_rfl, fun w _ => by as_aux_lemma => kernel_rfl⟩) X0 ?_
  simp only [List.getElem_toArray, List.getElem_cons_succ, List.getElem_cons_zero, Act.put, Act.eval, List.setIfInBounds_toArray, List.set_cons_zero, List.set_cons_succ, Nat.reduceAdd, Array.getD_eq_getD_getElem?, List.getElem?_toArray, List.getElem?_cons_succ, List.getElem?_cons_zero, Option.getD_some]
  refine Ordl.take (i := 8) (v := .int .i64 most) rfl (by kernel_rfl) (by kernel_rfl) (by kernel_rfl) (by kernel_rfl) (fun _ _ _ h => h) (yields_load1 (by kernel_rfl) 3 (.tmp 13) rfl ⟨h.d, 3, none⟩ (by kernel_rfl) (.int .i64 most) _ Try.underlying3 rfl (fun w h => h.at_ c3)) X0 ?_
  simp only [List.getElem_toArray, List.getElem_cons_succ, List.getElem_cons_zero, Act.put, Act.eval, List.setIfInBounds_toArray, List.set_cons_zero, List.set_cons_succ, Nat.reduceAdd, Array.getD_eq_getD_getElem?, List.getElem?_toArray, List.getElem?_cons_succ, List.getElem?_cons_zero, Option.getD_some]
  by_cases hm : (es.length : Int) ≥ most
  · have q : decide (most ≤ (es.length : Int)) = true := decide_eq_true hm
    refine Ordl.take (i := 9) (v := .bool (decide (most ≤ (es.length : Int)))) rfl (by kernel_rfl) (by kernel_rfl) (by kernel_rfl) (by kernel_rfl) (fun _ _ _ h => h) (.inl ⟨by kernel_rfl, fun w _ => by as_aux_lemma => kernel_rfl⟩) X0 ?_
    simp only [List.getElem_toArray, List.getElem_cons_succ, List.getElem_cons_zero, Act.put, Act.eval, List.setIfInBounds_toArray, List.set_cons_zero, List.set_cons_succ, Nat.reduceAdd, Array.getD_eq_getD_getElem?, List.getElem?_toArray, List.getElem?_cons_succ, List.getElem?_cons_zero, Option.getD_some]
    refine Ordl.done (by kernel_rfl) ?_ _
    go_wp2_with fail
    go_ret2
    exact .inl ⟨hm, rfl, HX.out⟩
  · have q : decide (most ≤ (es.length : Int)) = false := decide_eq_false hm
    refine Ordl.take (i := 9) (v := .bool (decide (most ≤ (es.length : Int)))) rfl (by kernel_rfl) (by kernel_rfl) (by kernel_rfl) (by kernel_rfl) (fun _ _ _ h => h) (.inl ⟨by kernel_rfl, fun w _ => by as_aux_lemma => kernel_rfl⟩) X0 ?_
    simp only [List.getElem_toArray, List.getElem_cons_succ, List.getElem_cons_zero, Act.put, Act.eval, List.setIfInBounds_toArray, List.set_cons_zero, List.set_cons_succ, Nat.reduceAdd, Array.getD_eq_getD_getElem?, List.getElem?_toArray, List.getElem?_cons_succ, List.getElem?_cons_zero, Option.getD_some]
    refine Ordl.done (by kernel_rfl) ?_ _
    have hl0 := HL.out.1
    have hl1 := HL.out.2
    have fz := HP.out.blk.frozen 4
    go_upto_region 4 with (fail)
    have hne : g1 ≠ h.d := by have := HF.out; omega
    have hb3 := But.set_ h.d w2 4 (.int .i64 (last + 1))
    have HP3 := Lib.hid ((HP.out.head hb3 (HP.out.blk.set_ 4 (.int .i64 (last + 1)))).ext (Reg.Ext.drew _))
    have HB3 := Lib.hid ((HB.out.but hb3 hne).drew)
    have HT3 : Hid (Turn h w es (w2.setCell ⟨h.d, 4, none⟩ (.int .i64 (last + 1))).drew es) := Lib.hid (((Turn.ext HX.out).trans (Turn.but hb3 own_d)).trans (Turn.ext (Reg.Ext.drew _)))
    clear HP HB HX hb3 c0 c1 c2 c3 c4 fz X0
    obtain ⟨c0, c1, c2, c3, c4⟩ := HP3.out.c
    refine Ordl.begins (S := fun w' => Reg.Ext (w2.setCell ⟨h.d, 4, none⟩ (.int .i64 (last + 1))).drew w') (z := 11) (by kernel_rfl) ?_
    refine Ordl.Bx.out (?_ : Ordl.Bx (Ordl.Any _ _ _ _ _ _ _ _ _ _))
    have X0 : Reg.Ext (w2.setCell ⟨h.d, 4, none⟩ (.int .i64 (last + 1))).drew (w2.setCell ⟨h.d, 4, none⟩ (.int .i64 (last + 1))).drew := Reg.Ext.refl _
    generalize (w2.setCell ⟨h.d, 4, none⟩ (.int .i64 (last + 1))).drew = w3 at *
    refine Ordl.take (i := 0) (v := .pointer (some ⟨h.d, 0, none⟩)) rfl (by kernel_rfl) (by kernel_rfl) (by kernel_rfl) (by kernel_rfl) (fun _ _ _ h => h) (.inl ⟨by kernel_rfl, fun w _ => by as_aux_lemma => kernel_rfl⟩) X0 ?_
    simp only [List.getElem_toArray, List.getElem_cons_succ, List.getElem_cons_zero, Act.put, Act.eval, List.setIfInBounds_toArray, List.set_cons_zero, List.set_cons_succ, Nat.reduceAdd, Array.getD_eq_getD_getElem?, List.getElem?_toArray, List.getElem?_cons_succ, List.getElem?_cons_zero, Option.getD_some]
    refine Ordl.take (i := 1) (v := .pointer (some ⟨h.d, 0, none⟩)) rfl (by kernel_rfl) (by kernel_rfl) (by kernel_rfl) (by kernel_rfl) (fun _ _ _ h => h) (.inl ⟨by kernel_rfl, fun w _ => by as_aux_lemma => kernel_rfl⟩) X0 ?_
    simp only [List.getElem_toArray, List.getElem_cons_succ, List.getElem_cons_zero, Act.put, Act.eval, List.setIfInBounds_toArray, List.set_cons_zero, List.set_cons_succ, Nat.reduceAdd, Array.getD_eq_getD_getElem?, List.getElem?_toArray, List.getElem?_cons_succ, List.getElem?_cons_zero, Option.getD_some]
    refine Ordl.take (i := 2) (v := .pointer (some ⟨h.d, 0, none⟩)) rfl (by kernel_rfl) (by kernel_rfl) (by kernel_rfl) (by kernel_rfl) (fun _ _ _ h => h) (.inl ⟨by kernel_rfl, fun w _ => by as_aux_lemma => kernel_rfl⟩) X0 ?_
    simp only [List.getElem_toArray, List.getElem_cons_succ, List.getElem_cons_zero, Act.put, Act.eval, List.setIfInBounds_toArray, List.set_cons_zero, List.set_cons_succ, Nat.reduceAdd, Array.getD_eq_getD_getElem?, List.getElem?_toArray, List.getElem?_cons_succ, List.getElem?_cons_zero, Option.getD_some]
    refine Ordl.take (i := 3) (v := .map (some h.fm)) rfl (by kernel_rfl) (by kernel_rfl) (by kernel_rfl) (by kernel_rfl) (fun _ _ _ h => h) (yields_load1 (by kernel_rfl) 59 (.tmp 25) rfl ⟨h.d, 0, none⟩ (by kernel_rfl) (.map (some h.fm)) _ Try.underlying59 rfl (fun w h => h.at_ c0)) X0 ?_
    simp only [List.getElem_toArray, List.getElem_cons_succ, List.getElem_cons_zero, Act.put, Act.eval, List.setIfInBounds_toArray, List.set_cons_zero, List.set_cons_succ, Nat.reduceAdd, Array.getD_eq_getD_getElem?, List.getElem?_toArray, List.getElem?_cons_succ, List.getElem?_cons_zero, Option.getD_some]
    refine Ordl.take (i := 4) (v := .pointer (some ⟨h.d, 0, none⟩)) rfl (by kernel_rfl) (by kernel_rfl) (by kernel_rfl) (by kernel_rfl) (fun _ _ _ h => h) (.inl ⟨by kernel_rfl, fun w _ => by as_aux_lemma => kernel_rfl⟩) X0 ?_
    simp only [List.getElem_toArray, List.getElem_cons_succ, List.getElem_cons_zero, Act.put, Act.eval, List.setIfInBounds_toArray, List.set_cons_zero, List.set_cons_succ, Nat.reduceAdd, Array.getD_eq_getD_getElem?, List.getElem?_toArray, List.getElem?_cons_succ, List.getElem?_cons_zero, Option.getD_some]
    refine Ordl.take (i := 5) (v := .pointer (some ⟨h.d, 0, none⟩)) rfl (by kernel_rfl) (by kernel_rfl) (by kernel_rfl) (by kernel_rfl) (fun _ _ _ h => h) (.inl ⟨by kernel_rfl, fun w _ => by as_aux_lemma => kernel_rfl⟩) X0 ?_
    simp only [List.getElem_toArray, List.getElem_cons_succ, List.getElem_cons_zero, Act.put, Act.eval, List.setIfInBounds_toArray, List.set_cons_zero, List.set_cons_succ, Nat.reduceAdd, Array.getD_eq_getD_getElem?, List.getElem?_toArray, List.getElem?_cons_succ, List.getElem?_cons_zero, Option.getD_some]
    refine Ordl.take (i := 6) (v := .pointer (some ⟨h.d, 4, none⟩)) rfl (by kernel_rfl) (by kernel_rfl) (by kernel_rfl) (by kernel_rfl) (fun _ _ _ h => h) (.inl ⟨by kernel_rfl, fun w _ => by as_aux_lemma => kernel_rfl⟩) X0 ?_
    simp only [List.getElem_toArray, List.getElem_cons_succ, List.getElem_cons_zero, Act.put, Act.eval, List.setIfInBounds_toArray, List.set_cons_zero, List.set_cons_succ, Nat.reduceAdd, Array.getD_eq_getD_getElem?, List.getElem?_toArray, List.getElem?_cons_succ, List.getElem?_cons_zero, Option.getD_some]
    refine Ordl.take (i := 7) (v := .int .i64 (last + 1)) rfl (by kernel_rfl) (by kernel_rfl) (by kernel_rfl) (by kernel_rfl) (fun _ _ _ h => h) (yields_load1 (by kernel_rfl) 3 (.tmp 29) rfl ⟨h.d, 4, none⟩ (by kernel_rfl) (.int .i64 (last + 1)) _ Try.underlying3 rfl (fun w h => h.at_ c4)) X0 ?_
    simp only [List.getElem_toArray, List.getElem_cons_succ, List.getElem_cons_zero, Act.put, Act.eval, List.setIfInBounds_toArray, List.set_cons_zero, List.set_cons_succ, Nat.reduceAdd, Array.getD_eq_getD_getElem?, List.getElem?_toArray, List.getElem?_cons_succ, List.getElem?_cons_zero, Option.getD_some]
    refine Ordl.take (i := 8) (v := .agg k.cells.toArray) rfl (by kernel_rfl) (by kernel_rfl) (by kernel_rfl) (by kernel_rfl) (fun _ _ _ h => h) (yieldsIf_load_mid (by kernel_rfl) 33 (.tmp 3) rfl g1 0 (by kernel_rfl) k.cells _ (fun w h => rng_ext (blk_rng HB3.out) h) undK rfl (by rw [k.len HK.out.dig]; exact sizeK)) X0 ?_
    simp only [List.getElem_toArray, List.getElem_cons_succ, List.getElem_cons_zero, Act.put, Act.eval, List.setIfInBounds_toArray, List.set_cons_zero, List.set_cons_succ, Nat.reduceAdd, Array.getD_eq_getD_getElem?, List.getElem?_toArray, List.getElem?_cons_succ, List.getElem?_cons_zero, Option.getD_some]
    refine Ordl.take (i := 9) (v := .agg (k.cells ++ [Value.slice none 0 0]).toArray) rfl (by kernel_rfl) (by kernel_rfl) (by kernel_rfl) (by kernel_rfl) (fun _ _ _ h => h) (.inl ⟨by kernel_rfl, fun w hS => exec_fl (.tmp 31) rfl k HK.out.dig (by kernel_rfl) w⟩) X0 ?_
    simp only [List.getElem_toArray, List.getElem_cons_succ, List.getElem_cons_zero, Act.put, Act.eval, List.setIfInBounds_toArray, List.set_cons_zero, List.set_cons_succ, Nat.reduceAdd, Array.getD_eq_getD_getElem?, List.getElem?_toArray, List.getElem?_cons_succ, List.getElem?_cons_zero, Option.getD_some]
    refine Ordl.one (i := 10) (by kernel_rfl) rfl ?_
    refine Ordl.any (by kernel_rfl) (.pointer (some ⟨w3.heap.size, 0, none⟩)) (w3.alloc (Obj.cells (k.cells ++ [Value.slice none 0 0]).toArray 68)) (by kernel_rfl) ?_
    simp only [Act.put, Act.eval, List.setIfInBounds_toArray, List.set_cons_zero, List.set_cons_succ, Nat.reduceAdd, Array.getD_eq_getD_getElem?, List.getElem?_toArray, List.getElem?_cons_succ, List.getElem?_cons_zero, Option.getD_some]
    have X1 : Reg.Ext w3 (w3.alloc (Obj.cells (k.cells ++ [Value.slice none 0 0]).toArray 68)) := Reg.Ext.alloc _ _
    refine Ordl.fin X1 ?_
    refine Ordl.one (i := 11) (by kernel_rfl) rfl ?_
    have HP4 := Lib.hid (HP3.out.ext X1)
    have HB4 := Lib.hid (HB3.out.ext X1)
    have HF4 : Hid (Blk (w3.alloc (Obj.cells (k.cells ++ [Value.slice none 0 0]).toArray 68)) w3.heap.size 68 (k.cells ++ [Value.slice none 0 0])) := Lib.hid (by
      have := Blk.new w3 68 (k.cells ++ [Value.slice none 0 0]).toArray
      simpa using this)
    have HT4 : Hid (Turn h w es (w3.alloc (Obj.cells (k.cells ++ [Value.slice none 0 0]).toArray 68)) es) := Lib.hid (HT3.out.trans (Turn.ext X1))
    have HO4 : Hid (∀ x, Own h es x → x < w3.heap.size) := Lib.hid fun x hx => HP3.out.own_lt hx
    have HS4 : Hid (w.heap.size ≤ w3.heap.size) := Lib.hid HT3.out.size
    clear HP3 HB3 HT3 c0 c1 c2 c3 c4 X0 X1
    obtain ⟨g, hg⟩ : ∃ g, w3.heap.size = g := ⟨_, rfl⟩
    rw [hg] at HF4 HO4 HS4 ⊢
    generalize w3.alloc (Obj.cells (k.cells ++ [Value.slice none 0 0]).toArray 68) = w4 at *
    obtain ⟨D, hm0, hMD⟩ := HP4.out.mf
    have HM := Lib.hid hm0
    have HMD := Lib.hid hMD
    clear hm0 hMD
    refine ⟨wpList_mapUpdate_own _ rfl _ _ _ 59 rfl 3 _ kun Try.underlying59 ptrR h.fm n D rfl HM.out (by have := HN.out; omega) _ _ _ rfl rfl (keyI (last + 1) (wfI_of (by omega) (by omega))) _ [] (ptrR_at g) ?_⟩
    intro w5 hm5 hg5
    have hk5 : ∀ i, i < w4.heap.size → i ≠ h.fm → w5.heap[i]? = w4.heap[i]? := fun i hi hne => hg5.block i hi fun e => hne (by injection e)
    have hgb : ¬ Own h es g := fun o => by have := HO4.out g o; omega
    have HP5 : Hid (Pt w5 h (es ++ [⟨⟨last + 1, k, []⟩, g, .slice none 0 0⟩]) kf wf most (last + 1) (n + 1)) := Lib.hid (HP4.out.add (e := ⟨⟨last + 1, k, []⟩, g, .slice none 0 0⟩) (Nat.le_succ n) (fun y hy => by have := HA.out y hy; show y.f.id < last + 1; omega) HMD.out (HM.out.tidy kun) hm5 hk5
      ((hk5 g HF4.out.lt fun e => hgb (e ▸ own_fm)).trans HF4.out) ⟨rfl, .inl ⟨rfl, rfl⟩⟩ (fun e => by cases e) (fun x hx => by
        rcases mem_blocks.1 hx with rfl | hx
        · exact hgb
        · cases hx))
    have HB5 := Lib.hid ((hk5 g1 HB4.out.lt (fun e => by have := HO4.out h.fm own_fm; have := HP4.out.base_lt (x := h.fm) (by simp [base]); have h1 := HG.out; exact h1 (e ▸ own_fm))).trans HB4.out)
    have HT5 : Hid (Turn h w es w5 (es ++ [⟨⟨last + 1, k, []⟩, g, .slice none 0 0⟩])) := Lib.hid (by
      have h1 := (HT4.out.trans (Turn.but (b := h.fm) hg5 own_fm))
      refine ⟨h1.os, h1.tape, h1.output, h1.size, h1.kept, fun i hi => ?_⟩
      rcases own_app hi with hx | hx
      · rcases mem_blocks.1 hx with rfl | hx
        · exact .inr HS4.out
        · cases hx
      · exact .inl hx)
    clear hm5 hg5 hk5 hgb HM HMD HP4 HB4 HT4 HF4
    refine Ordl.Bx.out (?_ : Ordl.Bx _)
    refine Ordl.finz ?_
    refine Ordl.done (by kernel_rfl) ?_ _
    go_upto_region 5 with (fail)
    have HP6 := Lib.hid (HP5.out.ext (Reg.Ext.drew w5))
    have HB6 : Hid (Blk w5.drew g1 33 k.cells) := Lib.hid (Blk.drew HB5.out)
    have HT6 := Lib.hid (HT5.out.trans (Turn.ext (Reg.Ext.drew w5)))
    clear HP5 HB5 HT5
    obtain ⟨c0, c1, c2, c3, c4⟩ := HP6.out.c
    refine Ordl.begins (S := fun w' => Reg.Ext (w5).drew w') (z := 9) (by kernel_rfl) ?_
    refine Ordl.Bx.out (?_ : Ordl.Bx (Ordl.Any _ _ _ _ _ _ _ _ _ _))
    have X0 : Reg.Ext (w5).drew (w5).drew := Reg.Ext.refl _
    generalize w5.drew = w6 at *
    refine Ordl.take (i := 0) (v := .pointer (some ⟨h.d, 0, none⟩)) rfl (by kernel_rfl) (by kernel_rfl) (by kernel_rfl) (by kernel_rfl) (fun _ _ _ h => h) (.inl ⟨by kernel_rfl, fun w _ => by as_aux_lemma => kernel_rfl⟩) X0 ?_
    simp only [List.getElem_toArray, List.getElem_cons_succ, List.getElem_cons_zero, Act.put, Act.eval, List.setIfInBounds_toArray, List.set_cons_zero, List.set_cons_succ, Nat.reduceAdd, Array.getD_eq_getD_getElem?, List.getElem?_toArray, List.getElem?_cons_succ, List.getElem?_cons_zero, Option.getD_some]
    refine Ordl.take (i := 1) (v := .pointer (some ⟨h.d, 0, none⟩)) rfl (by kernel_rfl) (by kernel_rfl) (by kernel_rfl) (by kernel_rfl) (fun _ _ _ h => h) (.inl ⟨by kernel_rfl, fun w _ => by as_aux_lemma => kernel_rfl⟩) X0 ?_
    simp only [List.getElem_toArray, List.getElem_cons_succ, List.getElem_cons_zero, Act.put, Act.eval, List.setIfInBounds_toArray, List.set_cons_zero, List.set_cons_succ, Nat.reduceAdd, Array.getD_eq_getD_getElem?, List.getElem?_toArray, List.getElem?_cons_succ, List.getElem?_cons_zero, Option.getD_some]
    refine Ordl.take (i := 2) (v := .pointer (some ⟨h.d, 1, none⟩)) rfl (by kernel_rfl) (by kernel_rfl) (by kernel_rfl) (by kernel_rfl) (fun _ _ _ h => h) (.inl ⟨by kernel_rfl, fun w _ => by as_aux_lemma => kernel_rfl⟩) X0 ?_
    simp only [List.getElem_toArray, List.getElem_cons_succ, List.getElem_cons_zero, Act.put, Act.eval, List.setIfInBounds_toArray, List.set_cons_zero, List.set_cons_succ, Nat.reduceAdd, Array.getD_eq_getD_getElem?, List.getElem?_toArray, List.getElem?_cons_succ, List.getElem?_cons_zero, Option.getD_some]
    refine Ordl.take (i := 3) (v := .map (some h.km)) rfl (by kernel_rfl) (by kernel_rfl) (by kernel_rfl) (by kernel_rfl) (fun _ _ _ h => h) (yields_load1 (by kernel_rfl) 60 (.tmp 36) rfl ⟨h.d, 1, none⟩ (by kernel_rfl) (.map (some h.km)) _ Try.underlying60 rfl (fun w h => h.at_ c1)) X0 ?_
    simp only [List.getElem_toArray, List.getElem_cons_succ, List.getElem_cons_zero, Act.put, Act.eval, List.setIfInBounds_toArray, List.set_cons_zero, List.set_cons_succ, Nat.reduceAdd, Array.getD_eq_getD_getElem?, List.getElem?_toArray, List.getElem?_cons_succ, List.getElem?_cons_zero, Option.getD_some]
    refine Ordl.take (i := 4) (v := .agg k.cells.toArray) rfl (by kernel_rfl) (by kernel_rfl) (by kernel_rfl) (by kernel_rfl) (fun _ _ _ h => h) (yieldsIf_load_mid (by kernel_rfl) 33 (.tmp 3) rfl g1 0 (by kernel_rfl) k.cells _ (fun w h => rng_ext (blk_rng HB6.out) h) undK rfl (by rw [k.len HK.out.dig]; exact sizeK)) X0 ?_
    simp only [List.getElem_toArray, List.getElem_cons_succ, List.getElem_cons_zero, Act.put, Act.eval, List.setIfInBounds_toArray, List.set_cons_zero, List.set_cons_succ, Nat.reduceAdd, Array.getD_eq_getD_getElem?, List.getElem?_toArray, List.getElem?_cons_succ, List.getElem?_cons_zero, Option.getD_some]
    refine Ordl.take (i := 5) (v := .pointer (some ⟨h.d, 0, none⟩)) rfl (by kernel_rfl) (by kernel_rfl) (by kernel_rfl) (by kernel_rfl) (fun _ _ _ h => h) (.inl ⟨by kernel_rfl, fun w _ => by as_aux_lemma => kernel_rfl⟩) X0 ?_
    simp only [List.getElem_toArray, List.getElem_cons_succ, List.getElem_cons_zero, Act.put, Act.eval, List.setIfInBounds_toArray, List.set_cons_zero, List.set_cons_succ, Nat.reduceAdd, Array.getD_eq_getD_getElem?, List.getElem?_toArray, List.getElem?_cons_succ, List.getElem?_cons_zero, Option.getD_some]
    refine Ordl.take (i := 6) (v := .pointer (some ⟨h.d, 0, none⟩)) rfl (by kernel_rfl) (by kernel_rfl) (by kernel_rfl) (by kernel_rfl) (fun _ _ _ h => h) (.inl ⟨by kernel_rfl, fun w _ => by as_aux_lemma => kernel_rfl⟩) X0 ?_
    simp only [List.getElem_toArray, List.getElem_cons_succ, List.getElem_cons_zero, Act.put, Act.eval, List.setIfInBounds_toArray, List.set_cons_zero, List.set_cons_succ, Nat.reduceAdd, Array.getD_eq_getD_getElem?, List.getElem?_toArray, List.getElem?_cons_succ, List.getElem?_cons_zero, Option.getD_some]
    refine Ordl.take (i := 7) (v := .pointer (some ⟨h.d, 4, none⟩)) rfl (by kernel_rfl) (by kernel_rfl) (by kernel_rfl) (by kernel_rfl) (fun _ _ _ h => h) (.inl ⟨by kernel_rfl, fun w _ => by as_aux_lemma => kernel_rfl⟩) X0 ?_
    simp only [List.getElem_toArray, List.getElem_cons_succ, List.getElem_cons_zero, Act.put, Act.eval, List.setIfInBounds_toArray, List.set_cons_zero, List.set_cons_succ, Nat.reduceAdd, Array.getD_eq_getD_getElem?, List.getElem?_toArray, List.getElem?_cons_succ, List.getElem?_cons_zero, Option.getD_some]
    refine Ordl.take (i := 8) (v := .int .i64 (last + 1)) rfl (by kernel_rfl) (by kernel_rfl) (by kernel_rfl) (by kernel_rfl) (fun _ _ _ h => h) (yields_load1 (by kernel_rfl) 3 (.tmp 41) rfl ⟨h.d, 4, none⟩ (by kernel_rfl) (.int .i64 (last + 1)) _ Try.underlying3 rfl (fun w h => h.at_ c4)) X0 ?_
    simp only [List.getElem_toArray, List.getElem_cons_succ, List.getElem_cons_zero, Act.put, Act.eval, List.setIfInBounds_toArray, List.set_cons_zero, List.set_cons_succ, Nat.reduceAdd, Array.getD_eq_getD_getElem?, List.getElem?_toArray, List.getElem?_cons_succ, List.getElem?_cons_zero, Option.getD_some]
    refine Ordl.one (i := 9) (by kernel_rfl) rfl ?_
    obtain ⟨D, hm0, hMD⟩ := HP6.out.mK
    have HM := Lib.hid hm0
    have HMD := Lib.hid hMD
    clear hm0 hMD
    obtain ⟨l, hl⟩ := k.ok HK.out
    refine ⟨wpList_mapUpdate_own _ rfl _ _ _ 60 rfl 33 3 laidK Try.underlying60 (plainElem Try.prog 3) h.km (n + 1) D rfl HM.out (by have := HN.out; omega) _ _ _ rfl rfl hl _ [] (plainElem_int Try.underlying3 (wfI_of (by omega) (by omega))) ?_⟩
    intro w7 hm7 hg7
    have HP7 := Lib.hid (HP6.out.setK (Nat.le_succ _) hm7 (HMD.out.put (HM.out.tidy laidK) HK.out.dig hl (last + 1)) hg7)
    have HT7 := Lib.hid (HT6.out.trans (Turn.but (b := h.km) hg7 own_km))
    clear hm7 hg7 HM HMD HP6 HT6 HB6 c0 c1 c2 c3 c4 X0 hl
    obtain ⟨c0, c1, c2, c3, c4⟩ := HP7.out.c
    refine Ordl.Bx.out (?_ : Ordl.Bx _)
    refine Ordl.finz ?_
    refine Ordl.done (by kernel_rfl) ?_ _
    go_wp2_with fail
    go_ret2
    exact .inr ⟨by omega, rfl, g, HS4.out, HP7.out, HT7.out⟩
end Py
end Go.Proofs.Ytjkhfnfimicffaa

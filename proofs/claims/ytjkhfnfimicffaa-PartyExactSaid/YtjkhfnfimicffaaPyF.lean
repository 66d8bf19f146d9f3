/- Flights: Join. -/
import Derived.Test.YtjkhfnfimicffaaPyE
import Derived.OwnWalk
set_option linter.unusedSimpArgs false
set_option linter.unusedVariables false
set_option linter.unusedSectionVars false
namespace Go.Proofs.Ytjkhfnfimicffaa
open Go Go.RowKit
namespace Py

theorem Try.intInfo : (Try.prog.info? 3).map (fun i => (i.zero, i.size, i.bytes)) = some (some (.int .i64 0), 1, 8) := by kernel_rfl
theorem intInfo_of : ∃ i, Try.prog.info? 3 = some i ∧ i.zero = some (.int .i64 0) ∧ i.size = 1 ∧ i.bytes = 8 := by
  obtain ⟨i, hi, h⟩ := Option.map_eq_some_iff.1 Try.intInfo
  simp only [Prod.mk.injEq] at h
  exact ⟨i, hi, h.1, h.2.1, h.2.2⟩
/-- append(v, number); the new number lies in block g -/
theorem wpList_pushI {ops : Array Oper} {rest : List Oper} {o : Oper} {a : Act} {Q : Exit → Act → World → Prop} (hgd : o.guard = none) (s x : Operand) (ho : o.op = .call { callee := .builtin .append, args := #[s, x], argTypes := #[22, 22] })
    (v : Value) (xs : List Int) (y : Int) (hs : a.eval s = v) (B : Nat) (W : World) (g : Nat) (hb : W.ownsRow B 3 1 v xs.length (xs.map (Value.int .i64))) (hB : B ≤ W.heap.size) (hx : a.eval x = .slice (some ⟨g, 0, none⟩) 1 1) (hnew : W.cell? ⟨g, 0, none⟩ = some (.int .i64 y)) (hl : xs.length ≤ 1000000)
    (h : ∀ v' w', w'.ownsRow B 3 1 v' (xs ++ [y]).length ((xs ++ [y]).map (Value.int .i64)) → W.grownBy w' v.ownBlock → (v'.ownBlock = v.ownBlock ∨ v'.ownBlock = some W.heap.size) → wpList Try.prog ops Q rest (a.put o.dst v') w') : wpList Try.prog ops Q (o :: rest) a W := by
  obtain ⟨i, hi, hz, hsz, hby⟩ := intInfo_of
  refine Go.wpList_append_own_at W hgd s x 22 ho B 3 i (.int .i64 0) 1 8 Try.underlying22 hi hz hsz hby rfl (by decide) v xs.length (xs.map (Value.int .i64)) hs hb ⟨g, 0, none⟩ 1 1 [.int .i64 y] hx rfl ?_ ?_ (by unfold maxLen; omega) (by omega) hB ?_
  · intro j u hj
    cases j with
    | zero => injection hj with hj; subst hj; exact hnew
    | succ j => cases hj
  · intro u hu
    rw [List.mem_singleton.1 hu]; rfl
  · intro v' w' ho' hg _ hat
    refine h v' w' ?_ hg hat
    rw [List.length_append, List.map_append]
    exact ho'
/-- the flights and what they say -/
structure Pn (w : World) (h : Hd) (es : List E) (p : P) (n : Nat) : Prop where
  pt : Pt w h es (kfOf p.fs) (wfOf p.fs) p.most p.last n
  fs : es.map E.f = p.fs
  good : Good p
  fine : ∀ f ∈ p.fs, f.key.Fine
  last : p.last ≤ (n : Int)
  len : ∀ f ∈ p.fs, f.who.length ≤ n ∧ ∀ x ∈ f.who, wfI x
  cnt : p.fs.length ≤ n
theorem map_updE {es : List E} (hu : (es.map fun e => e.f.id).Pairwise (· < ·)) {e : E} (he : e ∈ es) (w : List Int) (v : Value) : (updE ⟨{ e.f with who := w }, e.g, v⟩ es).map E.f = upd e.f.id w (es.map E.f) := by
  unfold updE upd
  rw [List.map_map, List.map_map]
  refine List.map_congr_left fun y hy => ?_
  show (if y.f.id = e.f.id then (⟨{ e.f with who := w }, e.g, v⟩ : E) else y).f = if y.f.id = e.f.id then { y.f with who := w } else y.f
  by_cases hc : y.f.id = e.f.id
  · rw [if_pos hc, if_pos hc, up_sameE hu hy he hc]
  · rw [if_neg hc, if_neg hc]
theorem map_delE {es : List E} (i : Int) : (delE i es).map E.f = del i (es.map E.f) := by
  unfold delE del
  rw [List.filter_map]
  rfl
theorem Pn.upd_ {w w' : World} {h : Hd} {es : List E} {p : P} {n m : Nat} (P : Pn w h es p n) {e : E} (he : e ∈ es) {ws : List Int} {v : Value} (hm : n ≤ m) (hg : Good { p with fs := upd e.f.id ws p.fs }) (hl : ws.length ≤ m) (hws : ∀ x ∈ ws, wfI x)
    (hp : Pt w' h (updE ⟨{ e.f with who := ws }, e.g, v⟩ es) (kfOf p.fs) (wfOf (upd e.f.id ws p.fs)) p.most p.last m) : Pn w' h (updE ⟨{ e.f with who := ws }, e.g, v⟩ es) { p with fs := upd e.f.id ws p.fs } m := by
  refine ⟨?_, ?_, hg, fun f hf => ?_, ?_, fun f hf => ?_, ?_⟩
  · rw [← kf_upd P.good (i := e.f.id) (w := ws)] at hp
    exact hp
  · rw [map_updE P.pt.up he, show es.map E.f = p.fs from P.fs]
  · obtain ⟨g, hg, rfl⟩ := mem_upd hf
    have := P.fine g hg
    split <;> exact this
  · have := P.last; show p.last ≤ (m : Int); omega
  · obtain ⟨g, hg, rfl⟩ := mem_upd hf
    have := P.len g hg
    split
    · exact ⟨hl, hws⟩
    · exact ⟨Nat.le_trans this.1 hm, this.2⟩
  · show (upd e.f.id ws p.fs).length ≤ m
    rw [length_upd]
    exact Nat.le_trans P.cnt hm
theorem Pn.mem {w : World} {h : Hd} {es : List E} {p : P} {n : Nat} (P : Pn w h es p n) {e : E} (he : e ∈ es) : e.f ∈ p.fs := by rw [← show es.map E.f = p.fs from P.fs]; exact List.mem_map.2 ⟨e, he, rfl⟩
theorem Pn.ids {w : World} {h : Hd} {es : List E} {p : P} {n : Nat} (P : Pn w h es p n) : ∀ e ∈ es, e.f.id ≤ p.last := fun e he => (P.good.le _ (P.mem he)).2
theorem Pn.length {w : World} {h : Hd} {es : List E} {p : P} {n : Nat} (P : Pn w h es p n) : es.length = p.fs.length := by rw [← show es.map E.f = p.fs from P.fs, List.length_map]
def ResP (h : Hd) (w : World) (es : List E) (v : Value) (p : P) (n : Nat) (e : Ending) (w' : World) : Prop := e = .returned v ∧ ∃ es', Pn w' h es' p n ∧ Turn h w es w' es'
theorem Pn.ext {w w' : World} {h : Hd} {es : List E} {p : P} {n : Nat} (P : Pn w h es p n) (hx : Reg.Ext w w') : Pn w' h es p n := { P with pt := P.pt.ext hx }
theorem Pn.more {w : World} {h : Hd} {es : List E} {p : P} {n m : Nat} (P : Pn w h es p n) (hm : n ≤ m) : Pn w h es p m :=
  { P with pt := P.pt.more hm, last := by have := P.last; omega, len := fun f hf => ⟨Nat.le_trans (P.len f hf).1 hm, (P.len f hf).2⟩, cnt := Nat.le_trans P.cnt hm }
theorem set36 (k : Ky) (hk : k.dig.length = 32) (v v' : Value) : (k.cells ++ [v]).set 36 v' = k.cells ++ [v'] := by
  rw [List.set_append_right _ _ (by rw [k.len hk]; exact Nat.le_refl _), k.len hk]
  rfl
theorem cell36 {w : World} {g : Nat} {T : TypeId} {k : Ky} {v : Value} (h : Blk w g T (k.cells ++ [v])) (hk : k.dig.length = 32) : w.cell? ⟨g, 36, none⟩ = some v := by
  rw [h.cell, List.getElem?_append_right (by rw [k.len hk]; exact Nat.le_refl _), k.len hk]
  rfl
set_option maxHeartbeats 1000000 in
theorem join_two {w : World} {h : Hd} {es : List E} {p : P} {n : Nat} (P : Pn w h es p n) (k : Ky) (hk : k.Fine) (x : Int) (hx : wfI x) (hn : n + 3 < 1000000) {f : Fl} (hw : wh x p.fs = some f) :
    Calls Try.prog 8 #[.pointer (some ⟨h.d, 0, none⟩), .agg k.cells.toArray, .int .i64 x] w (ResP h w es (.tuple #[.int .i64 0, .bool false, .int .i64 9]) p (n + 3)) := by
  have HW : Hid (wfOf p.fs x = some f.id) := Lib.hid (by unfold wfOf; rw [hw]; rfl)
  clear hw
  have hb1 := boxK w k
  have hx1 := Reg.Ext.alloc w (Obj.cells k.cells.toArray 33)
  have HX := Lib.hid hx1
  have HP := Lib.hid (P.ext hx1)
  have hlw := HP.out.pt.lookW x hx
  have HK := Lib.hid hk
  have HI := Lib.hid hx
  have HN := Lib.hid hn
  have HS : Hid (w.heap.size ≤ w.heap.size) := Lib.hid (Nat.le_refl _)
  obtain ⟨c0, c1, c2, c3, c4⟩ := HP.out.pt.c
  clear P hk hx hn
  rw [HW.out] at hlw
  clear hb1 hx1
  go_enter Try.func8, Try.ntmps8
  go_wp2_with fail
  refine bodyPost_ret (results_tmp3 rfl _ _ _) rfl ?_
  exact ⟨rfl, es, HP.out.more (by omega), Turn.ext HX.out⟩
/-- who waits more -/
theorem more_any {w w' : World} {h : Hd} {es : List E} {kf : Ky → Option Int} {wf : Int → Option Int} {most last : Int} {n : Nat} (P : Pt w h es kf wf most last n) {e : E} (he : e ∈ es) (hk : e.f.key.dig.length = 32) (x : Int) {w3 w4 : World} {v' : Value}
    (h3 : Reg.Ext w w3) (ho : w4.ownsRow 0 3 1 v' (e.f.who ++ [x]).length ((e.f.who ++ [x]).map (Value.int .i64))) (hg : w3.grownBy w4 e.v.ownBlock) (hat : v'.ownBlock = e.v.ownBlock ∨ v'.ownBlock = some w3.heap.size) (hw : w' = w4.setCell ⟨e.g, 36, none⟩ v') :
    Pt w' h (updE ⟨{ e.f with who := e.f.who ++ [x] }, e.g, v'⟩ es) kf wf most last n ∧ Turn h w es w' (updE ⟨{ e.f with who := e.f.who ++ [x] }, e.g, v'⟩ es) := by
  subst hw
  have hself := P.self e he
  have hglt := (P.file e he).lt
  have hf3 := (P.file e he).ext h3
  have hf4 : Blk w4 e.g 68 (e.f.key.cells ++ [e.v]) := (hg.block e.g hf3.lt fun e1 => hself e1.symm).trans hf3
  have hne : v'.ownBlock ≠ some e.g := by
    rcases hat with h1 | h1
    · rw [h1]; exact hself
    · rw [h1]; intro e1; injection e1 with e1; have := h3.size; omega
  have hb5 := But.set_ e.g w4 36 v'
  have hs3 := h3.size
  have hs4 := hg.size
  have hk5 : ∀ i, i < w.heap.size → i ∉ e.blocks → (w4.setCell ⟨e.g, 36, none⟩ v').heap[i]? = w.heap[i]? := fun i hi hn => by
    rw [mem_blocks, not_or] at hn
    exact ((hb5.block i (by omega) fun e1 => hn.1 (by injection e1)).trans (hg.block i (by omega) fun e1 => hn.2 e1.symm)).trans (h3.block i hi)
  have hbn : ∀ y, v'.ownBlock = some y → (y ≠ e.g ∧ y ∈ e.blocks) ∨ w.heap.size ≤ y := fun y hy => by
    rcases hat with h1 | h1
    · rw [h1] at hy
      exact .inl ⟨fun e1 => hself (e1 ▸ hy), mem_blocks.2 (.inr hy)⟩
    · rw [h1] at hy; injection hy with hy; exact .inr (by omega)
  refine ⟨P.entry he rfl rfl hk5 ?_ (own_same ho fun g hgv => hb5.block g (Go.Proofs.Ytjkhfnfimicffaa.own_lt ho hgv) fun e1 => hne (by rw [hgv]; exact e1.symm ▸ rfl)) hbn, ?_⟩
  · have := hf4.set_ 36 v'
    rw [set36 _ hk] at this
    exact this
  · refine ⟨hg.os.trans h3.os, hg.tape.trans h3.tape, hg.output.trans h3.output, ?_, fun i hi hn => hk5 i hi fun hx => hn (.inr ⟨e, he, hx⟩), fun i hi => ?_⟩
    · have := hb5.size; omega
    · rcases own_upd hi with hx | hx
      · rcases mem_blocks.1 hx with rfl | hx
        · exact .inl (show Own h es e.g from own_g he)
        · rcases hbn i hx with h1 | h1
          · exact .inl (.inr ⟨e, he, h1.2⟩)
          · exact .inr h1
      · exact .inl hx
set_option maxRecDepth 100000 in
set_option maxHeartbeats 1000000 in
theorem join_old {w : World} {h : Hd} {es : List E} {p : P} {n : Nat} (P : Pn w h es p n) (k : Ky) (hk : k.Fine) (x : Int) (hx : wfI x) (hn : n + 3 < 1000000) (hw : wh x p.fs = none) {f : Fl} (hf : find k p.fs = some f) :
    Calls Try.prog 8 #[.pointer (some ⟨h.d, 0, none⟩), .agg k.cells.toArray, .int .i64 x] w (ResP h w es (.tuple #[.int .i64 f.id, .bool false, .int .i64 0]) { p with fs := upd f.id (f.who ++ [x]) p.fs } (n + 3)) := by
  have HW : Hid (wfOf p.fs x = none) := Lib.hid (by unfold wfOf; rw [hw]; rfl)
  have HV : Hid (kfOf p.fs k = some f.id) := Lib.hid (by unfold kfOf; rw [hf]; rfl)
  have HWN := Lib.hid (wh_none hw)
  have HFM := Lib.hid (find_some hf)
  have HGJ : Hid (Good { p with fs := upd f.id (f.who ++ [x]) p.fs }) := Lib.hid (by
    have := P.good.join k x
    unfold Py.P.join at this
    rw [hw, hf] at this
    exact this)
  clear hw hf
  have hb1 := boxK w k
  have hx1 := Reg.Ext.alloc w (Obj.cells k.cells.toArray 33)
  have HX := Lib.hid hx1
  have HP := Lib.hid (P.ext hx1)
  have hlw := HP.out.pt.lookW x hx
  have HK := Lib.hid hk
  have HI := Lib.hid hx
  have HN := Lib.hid hn
  have HS : Hid (w.heap.size ≤ w.heap.size) := Lib.hid (Nat.le_refl _)
  obtain ⟨c0, c1, c2, c3, c4⟩ := HP.out.pt.c
  clear P hk hx hn
  rw [HW.out] at hlw
  go_enter Try.func8, Try.ntmps8
  go_upto_region 6 with (fail)
  generalize w.alloc (Obj.cells k.cells.toArray 33) = w1 at *
  generalize hg1 : w.heap.size = g1 at *
  clear hlw
  have HP2 := Lib.hid (HP.out.ext (Reg.Ext.drew w1))
  have HB2 := Lib.hid (hb1.drew)
  have HX2 := Lib.hid (HX.out.trans (Reg.Ext.drew w1))
  clear HP hb1 hx1 HX c0 c1 c2 c3 c4
  obtain ⟨c0, c1, c2, c3, c4⟩ := HP2.out.pt.c
  refine Ordl.begins (S := fun w' => Reg.Ext (w1).drew w') (z := 99) (by kernel_rfl) ?_
  refine Ordl.Bx.out (?_ : Ordl.Bx (Ordl.Any _ _ _ _ _ _ _ _ _ _))
  have X0 : Reg.Ext (w1).drew (w1).drew := Reg.Ext.refl _
  generalize w1.drew = w2 at *
  refine Ordl.take (i := 0) (v := .pointer (some ⟨h.d, 0, none⟩)) rfl (by kernel_rfl) (by kernel_rfl) (by kernel_rfl) (by kernel_rfl) (fun _ _ _ h => h) (.inl ⟨by kernel_rfl, fun w _ => by as_aux_lemma => kernel_rfl⟩) X0 ?_
  simp only [List.getElem_toArray, List.getElem_cons_succ, List.getElem_cons_zero, Act.put, Act.eval, List.setIfInBounds_toArray, List.set_cons_zero, List.set_cons_succ, Nat.reduceAdd, Array.getD_eq_getD_getElem?, List.getElem?_toArray, List.getElem?_cons_succ, List.getElem?_cons_zero, Option.getD_some]
  refine Ordl.take (i := 1) (v := .pointer (some ⟨h.d, 0, none⟩)) rfl (by kernel_rfl) (by kernel_rfl) (by kernel_rfl) (by kernel_rfl) (fun _ _ _ h => h) (.inl ⟨by kernel_rfl, fun w _ => by as_aux_lemma => kernel_rfl⟩) X0 ?_
  simp only [List.getElem_toArray, List.getElem_cons_succ, List.getElem_cons_zero, Act.put, Act.eval, List.setIfInBounds_toArray, List.set_cons_zero, List.set_cons_succ, Nat.reduceAdd, Array.getD_eq_getD_getElem?, List.getElem?_toArray, List.getElem?_cons_succ, List.getElem?_cons_zero, Option.getD_some]
  refine Ordl.take (i := 2) (v := .pointer (some ⟨h.d, 1, none⟩)) rfl (by kernel_rfl) (by kernel_rfl) (by kernel_rfl) (by kernel_rfl) (fun _ _ _ h => h) (.inl ⟨by kernel_rfl, fun w _ => by as_aux_lemma => kernel_rfl⟩) X0 ?_
  simp only [List.getElem_toArray, List.getElem_cons_succ, List.getElem_cons_zero, Act.put, Act.eval, List.setIfInBounds_toArray, List.set_cons_zero, List.set_cons_succ, Nat.reduceAdd, Array.getD_eq_getD_getElem?, List.getElem?_toArray, List.getElem?_cons_succ, List.getElem?_cons_zero, Option.getD_some]
  refine Ordl.take (i := 3) (v := .map (some h.km)) rfl (by kernel_rfl) (by kernel_rfl) (by kernel_rfl) (by kernel_rfl) (fun _ _ _ h => h) (yields_load1 (by kernel_rfl) 60 (.tmp 31) rfl ⟨h.d, 1, none⟩ (by kernel_rfl) (.map (some h.km)) _ Try.underlying60 rfl (fun w h => h.at_ c1)) X0 ?_
  simp only [List.getElem_toArray, List.getElem_cons_succ, List.getElem_cons_zero, Act.put, Act.eval, List.setIfInBounds_toArray, List.set_cons_zero, List.set_cons_succ, Nat.reduceAdd, Array.getD_eq_getD_getElem?, List.getElem?_toArray, List.getElem?_cons_succ, List.getElem?_cons_zero, Option.getD_some]
  refine Ordl.take (i := 4) (v := .agg k.cells.toArray) rfl (by kernel_rfl) (by kernel_rfl) (by kernel_rfl) (by kernel_rfl) (fun _ _ _ h => h) (yieldsIf_load_mid (by kernel_rfl) 33 (.tmp 4) rfl g1 0 (by kernel_rfl) k.cells _ (fun w h => rng_ext (blk_rng HB2.out) h) undK rfl (by rw [k.len HK.out.dig]; exact sizeK)) X0 ?_
  simp only [List.getElem_toArray, List.getElem_cons_succ, List.getElem_cons_zero, Act.put, Act.eval, List.setIfInBounds_toArray, List.set_cons_zero, List.set_cons_succ, Nat.reduceAdd, Array.getD_eq_getD_getElem?, List.getElem?_toArray, List.getElem?_cons_succ, List.getElem?_cons_zero, Option.getD_some]
  refine Ordl.take (i := 5) (v := .tuple #[.int .i64 (f.id), .bool true]) rfl (by kernel_rfl) (by kernel_rfl) (by kernel_rfl) (by kernel_rfl) (fun _ _ _ h => h) (.inl ⟨by kernel_rfl, fun w hS => exec_lookup 60 (.tmp 32) (.tmp 33) true rfl _ _ _ (by kernel_rfl) (by kernel_rfl) (by have := (HP2.out.ext hS).pt.lookK k HK.out; rw [HV.out] at this; exact this)⟩) X0 ?_
  simp only [List.getElem_toArray, List.getElem_cons_succ, List.getElem_cons_zero, Act.put, Act.eval, List.setIfInBounds_toArray, List.set_cons_zero, List.set_cons_succ, Nat.reduceAdd, Array.getD_eq_getD_getElem?, List.getElem?_toArray, List.getElem?_cons_succ, List.getElem?_cons_zero, Option.getD_some]
  refine Ordl.take (i := 6) (v := .tuple #[.int .i64 (f.id), .bool true]) rfl (by kernel_rfl) (by kernel_rfl) (by kernel_rfl) (by kernel_rfl) (fun _ _ _ h => h) (.inl ⟨by kernel_rfl, fun w _ => by as_aux_lemma => kernel_rfl⟩) X0 ?_
  simp only [List.getElem_toArray, List.getElem_cons_succ, List.getElem_cons_zero, Act.put, Act.eval, List.setIfInBounds_toArray, List.set_cons_zero, List.set_cons_succ, Nat.reduceAdd, Array.getD_eq_getD_getElem?, List.getElem?_toArray, List.getElem?_cons_succ, List.getElem?_cons_zero, Option.getD_some]
  refine Ordl.take (i := 7) (v := .int .i64 (f.id)) rfl (by kernel_rfl) (by kernel_rfl) (by kernel_rfl) (by kernel_rfl) (fun _ _ _ h => h) (.inl ⟨by kernel_rfl, fun w _ => by as_aux_lemma => kernel_rfl⟩) X0 ?_
  simp only [List.getElem_toArray, List.getElem_cons_succ, List.getElem_cons_zero, Act.put, Act.eval, List.setIfInBounds_toArray, List.set_cons_zero, List.set_cons_succ, Nat.reduceAdd, Array.getD_eq_getD_getElem?, List.getElem?_toArray, List.getElem?_cons_succ, List.getElem?_cons_zero, Option.getD_some]
  refine Ordl.take (i := 8) (v := .bool true) rfl (by kernel_rfl) (by kernel_rfl) (by kernel_rfl) (by kernel_rfl) (fun _ _ _ h => h) (.inl ⟨by kernel_rfl, fun w _ => by as_aux_lemma => kernel_rfl⟩) X0 ?_
  simp only [List.getElem_toArray, List.getElem_cons_succ, List.getElem_cons_zero, Act.put, Act.eval, List.setIfInBounds_toArray, List.set_cons_zero, List.set_cons_succ, Nat.reduceAdd, Array.getD_eq_getD_getElem?, List.getElem?_toArray, List.getElem?_cons_succ, List.getElem?_cons_zero, Option.getD_some]
  refine Ordl.take (i := 9) (v := .int .i64 (f.id)) rfl (by kernel_rfl) (by kernel_rfl) (by kernel_rfl) (by kernel_rfl) (fun _ _ _ h => h) (.inl ⟨by kernel_rfl, fun w _ => by as_aux_lemma => kernel_rfl⟩) X0 ?_
  simp only [List.getElem_toArray, List.getElem_cons_succ, List.getElem_cons_zero, Act.put, Act.eval, List.setIfInBounds_toArray, List.set_cons_zero, List.set_cons_succ, Nat.reduceAdd, Array.getD_eq_getD_getElem?, List.getElem?_toArray, List.getElem?_cons_succ, List.getElem?_cons_zero, Option.getD_some]
  refine Ordl.take (i := 10) (v := .bool true) rfl (by kernel_rfl) (by kernel_rfl) (by kernel_rfl) (by kernel_rfl) (fun _ _ _ h => h) (.inl ⟨by kernel_rfl, fun w _ => by as_aux_lemma => kernel_rfl⟩) X0 ?_
  simp only [List.getElem_toArray, List.getElem_cons_succ, List.getElem_cons_zero, Act.put, Act.eval, List.setIfInBounds_toArray, List.set_cons_zero, List.set_cons_succ, Nat.reduceAdd, Array.getD_eq_getD_getElem?, List.getElem?_toArray, List.getElem?_cons_succ, List.getElem?_cons_zero, Option.getD_some]
  refine Ordl.done (by kernel_rfl) ?_ _
  obtain ⟨e, he, hef⟩ : ∃ e ∈ es, e.f = f := by
    have := HFM.out.1
    rw [← HP2.out.fs] at this
    exact List.mem_map.1 this
  have HE := Lib.hid he
  have HEF := Lib.hid hef
  have HEI : Hid (wfI e.f.id) := Lib.hid (by
    rw [hef]
    have h1 := HP2.out.good.le f HFM.out.1
    have h2 := HP2.out.last
    have h3 := HN.out
    exact wfI_of (by omega) (by omega))
  have HEK : Hid (e.f.key.dig.length = 32) := Lib.hid (by rw [hef]; exact (HP2.out.fine f HFM.out.1).dig)
  have HLE : Hid (e.f.who.length ≤ 1000000) := Lib.hid (by rw [hef]; have h1 := (HP2.out.len f HFM.out.1).1; have h3 := HN.out; omega)
  have HPT := Lib.hid HP2.out.pt
  have HT2 : Hid (Turn h w es w2 es) := Lib.hid (Turn.ext HX2.out)
  rw [← hef]
  clear he hef c0 c1 c2 c3 c4 X0 HB2
  have hl := HPT.out.lookF e.f.id HEI.out
  rw [get_of HPT.out.up HE.out] at hl
  unfold ptrV at hl
  have y0 := cell36 (HPT.out.file e HE.out) HEK.out
  obtain ⟨c0, c1, c2, c3, c4⟩ := HPT.out.c
  go_upto_region 13 with fail
  have HW3 := Lib.hid (HPT.out.row e HE.out)
  have HF3 := Lib.hid (HPT.out.file e HE.out)
  go_upto_region 14 with (at_builtin; refine wpList_pushI rfl _ _ rfl e.v e.f.who x rfl 0 _ w2.heap.size (own_ext HW3.out (Reg.Ext.alloc _ _)) (Nat.zero_le _) rfl (by simp) HLE.out ?_; intro v' w4 ho4 hg4 hat4; generalize hvl : (e.f.who ++ [x]).length = m4 at ho4; have HVL := Lib.hid hvl; clear hvl; obtain ⟨vA, vc, rfl, -, -⟩ := own_rd ho4; have y4 : w4.cell? ⟨e.g, 36, none⟩ = some e.v := cell36 ((hg4.block e.g ((HF3.out.alloc _).lt) fun e1 => HPT.out.self e HE.out e1.symm).trans (HF3.out.alloc _)) HEK.out; have f4 : w4.frozen? ⟨e.g, 36, none⟩ = false := Blk.frozen (cs := e.f.key.cells ++ [e.v]) ((hg4.block e.g ((HF3.out.alloc _).lt) fun e1 => HPT.out.self e HE.out e1.symm).trans (HF3.out.alloc _)) 36; have HO4 := Lib.hid ho4; have HG4 := Lib.hid hg4; have HAT4 := Lib.hid hat4; clear ho4 hg4 hat4)
  obtain ⟨hp5, ht5⟩ := more_any HPT.out HE.out HEK.out x (Reg.Ext.alloc _ _) (by rw [HVL.out]; exact HO4.out) HG4.out HAT4.out rfl
  have HP5 := Lib.hid hp5
  have HT5 := Lib.hid (HT2.out.trans ht5)
  clear hp5 ht5 HO4 HG4 HAT4 y4 f4 HW3 HF3 c0 c1 c2 c3 c4 hl y0
  generalize w4.setCell ⟨e.g, 36, none⟩ (.slice vA m4 vc) = w5 at *
  obtain ⟨c0, c1, c2, c3, c4⟩ := HP5.out.c
  obtain ⟨D, hm0, hMD⟩ := HP5.out.mw
  have HM := Lib.hid hm0
  have HMD := Lib.hid hMD
  clear hm0 hMD
  go_wp2_with (at_mapUpdate; refine wpList_mapUpdate_own _ rfl _ _ _ 61 rfl 3 3 kun Try.underlying61 (plainElem Try.prog 3) h.wm _ D rfl HM.out (by have := HN.out; unfold maxLen; omega) _ _ _ rfl rfl (keyI x HI.out) _ [] (plainElem_int Try.underlying3 HEI.out) ?_; intro w8 hm8 hg8)
  refine bodyPost_ret (results_tmp3 rfl _ _ _) rfl ?_
  have hp8 := HP5.out.setW (Nat.le_succ _) hm8 (HMD.out.put (HM.out.tidy kun) x e.f.id) hg8
  have ht8 := HT5.out.trans (Turn.but (b := h.wm) hg8 own_wm)
  refine ⟨by rw [← HEF.out]; rfl, _, ?_, ht8⟩
  have hgj : Good { p with fs := upd e.f.id (e.f.who ++ [x]) p.fs } := by rw [HEF.out]; exact HGJ.out
  rw [← HEF.out]
  refine HP2.out.upd_ HE.out (by omega) hgj ?_ (fun y hy => ?_) ?_
  · have := (HP2.out.len e.f (HP2.out.mem HE.out)).1
    rw [List.length_append]; simp; omega
  · rcases List.mem_append.1 hy with hy | hy
    · exact (HP2.out.len e.f (HP2.out.mem HE.out)).2 y hy
    · rw [List.mem_singleton.1 hy]; exact HI.out
  · rw [wf_add HP2.out.good (HP2.out.mem HE.out) HWN.out hgj]
    exact hp8.more (by omega)
set_option maxRecDepth 100000 in
set_option maxHeartbeats 1000000 in
theorem join_full {w : World} {h : Hd} {es : List E} {p : P} {n : Nat} (P : Pn w h es p n) (k : Ky) (hk : k.Fine) (x : Int) (hx : wfI x) (hn : n + 3 < 1000000) (hw : wh x p.fs = none) (hf : find k p.fs = none) (hm : (p.fs.length : Int) ≥ p.most) :
    Calls Try.prog 8 #[.pointer (some ⟨h.d, 0, none⟩), .agg k.cells.toArray, .int .i64 x] w (ResP h w es (.tuple #[.int .i64 0, .bool false, .int .i64 6]) p (n + 3)) := by
  have HW : Hid (wfOf p.fs x = none) := Lib.hid (by unfold wfOf; rw [hw]; rfl)
  have HV : Hid (kfOf p.fs k = none) := Lib.hid (by unfold kfOf; rw [hf]; rfl)
  have HM0 : Hid ((es.length : Int) ≥ p.most) := Lib.hid (by rw [P.length]; exact hm)
  clear hw hf hm
  have hb1 := boxK w k
  have hx1 := Reg.Ext.alloc w (Obj.cells k.cells.toArray 33)
  have HX := Lib.hid hx1
  have HP := Lib.hid (P.ext hx1)
  have hlw := HP.out.pt.lookW x hx
  have HK := Lib.hid hk
  have HI := Lib.hid hx
  have HN := Lib.hid hn
  have HS : Hid (w.heap.size ≤ w.heap.size) := Lib.hid (Nat.le_refl _)
  obtain ⟨c0, c1, c2, c3, c4⟩ := HP.out.pt.c
  clear P hk hx hn
  rw [HW.out] at hlw
  go_enter Try.func8, Try.ntmps8
  go_upto_region 6 with (fail)
  generalize w.alloc (Obj.cells k.cells.toArray 33) = w1 at *
  generalize hg1 : w.heap.size = g1 at *
  clear hlw
  have HP2 := Lib.hid (HP.out.ext (Reg.Ext.drew w1))
  have HB2 := Lib.hid (hb1.drew)
  have HX2 := Lib.hid (HX.out.trans (Reg.Ext.drew w1))
  clear HP hb1 hx1 HX c0 c1 c2 c3 c4
  obtain ⟨c0, c1, c2, c3, c4⟩ := HP2.out.pt.c
  refine Ordl.begins (S := fun w' => Reg.Ext (w1).drew w') (z := 99) (by kernel_rfl) ?_
  refine Ordl.Bx.out (?_ : Ordl.Bx (Ordl.Any _ _ _ _ _ _ _ _ _ _))
  have X0 : Reg.Ext (w1).drew (w1).drew := Reg.Ext.refl _
  generalize w1.drew = w2 at *
  refine Ordl.take (i := 0) (v := .pointer (some ⟨h.d, 0, none⟩)) rfl (by kernel_rfl) (by kernel_rfl) (by kernel_rfl) (by kernel_rfl) (fun _ _ _ h => h) (.inl ⟨by kernel_rfl, fun w _ => by as_aux_lemma => kernel_rfl⟩) X0 ?_
  simp only [List.getElem_toArray, List.getElem_cons_succ, List.getElem_cons_zero, Act.put, Act.eval, List.setIfInBounds_toArray, List.set_cons_zero, List.set_cons_succ, Nat.reduceAdd, Array.getD_eq_getD_getElem?, List.getElem?_toArray, List.getElem?_cons_succ, List.getElem?_cons_zero, Option.getD_some]
  refine Ordl.take (i := 1) (v := .pointer (some ⟨h.d, 0, none⟩)) rfl (by kernel_rfl) (by kernel_rfl) (by kernel_rfl) (by kernel_rfl) (fun _ _ _ h => h) (.inl ⟨by kernel_rfl, fun w _ => by as_aux_lemma => kernel_rfl⟩) X0 ?_
  simp only [List.getElem_toArray, List.getElem_cons_succ, List.getElem_cons_zero, Act.put, Act.eval, List.setIfInBounds_toArray, List.set_cons_zero, List.set_cons_succ, Nat.reduceAdd, Array.getD_eq_getD_getElem?, List.getElem?_toArray, List.getElem?_cons_succ, List.getElem?_cons_zero, Option.getD_some]
  refine Ordl.take (i := 2) (v := .pointer (some ⟨h.d, 1, none⟩)) rfl (by kernel_rfl) (by kernel_rfl) (by kernel_rfl) (by kernel_rfl) (fun _ _ _ h => h) (.inl ⟨by kernel_rfl, fun w _ => by as_aux_lemma => kernel_rfl⟩) X0 ?_
  simp only [List.getElem_toArray, List.getElem_cons_succ, List.getElem_cons_zero, Act.put, Act.eval, List.setIfInBounds_toArray, List.set_cons_zero, List.set_cons_succ, Nat.reduceAdd, Array.getD_eq_getD_getElem?, List.getElem?_toArray, List.getElem?_cons_succ, List.getElem?_cons_zero, Option.getD_some]
  refine Ordl.take (i := 3) (v := .map (some h.km)) rfl (by kernel_rfl) (by kernel_rfl) (by kernel_rfl) (by kernel_rfl) (fun _ _ _ h => h) (yields_load1 (by kernel_rfl) 60 (.tmp 31) rfl ⟨h.d, 1, none⟩ (by kernel_rfl) (.map (some h.km)) _ Try.underlying60 rfl (fun w h => h.at_ c1)) X0 ?_
  simp only [List.getElem_toArray, List.getElem_cons_succ, List.getElem_cons_zero, Act.put, Act.eval, List.setIfInBounds_toArray, List.set_cons_zero, List.set_cons_succ, Nat.reduceAdd, Array.getD_eq_getD_getElem?, List.getElem?_toArray, List.getElem?_cons_succ, List.getElem?_cons_zero, Option.getD_some]
  refine Ordl.take (i := 4) (v := .agg k.cells.toArray) rfl (by kernel_rfl) (by kernel_rfl) (by kernel_rfl) (by kernel_rfl) (fun _ _ _ h => h) (yieldsIf_load_mid (by kernel_rfl) 33 (.tmp 4) rfl g1 0 (by kernel_rfl) k.cells _ (fun w h => rng_ext (blk_rng HB2.out) h) undK rfl (by rw [k.len HK.out.dig]; exact sizeK)) X0 ?_
  simp only [List.getElem_toArray, List.getElem_cons_succ, List.getElem_cons_zero, Act.put, Act.eval, List.setIfInBounds_toArray, List.set_cons_zero, List.set_cons_succ, Nat.reduceAdd, Array.getD_eq_getD_getElem?, List.getElem?_toArray, List.getElem?_cons_succ, List.getElem?_cons_zero, Option.getD_some]
  refine Ordl.take (i := 5) (v := .tuple #[.int .i64 (0), .bool false]) rfl (by kernel_rfl) (by kernel_rfl) (by kernel_rfl) (by kernel_rfl) (fun _ _ _ h => h) (.inl ⟨by kernel_rfl, fun w hS => exec_lookup 60 (.tmp 32) (.tmp 33) true rfl _ _ _ (by kernel_rfl) (by kernel_rfl) (by have := (HP2.out.ext hS).pt.lookK k HK.out; rw [HV.out] at this; exact this)⟩) X0 ?_
  simp only [List.getElem_toArray, List.getElem_cons_succ, List.getElem_cons_zero, Act.put, Act.eval, List.setIfInBounds_toArray, List.set_cons_zero, List.set_cons_succ, Nat.reduceAdd, Array.getD_eq_getD_getElem?, List.getElem?_toArray, List.getElem?_cons_succ, List.getElem?_cons_zero, Option.getD_some]
  refine Ordl.take (i := 6) (v := .tuple #[.int .i64 (0), .bool false]) rfl (by kernel_rfl) (by kernel_rfl) (by kernel_rfl) (by kernel_rfl) (fun _ _ _ h => h) (.inl ⟨by kernel_rfl, fun w _ => by as_aux_lemma => kernel_rfl⟩) X0 ?_
  simp only [List.getElem_toArray, List.getElem_cons_succ, List.getElem_cons_zero, Act.put, Act.eval, List.setIfInBounds_toArray, List.set_cons_zero, List.set_cons_succ, Nat.reduceAdd, Array.getD_eq_getD_getElem?, List.getElem?_toArray, List.getElem?_cons_succ, List.getElem?_cons_zero, Option.getD_some]
  refine Ordl.take (i := 7) (v := .int .i64 (0)) rfl (by kernel_rfl) (by kernel_rfl) (by kernel_rfl) (by kernel_rfl) (fun _ _ _ h => h) (.inl ⟨by kernel_rfl, fun w _ => by as_aux_lemma => kernel_rfl⟩) X0 ?_
  simp only [List.getElem_toArray, List.getElem_cons_succ, List.getElem_cons_zero, Act.put, Act.eval, List.setIfInBounds_toArray, List.set_cons_zero, List.set_cons_succ, Nat.reduceAdd, Array.getD_eq_getD_getElem?, List.getElem?_toArray, List.getElem?_cons_succ, List.getElem?_cons_zero, Option.getD_some]
  refine Ordl.take (i := 8) (v := .bool false) rfl (by kernel_rfl) (by kernel_rfl) (by kernel_rfl) (by kernel_rfl) (fun _ _ _ h => h) (.inl ⟨by kernel_rfl, fun w _ => by as_aux_lemma => kernel_rfl⟩) X0 ?_
  simp only [List.getElem_toArray, List.getElem_cons_succ, List.getElem_cons_zero, Act.put, Act.eval, List.setIfInBounds_toArray, List.set_cons_zero, List.set_cons_succ, Nat.reduceAdd, Array.getD_eq_getD_getElem?, List.getElem?_toArray, List.getElem?_cons_succ, List.getElem?_cons_zero, Option.getD_some]
  refine Ordl.take (i := 9) (v := .int .i64 (0)) rfl (by kernel_rfl) (by kernel_rfl) (by kernel_rfl) (by kernel_rfl) (fun _ _ _ h => h) (.inl ⟨by kernel_rfl, fun w _ => by as_aux_lemma => kernel_rfl⟩) X0 ?_
  simp only [List.getElem_toArray, List.getElem_cons_succ, List.getElem_cons_zero, Act.put, Act.eval, List.setIfInBounds_toArray, List.set_cons_zero, List.set_cons_succ, Nat.reduceAdd, Array.getD_eq_getD_getElem?, List.getElem?_toArray, List.getElem?_cons_succ, List.getElem?_cons_zero, Option.getD_some]
  refine Ordl.take (i := 10) (v := .bool false) rfl (by kernel_rfl) (by kernel_rfl) (by kernel_rfl) (by kernel_rfl) (fun _ _ _ h => h) (.inl ⟨by kernel_rfl, fun w _ => by as_aux_lemma => kernel_rfl⟩) X0 ?_
  simp only [List.getElem_toArray, List.getElem_cons_succ, List.getElem_cons_zero, Act.put, Act.eval, List.setIfInBounds_toArray, List.set_cons_zero, List.set_cons_succ, Nat.reduceAdd, Array.getD_eq_getD_getElem?, List.getElem?_toArray, List.getElem?_cons_succ, List.getElem?_cons_zero, Option.getD_some]
  refine Ordl.done (by kernel_rfl) ?_ _
  have HBG := Lib.hid (begin_any HP2.out.pt k HK.out ⟨HP2.out.good.last, by have := HP2.out.last; have := HN.out; omega⟩ HP2.out.ids (by have := HN.out; unfold maxLen; omega) (by have h1 := HP2.out.length; have h2 := HP2.out.good.most; have h3 := HP2.out.cnt; have := HN.out; omega))
  clear c0 c1 c2 c3 c4 X0
  go_upto_region 8 with (fail)
  refine wp_region_lit ?_
  iterate 3 go_step
  refine wpList_ldm rfl 33 (.tmp 4) rfl g1 0 rfl k.cells _ (Lib.hid (blk_rng HB2.out)) undK (by rw [k.len HK.out.dig]; exact sizeK) ?_
  simp only [Act.put, Act.eval, List.setIfInBounds_toArray, List.set_cons_zero, List.set_cons_succ, Nat.reduceAdd, Array.getD_eq_getD_getElem?, List.getElem?_toArray, List.getElem?_cons_succ, List.getElem?_cons_zero, Option.getD_some]
  go_wp2_with (go_at_call 24; refine (HBG.out).mono ?_; rintro e w3 hR; rcases hR with ⟨-, rfl, hx3⟩ | ⟨hm', -⟩; rotate_left; exact absurd HM0.out hm'; have HX3 := Lib.hid (HX2.out.trans hx3); have HP3 := Lib.hid (HP2.out.ext hx3); clear hx3)
  refine bodyPost_ret (results_tmp3 rfl _ _ _) rfl ?_
  exact ⟨rfl, es, HP3.out.more (by omega), Turn.ext HX3.out⟩
theorem upd_app {fs : List Fl} {i : Int} {k : Ky} {w : List Int} (h : ∀ f ∈ fs, f.id ≠ i) : upd i w (fs ++ [⟨i, k, []⟩]) = fs ++ [⟨i, k, w⟩] := by
  have e1 := upd_none (w := w) h
  unfold upd at e1 ⊢
  rw [List.map_append, e1]
  simp
set_option maxRecDepth 100000 in
set_option maxHeartbeats 1000000 in
theorem join_new {w : World} {h : Hd} {es : List E} {p : P} {n : Nat} (P : Pn w h es p n) (k : Ky) (hk : k.Fine) (x : Int) (hx : wfI x) (hn : n + 3 < 1000000) (hw : wh x p.fs = none) (hf : find k p.fs = none) (hm : ¬ (p.fs.length : Int) ≥ p.most) :
    Calls Try.prog 8 #[.pointer (some ⟨h.d, 0, none⟩), .agg k.cells.toArray, .int .i64 x] w (ResP h w es (.tuple #[.int .i64 (p.last + 1), .bool true, .int .i64 0]) { p with fs := p.fs ++ [⟨p.last + 1, k, [x]⟩], last := p.last + 1 } (n + 3)) := by
  have HW : Hid (wfOf p.fs x = none) := Lib.hid (by unfold wfOf; rw [hw]; rfl)
  have HV : Hid (kfOf p.fs k = none) := Lib.hid (by unfold kfOf; rw [hf]; rfl)
  have HM0 : Hid (¬ (es.length : Int) ≥ p.most) := Lib.hid (by rw [P.length]; exact hm)
  have HWN := Lib.hid (wh_none hw)
  have HFN := Lib.hid (find_none hf)
  have HGJ : Hid (Good { p with fs := p.fs ++ [⟨p.last + 1, k, [x]⟩], last := p.last + 1 }) := Lib.hid (by
    have := P.good.join k x
    unfold Py.P.join at this
    rw [hw, hf] at this
    dsimp only at this
    rw [if_neg hm] at this
    exact this)
  clear hw hf hm
  have hb1 := boxK w k
  have hx1 := Reg.Ext.alloc w (Obj.cells k.cells.toArray 33)
  have HX := Lib.hid hx1
  have HP := Lib.hid (P.ext hx1)
  have hlw := HP.out.pt.lookW x hx
  have HK := Lib.hid hk
  have HI := Lib.hid hx
  have HN := Lib.hid hn
  have HS : Hid (w.heap.size ≤ w.heap.size) := Lib.hid (Nat.le_refl _)
  obtain ⟨c0, c1, c2, c3, c4⟩ := HP.out.pt.c
  clear P hk hx hn
  rw [HW.out] at hlw
  go_enter Try.func8, Try.ntmps8
  go_upto_region 6 with (fail)
  generalize w.alloc (Obj.cells k.cells.toArray 33) = w1 at *
  generalize hg1 : w.heap.size = g1 at *
  clear hlw
  have HP2 := Lib.hid (HP.out.ext (Reg.Ext.drew w1))
  have HB2 := Lib.hid (hb1.drew)
  have HX2 := Lib.hid (HX.out.trans (Reg.Ext.drew w1))
  clear HP hb1 hx1 HX c0 c1 c2 c3 c4
  obtain ⟨c0, c1, c2, c3, c4⟩ := HP2.out.pt.c
  refine Ordl.begins (S := fun w' => Reg.Ext (w1).drew w') (z := 99) (by kernel_rfl) ?_
  refine Ordl.Bx.out (?_ : Ordl.Bx (Ordl.Any _ _ _ _ _ _ _ _ _ _))
  have X0 : Reg.Ext (w1).drew (w1).drew := Reg.Ext.refl _
  generalize w1.drew = w2 at *
  refine Ordl.take (i := 0) (v := .pointer (some ⟨h.d, 0, none⟩)) rfl (by kernel_rfl) (by kernel_rfl) (by kernel_rfl) (by kernel_rfl) (fun _ _ _ h => h) (.inl ⟨by kernel_rfl, fun w _ => by as_aux_lemma => kernel_rfl⟩) X0 ?_
  simp only [List.getElem_toArray, List.getElem_cons_succ, List.getElem_cons_zero, Act.put, Act.eval, List.setIfInBounds_toArray, List.set_cons_zero, List.set_cons_succ, Nat.reduceAdd, Array.getD_eq_getD_getElem?, List.getElem?_toArray, List.getElem?_cons_succ, List.getElem?_cons_zero, Option.getD_some]
  refine Ordl.take (i := 1) (v := .pointer (some ⟨h.d, 0, none⟩)) rfl (by kernel_rfl) (by kernel_rfl) (by kernel_rfl) (by kernel_rfl) (fun _ _ _ h => h) (.inl ⟨by kernel_rfl, fun w _ => by as_aux_lemma => kernel_rfl⟩) X0 ?_
  simp only [List.getElem_toArray, List.getElem_cons_succ, List.getElem_cons_zero, Act.put, Act.eval, List.setIfInBounds_toArray, List.set_cons_zero, List.set_cons_succ, Nat.reduceAdd, Array.getD_eq_getD_getElem?, List.getElem?_toArray, List.getElem?_cons_succ, List.getElem?_cons_zero, Option.getD_some]
  refine Ordl.take (i := 2) (v := .pointer (some ⟨h.d, 1, none⟩)) rfl (by kernel_rfl) (by kernel_rfl) (by kernel_rfl) (by kernel_rfl) (fun _ _ _ h => h) (.inl ⟨by kernel_rfl, fun w _ => by as_aux_lemma => kernel_rfl⟩) X0 ?_
  simp only [List.getElem_toArray, List.getElem_cons_succ, List.getElem_cons_zero, Act.put, Act.eval, List.setIfInBounds_toArray, List.set_cons_zero, List.set_cons_succ, Nat.reduceAdd, Array.getD_eq_getD_getElem?, List.getElem?_toArray, List.getElem?_cons_succ, List.getElem?_cons_zero, Option.getD_some]
  refine Ordl.take (i := 3) (v := .map (some h.km)) rfl (by kernel_rfl) (by kernel_rfl) (by kernel_rfl) (by kernel_rfl) (fun _ _ _ h => h) (yields_load1 (by kernel_rfl) 60 (.tmp 31) rfl ⟨h.d, 1, none⟩ (by kernel_rfl) (.map (some h.km)) _ Try.underlying60 rfl (fun w h => h.at_ c1)) X0 ?_
  simp only [List.getElem_toArray, List.getElem_cons_succ, List.getElem_cons_zero, Act.put, Act.eval, List.setIfInBounds_toArray, List.set_cons_zero, List.set_cons_succ, Nat.reduceAdd, Array.getD_eq_getD_getElem?, List.getElem?_toArray, List.getElem?_cons_succ, List.getElem?_cons_zero, Option.getD_some]
  refine Ordl.take (i := 4) (v := .agg k.cells.toArray) rfl (by kernel_rfl) (by kernel_rfl) (by kernel_rfl) (by kernel_rfl) (fun _ _ _ h => h) (yieldsIf_load_mid (by kernel_rfl) 33 (.tmp 4) rfl g1 0 (by kernel_rfl) k.cells _ (fun w h => rng_ext (blk_rng HB2.out) h) undK rfl (by rw [k.len HK.out.dig]; exact sizeK)) X0 ?_
  simp only [List.getElem_toArray, List.getElem_cons_succ, List.getElem_cons_zero, Act.put, Act.eval, List.setIfInBounds_toArray, List.set_cons_zero, List.set_cons_succ, Nat.reduceAdd, Array.getD_eq_getD_getElem?, List.getElem?_toArray, List.getElem?_cons_succ, List.getElem?_cons_zero, Option.getD_some]
  refine Ordl.take (i := 5) (v := .tuple #[.int .i64 (0), .bool false]) rfl (by kernel_rfl) (by kernel_rfl) (by kernel_rfl) (by kernel_rfl) (fun _ _ _ h => h) (.inl ⟨by kernel_rfl, fun w hS => exec_lookup 60 (.tmp 32) (.tmp 33) true rfl _ _ _ (by kernel_rfl) (by kernel_rfl) (by have := (HP2.out.ext hS).pt.lookK k HK.out; rw [HV.out] at this; exact this)⟩) X0 ?_
  simp only [List.getElem_toArray, List.getElem_cons_succ, List.getElem_cons_zero, Act.put, Act.eval, List.setIfInBounds_toArray, List.set_cons_zero, List.set_cons_succ, Nat.reduceAdd, Array.getD_eq_getD_getElem?, List.getElem?_toArray, List.getElem?_cons_succ, List.getElem?_cons_zero, Option.getD_some]
  refine Ordl.take (i := 6) (v := .tuple #[.int .i64 (0), .bool false]) rfl (by kernel_rfl) (by kernel_rfl) (by kernel_rfl) (by kernel_rfl) (fun _ _ _ h => h) (.inl ⟨by kernel_rfl, fun w _ => by as_aux_lemma => kernel_rfl⟩) X0 ?_
  simp only [List.getElem_toArray, List.getElem_cons_succ, List.getElem_cons_zero, Act.put, Act.eval, List.setIfInBounds_toArray, List.set_cons_zero, List.set_cons_succ, Nat.reduceAdd, Array.getD_eq_getD_getElem?, List.getElem?_toArray, List.getElem?_cons_succ, List.getElem?_cons_zero, Option.getD_some]
  refine Ordl.take (i := 7) (v := .int .i64 (0)) rfl (by kernel_rfl) (by kernel_rfl) (by kernel_rfl) (by kernel_rfl) (fun _ _ _ h => h) (.inl ⟨by kernel_rfl, fun w _ => by as_aux_lemma => kernel_rfl⟩) X0 ?_
  simp only [List.getElem_toArray, List.getElem_cons_succ, List.getElem_cons_zero, Act.put, Act.eval, List.setIfInBounds_toArray, List.set_cons_zero, List.set_cons_succ, Nat.reduceAdd, Array.getD_eq_getD_getElem?, List.getElem?_toArray, List.getElem?_cons_succ, List.getElem?_cons_zero, Option.getD_some]
  refine Ordl.take (i := 8) (v := .bool false) rfl (by kernel_rfl) (by kernel_rfl) (by kernel_rfl) (by kernel_rfl) (fun _ _ _ h => h) (.inl ⟨by kernel_rfl, fun w _ => by as_aux_lemma => kernel_rfl⟩) X0 ?_
  simp only [List.getElem_toArray, List.getElem_cons_succ, List.getElem_cons_zero, Act.put, Act.eval, List.setIfInBounds_toArray, List.set_cons_zero, List.set_cons_succ, Nat.reduceAdd, Array.getD_eq_getD_getElem?, List.getElem?_toArray, List.getElem?_cons_succ, List.getElem?_cons_zero, Option.getD_some]
  refine Ordl.take (i := 9) (v := .int .i64 (0)) rfl (by kernel_rfl) (by kernel_rfl) (by kernel_rfl) (by kernel_rfl) (fun _ _ _ h => h) (.inl ⟨by kernel_rfl, fun w _ => by as_aux_lemma => kernel_rfl⟩) X0 ?_
  simp only [List.getElem_toArray, List.getElem_cons_succ, List.getElem_cons_zero, Act.put, Act.eval, List.setIfInBounds_toArray, List.set_cons_zero, List.set_cons_succ, Nat.reduceAdd, Array.getD_eq_getD_getElem?, List.getElem?_toArray, List.getElem?_cons_succ, List.getElem?_cons_zero, Option.getD_some]
  refine Ordl.take (i := 10) (v := .bool false) rfl (by kernel_rfl) (by kernel_rfl) (by kernel_rfl) (by kernel_rfl) (fun _ _ _ h => h) (.inl ⟨by kernel_rfl, fun w _ => by as_aux_lemma => kernel_rfl⟩) X0 ?_
  simp only [List.getElem_toArray, List.getElem_cons_succ, List.getElem_cons_zero, Act.put, Act.eval, List.setIfInBounds_toArray, List.set_cons_zero, List.set_cons_succ, Nat.reduceAdd, Array.getD_eq_getD_getElem?, List.getElem?_toArray, List.getElem?_cons_succ, List.getElem?_cons_zero, Option.getD_some]
  refine Ordl.done (by kernel_rfl) ?_ _
  have HBG := Lib.hid (begin_any HP2.out.pt k HK.out ⟨HP2.out.good.last, by have := HP2.out.last; have := HN.out; omega⟩ HP2.out.ids (by have := HN.out; unfold maxLen; omega) (by have h1 := HP2.out.length; have h2 := HP2.out.good.most; have h3 := HP2.out.cnt; have := HN.out; omega))
  clear c0 c1 c2 c3 c4 X0
  go_upto_region 8 with (fail)
  refine wp_region_lit ?_
  iterate 3 go_step
  refine wpList_ldm rfl 33 (.tmp 4) rfl g1 0 rfl k.cells _ (Lib.hid (blk_rng HB2.out)) undK (by rw [k.len HK.out.dig]; exact sizeK) ?_
  simp only [Act.put, Act.eval, List.setIfInBounds_toArray, List.set_cons_zero, List.set_cons_succ, Nat.reduceAdd, Array.getD_eq_getD_getElem?, List.getElem?_toArray, List.getElem?_cons_succ, List.getElem?_cons_zero, Option.getD_some]
  go_upto_region 12 with (go_at_call 24; refine (HBG.out).mono ?_; rintro e0 w3 hR; rcases hR with ⟨hm', -⟩ | ⟨-, rfl, g, hgw, hpt, htn⟩; exact absurd hm' HM0.out; obtain ⟨e, hE⟩ : ∃ e : E, (⟨⟨p.last + 1, k, []⟩, g, .slice none 0 0⟩ : E) = e := ⟨_, rfl⟩; rw [hE] at hpt htn; have hEi : p.last + 1 = e.f.id := (by rw [← hE]); have HED := Lib.hid hE; have HPT := Lib.hid hpt; have HT2 := Lib.hid ((Turn.ext HX2.out).trans htn); rw [hEi]; have HEi := Lib.hid hEi; clear hpt htn hE hgw hEi)
  have HE : Hid (e ∈ es ++ [e]) := Lib.hid (List.mem_append.2 (.inr (List.mem_singleton.2 rfl)))
  have HEI : Hid (wfI e.f.id) := Lib.hid (by
    rw [← HEi.out]
    have h1 := HP2.out.good.last
    have h2 := HP2.out.last
    have h3 := HN.out
    exact wfI_of (by omega) (by omega))
  have HEK : Hid (e.f.key.dig.length = 32) := Lib.hid (by rw [← HED.out]; exact HK.out.dig)
  have HLE : Hid (e.f.who.length ≤ 1000000) := Lib.hid (by rw [← HED.out]; exact Nat.zero_le _)
  clear HBG HB2
  have hl := HPT.out.lookF e.f.id HEI.out
  rw [get_of HPT.out.up HE.out] at hl
  unfold ptrV at hl
  have y0 := cell36 (HPT.out.file e HE.out) HEK.out
  obtain ⟨c0, c1, c2, c3, c4⟩ := HPT.out.c
  go_upto_region 13 with fail
  have HW3 := Lib.hid (HPT.out.row e HE.out)
  have HF3 := Lib.hid (HPT.out.file e HE.out)
  go_upto_region 14 with (at_builtin; refine wpList_pushI rfl _ _ rfl e.v e.f.who x rfl 0 _ w3.heap.size (own_ext HW3.out (Reg.Ext.alloc _ _)) (Nat.zero_le _) rfl (by simp) HLE.out ?_; intro v' w4 ho4 hg4 hat4; generalize hvl : (e.f.who ++ [x]).length = m4 at ho4; have HVL := Lib.hid hvl; clear hvl; obtain ⟨vA, vc, rfl, -, -⟩ := own_rd ho4; have y4 : w4.cell? ⟨e.g, 36, none⟩ = some e.v := cell36 ((hg4.block e.g ((HF3.out.alloc _).lt) fun e1 => HPT.out.self e HE.out e1.symm).trans (HF3.out.alloc _)) HEK.out; have f4 : w4.frozen? ⟨e.g, 36, none⟩ = false := Blk.frozen (cs := e.f.key.cells ++ [e.v]) ((hg4.block e.g ((HF3.out.alloc _).lt) fun e1 => HPT.out.self e HE.out e1.symm).trans (HF3.out.alloc _)) 36; have HO4 := Lib.hid ho4; have HG4 := Lib.hid hg4; have HAT4 := Lib.hid hat4; clear ho4 hg4 hat4)
  obtain ⟨hp5, ht5⟩ := more_any HPT.out HE.out HEK.out x (Reg.Ext.alloc _ _) (by rw [HVL.out]; exact HO4.out) HG4.out HAT4.out rfl
  have HP5 := Lib.hid hp5
  have HT5 := Lib.hid (HT2.out.trans ht5)
  clear hp5 ht5 HO4 HG4 HAT4 y4 f4 HW3 HF3 c0 c1 c2 c3 c4 hl y0
  generalize w4.setCell ⟨e.g, 36, none⟩ (.slice vA m4 vc) = w5 at *
  obtain ⟨c0, c1, c2, c3, c4⟩ := HP5.out.c
  obtain ⟨D, hm0, hMD⟩ := HP5.out.mw
  have HM := Lib.hid hm0
  have HMD := Lib.hid hMD
  clear hm0 hMD
  go_wp2_with (at_mapUpdate; refine wpList_mapUpdate_own _ rfl _ _ _ 61 rfl 3 3 kun Try.underlying61 (plainElem Try.prog 3) h.wm _ D rfl HM.out (by have := HN.out; unfold maxLen; omega) _ _ _ rfl rfl (keyI x HI.out) _ [] (plainElem_int Try.underlying3 HEI.out) ?_; intro w8 hm8 hg8)
  refine bodyPost_ret (results_tmp3 rfl _ _ _) rfl ?_
  have hp8 := HP5.out.setW (Nat.le_succ _) hm8 (HMD.out.put (HM.out.tidy kun) x e.f.id) hg8
  have ht8 := HT5.out.trans (Turn.but (b := h.wm) hg8 own_wm)
  refine ⟨by rw [HEi.out]; rfl, _, ?_, ht8⟩
  have hids : ∀ f ∈ p.fs, f.id ≠ p.last + 1 := fun f hf => by have := (HP2.out.good.le f hf).2; omega
  have hfs : (updE ⟨{ e.f with who := e.f.who ++ [x] }, e.g, .slice vA m4 vc⟩ (es ++ [e])).map E.f = p.fs ++ [⟨p.last + 1, k, [x]⟩] := by
    rw [map_updE HPT.out.up HE.out, List.map_append, show es.map E.f = p.fs from HP2.out.fs]
    have : e.f = ⟨p.last + 1, k, []⟩ := by rw [← HED.out]
    rw [List.map_cons, List.map_nil, this]
    exact upd_app hids
  refine ⟨?_, hfs, HGJ.out, fun f hf => ?_, ?_, fun f hf => ?_, ?_⟩
  · have e1 : (fun y => if y = x then some e.f.id else wfOf p.fs y) = (fun y => if y = x then some (p.last + 1) else wfOf p.fs y) := by rw [HEi.out]
    show Pt w8 h _ (kfOf (p.fs ++ [⟨p.last + 1, k, [x]⟩])) (wfOf (p.fs ++ [⟨p.last + 1, k, [x]⟩])) p.most (p.last + 1) (n + 3)
    rw [kf_app HP2.out.good HFN.out, wf_app HP2.out.good HWN.out, ← e1]
    exact hp8.more (Nat.le_refl _)
  · rcases List.mem_append.1 hf with hf | hf
    · exact HP2.out.fine f hf
    · rw [List.mem_singleton.1 hf]; exact HK.out
  · have := HP2.out.last; show p.last + 1 ≤ ((n + 3 : Nat) : Int); omega
  · rcases List.mem_append.1 hf with hf | hf
    · exact ⟨by have := (HP2.out.len f hf).1; omega, (HP2.out.len f hf).2⟩
    · rw [List.mem_singleton.1 hf]
      exact ⟨by show 1 ≤ n + 3; omega, fun y hy => by rw [List.mem_singleton.1 hy]; exact HI.out⟩
  · have := HP2.out.cnt
    show (p.fs ++ [_]).length ≤ n + 3
    rw [List.length_append]; simp; omega
/-- Join, whatever comes -/
theorem join_any {w : World} {h : Hd} {es : List E} {p : P} {n : Nat} (P : Pn w h es p n) (k : Ky) (hk : k.Fine) (x : Int) (hx : wfI x) (hn : n + 3 < 1000000) :
    Calls Try.prog 8 #[.pointer (some ⟨h.d, 0, none⟩), .agg k.cells.toArray, .int .i64 x] w (ResP h w es (.tuple #[.int .i64 (p.join k x).1.1, .bool (p.join k x).1.2.1, .int .i64 (p.join k x).1.2.2]) (p.join k x).2 (n + 3)) := by
  unfold Py.P.join
  cases hw : wh x p.fs with
  | some f => exact join_two P k hk x hx hn hw
  | none =>
    cases hf : find k p.fs with
    | some f => exact join_old P k hk x hx hn hw hf
    | none =>
      dsimp only
      by_cases hm : (p.fs.length : Int) ≥ p.most
      · rw [if_pos hm]; exact join_full P k hk x hx hn hw hf hm
      · rw [if_neg hm]; exact join_new P k hk x hx hn hw hf hm
end Py
end Go.Proofs.Ytjkhfnfimicffaa

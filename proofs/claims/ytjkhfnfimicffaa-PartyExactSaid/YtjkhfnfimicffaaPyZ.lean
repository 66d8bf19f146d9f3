/- Both parties side by side. -/
import Derived.Test.YtjkhfnfimicffaaPyJ
import Derived.Test.YtjkhfnfimicffaaPyO
import Derived.Test.YtjkhfnfimicffaaPyQ
import Derived.Test.YtjkhfnfimicffaaPyY
set_option linter.unusedSimpArgs false
set_option linter.unusedVariables false
set_option linter.unusedSectionVars false
namespace Go.Proofs.Ytjkhfnfimicffaa
open Go Go.RowKit
namespace Py
structure Du (W w : World) (h : Hd) (es : List E) (b : Nat) (v : Value) (ds : List D) (p q : P) (n : Nat) : Prop where
  lw : Lw W w h es p n
  rd : RD w b v ds q
  apart : ∀ i, RO b v ds i → ¬ Own h es i
  new : ∀ i, RO b v ds i → W.heap.size ≤ i
/-- a block that neither owns -/
structure Bq (w : World) (h : Hd) (es : List E) (b : Nat) (v : Value) (ds : List D) (g : Nat) (T : TypeId) (cs : List Value) : Prop where
  blk : Blk w g T cs
  out : ¬ Own h es g
  off : ¬ RO b v ds g
structure DuB (W w : World) (h : Hd) (es : List E) (b : Nat) (v : Value) (ds : List D) (p q : P) (n : Nat) (g : Nat) (T : TypeId) (cs : List Value) : Prop where
  du : Du W w h es b v ds p q n
  bq : Bq w h es b v ds g T cs
section
variable {W w w' : World} {h : Hd} {es es' : List E} {b : Nat} {v v' : Value} {ds ds' : List D} {p q p' q' : P} {n n' g : Nat} {T : TypeId} {cs : List Value}
theorem Du.ext (d : Du W w h es b v ds p q n) (hx : Reg.Ext w w') : Du W w' h es b v ds p q n := ⟨d.lw.ext hx, d.rd.ext hx, d.apart, d.new⟩
theorem Du.prog (d : Du W w h es b v ds p q n) (t : Turn h w es w' es') (l : Lw W w' h es' p' n') : Du W w' h es' b v ds p' q n' := by
  refine ⟨l, d.rd.same fun i hi => t.kept i (d.rd.lt hi) (d.apart i hi), fun i hi o => ?_, d.new⟩
  rcases t.own i o with h1 | h1
  · exact d.apart i hi h1
  · have := d.rd.lt hi; omega
theorem Du.ref (d : Du W w h es b v ds p q n) (t : RTurn b w v ds w' v' ds') (r : RD w' b v' ds' q') : Du W w' h es b v' ds' p q' n := by
  have hb : ¬ Own h es b := d.apart b (.inl rfl)
  have hbn : W.heap.size ≤ b := d.new b (.inl rfl)
  refine ⟨⟨{ d.lw.pn with pt := d.lw.pn.pt.same fun i hi => t.1.block i (d.lw.pn.pt.own_lt hi) fun e => hb (by injection e with e; exact e ▸ hi) }, d.lw.base.1.trans_but t.1 hbn, d.lw.base.2⟩, r, fun i hi o => ?_, fun i hi => ?_⟩
  · rcases t.2 i hi with h1 | h1
    · exact d.apart i h1 o
    · have := d.lw.pn.pt.own_lt o; omega
  · rcases t.2 i hi with h1 | h1
    · exact d.new i h1
    · have := d.lw.base.1.size; omega
theorem Bq.ext (x : Bq w h es b v ds g T cs) (hx : Reg.Ext w w') : Bq w' h es b v ds g T cs := ⟨x.blk.ext hx, x.out, x.off⟩
theorem Bq.prog (x : Bq w h es b v ds g T cs) (t : Turn h w es w' es') : Bq w' h es' b v ds g T cs :=
  ⟨(t.kept g x.blk.lt x.out).trans x.blk, fun o => (t.own g o).elim x.out fun h1 => by have := x.blk.lt; omega, x.off⟩
theorem Bq.ref (x : Bq w h es b v ds g T cs) (t : RTurn b w v ds w' v' ds') : Bq w' h es b v' ds' g T cs :=
  ⟨x.blk.but t.1 fun e => x.off (.inl e), x.out, fun o => (t.2 g o).elim x.off fun h1 => by have := x.blk.lt; omega⟩
theorem DuB.ext (d : DuB W w h es b v ds p q n g T cs) (hx : Reg.Ext w w') : DuB W w' h es b v ds p q n g T cs := ⟨d.du.ext hx, d.bq.ext hx⟩
theorem Du.more3 {j : Nat} (d : Du W w h es b v ds p q (3 * j)) : Du W w h es b v ds p q (3 * (j + 1)) := ⟨⟨d.lw.pn.more (by omega), d.lw.base⟩, d.rd, d.apart, d.new⟩
/-- how far the document's side may be used -/
structure Qf (q : P) : Prop where
  good : Good q
  len : q.fs.length ≤ 200
  who : ∀ f ∈ q.fs, f.who.length ≤ 1000000
  last : q.last ≤ 1000000
theorem Lw.qf (l : Lw W w h es p n) (hn : n ≤ 1000) (hm : p.most ≤ 16) : Qf p :=
  ⟨l.pn.good, by have := l.pn.good.most; omega, fun f hf => by have := (l.pn.len f hf).1; omega, by have := l.pn.last; omega⟩
theorem end_len {p r : P} (hq : Qf p) {x : Int} {l : List Int} (e : p.end_ x = (l, r)) : l.length ≤ 1000000 := by
  unfold Py.P.end_ at e
  cases h : at_ x p.fs with
  | none => rw [h] at e; injection e with e1 e2; subst e1; exact Nat.zero_le _
  | some f => rw [h] at e; injection e with e1 e2; subst e1; exact hq.who f (at_some h).1
theorem RD.whos (r : RD w b v ds q) (hq : Qf q) : ∀ d ∈ ds, d.f.who.length ≤ 1000000 := fun d hd => hq.who d.f (by rw [← r.fs]; exact List.mem_map.2 ⟨d, hd, rfl⟩)
def DP (W : World) (h : Hd) (b : Nat) (v : Value) (ds : List D) (q : P) (g : Nat) (T : TypeId) (cs : List Value) (val : Value) (p' : P) (n' : Nat) (e : Ending) (w' : World) : Prop := e = .returned val ∧ ∃ es', DuB W w' h es' b v ds p' q n' g T cs
def DR (W : World) (h : Hd) (es : List E) (b : Nat) (p : P) (n g : Nat) (T : TypeId) (cs : List Value) (val : Value) (q' : P) (e : Ending) (w' : World) : Prop := e = .returned val ∧ ∃ v' ds', DuB W w' h es b v' ds' p q' n g T cs
def DPe (W : World) (w : World) (h : Hd) (b : Nat) (v : Value) (ds : List D) (q : P) (g : Nat) (T : TypeId) (cs : List Value) (l : List Int) (p' : P) (n' : Nat) (e : Ending) (w' : World) : Prop := ∃ u, e = .returned u ∧ RowI w.heap.size w' u l ∧ ∃ es', DuB W w' h es' b v ds p' q n' g T cs
def DRe (W : World) (w : World) (h : Hd) (es : List E) (b : Nat) (p : P) (n g : Nat) (T : TypeId) (cs : List Value) (l : List Int) (q' : P) (e : Ending) (w' : World) : Prop := ∃ u, e = .returned u ∧ RowI 0 w' u l ∧ But b w w' ∧ ∃ v' ds', DuB W w' h es b v' ds' p q' n g T cs
theorem DuB.join (d : DuB W w h es b v ds p q n g T cs) (k : Ky) (hk : k.Fine) (x : Int) (hx : wfI x) (hn : n + 3 < 1000000) {i er : Int} {f : Bool} {r : P} (e : p.join k x = ((i, f, er), r)) :
    Calls Try.prog 8 #[.pointer (some ⟨h.d, 0, none⟩), .agg k.cells.toArray, .int .i64 x] w (DP W h b v ds q g T cs (.tuple #[.int .i64 i, .bool f, .int .i64 er]) r (n + 3)) := by
  refine (d.du.lw.join k hk x hx hn e).mono ?_
  rintro e w' ⟨h1, es', hl, ht⟩
  exact ⟨h1, es', d.du.prog ht hl, d.bq.prog ht⟩
theorem DuB.joinR (d : DuB W w h es b v ds p q n g T cs) (hq : Qf q) (k : Ky) (hk : k.Fine) (x : Int) {i er : Int} {f : Bool} {r : P} (e : q.join k x = ((i, f, er), r)) :
    Calls Try.prog 18 #[.pointer (some ⟨b, 0, none⟩), .agg k.cells.toArray, .int .i64 x] w (DR W h es b p n g T cs (.tuple #[.int .i64 i, .bool f, .int .i64 er]) r) := by
  have h1 := Py.joinR d.du.rd hq.good k hk.dig x (by rw [d.du.rd.length]; exact hq.len) (d.du.rd.whos hq) hq.last
  rw [e] at h1
  refine h1.mono ?_
  rintro e w' ⟨h2, v', ds', hr, ht⟩
  exact ⟨h2, v', ds', d.du.ref ht hr, d.bq.ref ht⟩
theorem DuB.leave (d : DuB W w h es b v ds p q n g T cs) (x : Int) (hx : wfI x) (hn : n < 1000000) {i : Int} {f : Bool} {r : P} (e : p.leave x = ((i, f), r)) :
    Calls Try.prog 10 #[.pointer (some ⟨h.d, 0, none⟩), .int .i64 x] w (DP W h b v ds q g T cs (.tuple #[.int .i64 i, .bool f]) r n) := by
  refine (d.du.lw.leave x hx hn e).mono ?_
  rintro e w' ⟨h1, es', hl, ht⟩
  exact ⟨h1, es', d.du.prog ht hl, d.bq.prog ht⟩
theorem DuB.leaveR (d : DuB W w h es b v ds p q n g T cs) (hq : Qf q) (x : Int) {i : Int} {f : Bool} {r : P} (e : q.leave x = ((i, f), r)) :
    Calls Try.prog 19 #[.pointer (some ⟨b, 0, none⟩), .int .i64 x] w (DR W h es b p n g T cs (.tuple #[.int .i64 i, .bool f]) r) := by
  have h1 := Py.leaveR d.du.rd hq.good x (by rw [d.du.rd.length]; exact hq.len) (d.du.rd.whos hq)
  rw [e] at h1
  refine h1.mono ?_
  rintro e w' ⟨h2, v', ds', hr, ht⟩
  exact ⟨h2, v', ds', d.du.ref ht hr, d.bq.ref ht⟩
theorem DuB.end_ (d : DuB W w h es b v ds p q n g T cs) (x : Int) (hx : wfI x) (hn : n < 1000000) {l : List Int} {r : P} (e : p.end_ x = (l, r)) :
    Calls Try.prog 11 #[.pointer (some ⟨h.d, 0, none⟩), .int .i64 x] w (DPe W w h b v ds q g T cs l r n) := by
  refine (d.du.lw.end_ x hx hn e).mono ?_
  rintro e w' ⟨u, h1, hr, es', hl, ht⟩
  exact ⟨u, h1, hr, es', d.du.prog ht hl, d.bq.prog ht⟩
theorem DuB.endR (d : DuB W w h es b v ds p q n g T cs) (hq : Qf q) (x : Int) {l : List Int} {r : P} (e : q.end_ x = (l, r)) :
    Calls Try.prog 20 #[.pointer (some ⟨b, 0, none⟩), .int .i64 x] w (DRe W w h es b p n g T cs l r) := by
  have h1 := Py.endR d.du.rd hq.good x (by rw [d.du.rd.length]; exact hq.len)
  rw [e] at h1
  refine h1.mono ?_
  rintro e w' ⟨u, v', ds', h2, hrow, hr, ht⟩
  exact ⟨u, h2, hrow, ht.1, v', ds', d.du.ref ht hr, d.bq.ref ht⟩
/-- a row that a call made, kept by the document's operation -/
theorem RowI.butR {B : Nat} {u : Value} {l : List Int} (hr : RowI B w u l) (hB : b < B) (hb : But b w w') : RowI B w' u l :=
  RowI.same hr fun y hy => hb.block y (Go.Proofs.Ytjkhfnfimicffaa.own_lt hr hy) fun e => by injection e with e; have := (World.ownsRow.lt hr y hy).1; omega
/-- how both answer for a key, for a number -/
def Ans (fs : List Fl) (o : Option Nat) (a : Int) (is : Bool) (k : Int) : Prop := (o = none ∧ a = 0 ∧ is = false ∧ k = -1) ∨ ∃ m, ∃ hm : m < fs.length, o = some m ∧ a = fs[m].id ∧ is = true ∧ k = (m : Int)
theorem ans_key (fs : List Fl) (k : Ky) : Ans fs (pKey k fs) ((kfOf fs k).getD 0) (kfOf fs k).isSome (plI (pKey k fs)) := by
  unfold kfOf
  rw [key_idx]
  cases h : pKey k fs with
  | none => exact .inl ⟨rfl, rfl, rfl, rfl⟩
  | some m =>
    have hm := idx_lt h
    refine .inr ⟨m, hm, rfl, ?_, ?_, rfl⟩ <;> rw [Option.bind_some, List.getElem?_eq_getElem hm] <;> rfl
theorem ans_who (fs : List Fl) (x : Int) : Ans fs (pWh x fs) ((wfOf fs x).getD 0) (wfOf fs x).isSome (plI (pWh x fs)) := by
  unfold wfOf
  rw [wh_idx]
  cases h : pWh x fs with
  | none => exact .inl ⟨rfl, rfl, rfl, rfl⟩
  | some m =>
    have hm := idx_lt h
    refine .inr ⟨m, hm, rfl, ?_, ?_, rfl⟩ <;> rw [Option.bind_some, List.getElem?_eq_getElem hm] <;> rfl
end
def AnsW (ds : List D) (a : Int) (is : Bool) (m : Int) : Prop := (a = 0 ∧ is = false ∧ m = -1) ∨ ∃ i, ∃ hi : i < ds.length, a = ds[i].f.id ∧ is = true ∧ m = (i : Int)
theorem Ans.w {w : World} {b : Nat} {v : Value} {ds : List D} {p : P} {o : Option Nat} {a m : Int} {is : Bool} (r : RD w b v ds p) (h : Ans p.fs o a is m) : AnsW ds a is m := by
  rcases h with ⟨_, h1, h2, h3⟩ | ⟨i, hi, _, h1, h2, h3⟩
  · exact .inl ⟨h1, h2, h3⟩
  · have hd : i < ds.length := by rw [r.length]; exact hi
    exact .inr ⟨i, hd, by rw [h1, r.at_ i hd], h2, h3⟩
theorem Du.find2 {W w : World} {h : Hd} {es : List E} {b : Nat} {v : Value} {ds : List D} {p : P} {n : Nat} (d : Du W w h es b v ds p p n) (hl : p.fs.length ≤ 200) (k : Ky) (hk : k.Fine) : ∃ a is m, AnsW ds a is m ∧
    (∀ w', Reg.Ext w w' → Calls Try.prog 15 #[.pointer (some ⟨h.d, 0, none⟩), .agg k.cells.toArray] w' fun e w2 => e = .returned (.tuple #[.int .i64 a, .bool is]) ∧ Reg.Ext w' w2) ∧
    (∀ w', Reg.Ext w w' → Calls Try.prog 21 #[.pointer (some ⟨b, 0, none⟩), .agg k.cells.toArray] w' fun e w2 => e = .returned (.int .i64 m) ∧ Reg.Ext w' w2) :=
  ⟨_, _, _, (ans_key p.fs k).w d.rd, fun w' hx => find_any (d.lw.ext hx).pn.pt k hk, fun w' hx => findR (d.rd.ext hx) k hk.dig (by rw [d.rd.length]; omega)⟩
theorem Du.where2 {W w : World} {h : Hd} {es : List E} {b : Nat} {v : Value} {ds : List D} {p : P} {n : Nat} (d : Du W w h es b v ds p p n) (hq : Qf p) (x : Int) (hx : wfI x) : ∃ a is m, AnsW ds a is m ∧
    (∀ w', Reg.Ext w w' → Calls Try.prog 14 #[.pointer (some ⟨h.d, 0, none⟩), .int .i64 x] w' fun e w2 => e = .returned (.tuple #[.int .i64 a, .bool is]) ∧ w2 = w') ∧
    (∀ w', Reg.Ext w w' → Calls Try.prog 22 #[.pointer (some ⟨b, 0, none⟩), .int .i64 x] w' fun e w2 => e = .returned (.int .i64 m) ∧ w2 = w') :=
  ⟨_, _, _, (ans_who p.fs x).w d.rd, fun w' hy => (d.lw.ext hy).where_ x hx, fun w' hy => whereR (d.rd.ext hy) x (by rw [d.rd.length]; have := hq.len; omega) (d.rd.whos hq)⟩
theorem exec_idxI {ρ : Operand → Value} {o : Oper} (x ix : Operand) (ho : o.op = .indexAddr 22 x ix) {g len cap j : Nat} (hx : ρ x = .slice (some ⟨g, 0, none⟩) len cap) (hi : ρ ix = .int .i64 (j : Int)) (hj : j < len) (w : World) :
    (execOp ρ o).run Try.prog w = .ok (.value (.pointer (some ⟨g, j, none⟩))) w := by
  have h1 : (Instr.indexAt 22 (.slice (some ⟨g, 0, none⟩) len cap) (.int .i64 (j : Int))).run Try.prog w = .ok (.pointer (some ⟨g, j, none⟩)) w := by
    have h2 := run_indexAt_slice (P := Try.prog) (w := w) 22 ⟨g, 0, none⟩ len cap .i64 (j : Int) (by kernel_rfl)
    rw [if_pos ⟨by omega, by omega⟩] at h2
    rw [h2]
    have hs : (Go.sizeOf (Try.prog.elem 22)).run Try.prog w = .ok 1 w := by as_aux_lemma => kernel_rfl
    rw [hs, Result.andThen_ok, Int.toNat_natCast, Addr.add_mid, Nat.zero_add, Nat.mul_one]
  simp [execOp, ho, hx, hi, h1, Result.andThen]
/-- a flight's key in the flight's own block -/
theorem D.keyAt {w : World} {g : Nat} {T : TypeId} {d : D} (h : Blk w g T d.cells) : w.rangeAt g 1 d.f.key.cells := fun j u hj => by
  rw [h.cell]
  unfold D.cells
  rw [Nat.add_comm, List.getElem?_cons_succ, List.getElem?_append_left (List.getElem?_eq_some_iff.1 hj).1]
  exact hj
/-- the document's party, new -/
theorem newR (most : Int) (W : World) : RD (W.alloc (.cells #[.slice none 0 0, .int .i64 most, .int .i64 0] 46)) W.heap.size (.slice none 0 0) [] ⟨[], most, 0⟩ :=
  ⟨Blk.new W _ _, World.ownsRow_nil _ _ _ _, rfl, fun d hd => (by cases hd), fun d hd => (by cases hd), by simp [Value.ownBlock], fun d hd => (by cases hd)⟩
end Py
end Go.Proofs.Ytjkhfnfimicffaa

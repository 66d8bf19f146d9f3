/- The document's flights: how they lie in memory. -/
import Derived.Test.YtjkhfnfimicffaaPyH
import Derived.Test.YtjkhfnfimicffaaPyS
import Derived.Test.YtjkhfnfimicffaaFlt
import Derived.Test.YtjkhfnfimicffaaOneRowN
set_option linter.unusedSimpArgs false
set_option linter.unusedVariables false
set_option linter.unusedSectionVars false
namespace Go.Proofs.Ytjkhfnfimicffaa
open Go Go.RowKit
namespace Py
theorem undF : Try.prog.underlying 54 = some (.struct (Try.prog.fieldsOf 54)) := by kernel_rfl
theorem sizeF : (Try.prog.info? 54).map (·.size) = some 38 := by kernel_rfl
/-- a flight of the document, and its slice -/
structure D where
  f : Fl
  v : Value
def D.cells (d : D) : List Value := .int .i64 d.f.id :: (d.f.key.cells ++ [d.v])
def D.val (d : D) : Value := .agg d.cells.toArray
def dcs (ds : List D) : List Value := ds.flatMap D.cells
def zD : D := ⟨⟨0, ⟨0, [], [], List.replicate 32 0, false⟩, []⟩, .slice none 0 0⟩
theorem Try.flInfo : (Try.prog.info? 54).map (fun i => (i.zero, i.size, i.bytes)) = some (some (.agg zD.cells.toArray), 38, 112) := by kernel_rfl
theorem flInfo_of : ∃ i, Try.prog.info? 54 = some i ∧ i.zero = some (.agg zD.cells.toArray) ∧ i.size = 38 ∧ i.bytes = 112 := by
  obtain ⟨i, hi, h⟩ := Option.map_eq_some_iff.1 Try.flInfo
  simp only [Prod.mk.injEq] at h
  exact ⟨i, hi, h.1, h.2.1, h.2.2⟩
theorem D.len (d : D) (h : d.f.key.dig.length = 32) : d.cells.length = 38 := by
  unfold D.cells
  rw [List.length_cons, List.length_append, d.f.key.len h]
  rfl
def Fit (ds : List D) : Prop := ∀ d ∈ ds, d.f.key.dig.length = 32
theorem Fit.len {ds : List D} (h : Fit ds) : ∀ d ∈ ds, d.cells.length = 38 := fun d hd => d.len (h d hd)
/-- a slice of flights in a block of its own -/
def LD (w : World) (v : Value) (ds : List D) : Prop := w.ownsRow 0 54 38 v ds.length (dcs ds)
theorem LD.form {w : World} {v : Value} {ds : List D} (h : LD w v ds) : (v = .slice none 0 0 ∧ ds = []) ∨ ∃ g cap, v = .slice (some ⟨g, 0, none⟩) ds.length cap ∧ g < w.heap.size ∧ ds.length ≤ cap ∧ cap ≤ maxLen := by
  rcases h.2 with ⟨rfl, hn⟩ | ⟨g, cap, cur, rfl, _, hc, h1, h2, _⟩
  · exact .inl ⟨rfl, List.eq_nil_of_length_eq_zero hn⟩
  · exact .inr ⟨g, cap, rfl, (Array.getElem?_eq_some_iff.1 hc).1, h1, h2⟩
theorem LD.slice {w : World} {v : Value} {ds : List D} (h : LD w v ds) : ∃ A cap, v = .slice A ds.length cap := by
  rcases h.form with ⟨rfl, rfl⟩ | ⟨g, cap, rfl, _⟩
  · exact ⟨none, 0, rfl⟩
  · exact ⟨_, cap, rfl⟩
theorem LD.at_ {w : World} {g cap : Nat} {ds : List D} (h : LD w (.slice (some ⟨g, 0, none⟩) ds.length cap) ds) (hf : Fit ds) (k : Nat) (hk : k < ds.length) (i : Nat) (hi : i < 38) : w.cell? ⟨g, k * 38 + i, none⟩ = ds[k].cells[i]? := by
  rw [World.ownsRow.cellAt h (k * 38 + i) (by omega)]
  exact Flt.at_ hf.len k hk i hi
theorem LD.range {w : World} {g cap : Nat} {ds : List D} (h : LD w (.slice (some ⟨g, 0, none⟩) ds.length cap) ds) (hf : Fit ds) (k : Nat) (hk : k < ds.length) : w.rangeAt g (k * 38) ds[k].cells := fun j v hv => by
  have hj : j < 38 := by
    have := (List.getElem?_eq_some_iff.1 hv).1
    rw [ds[k].len (hf _ (List.getElem_mem hk))] at this
    exact this
  rw [h.at_ hf k hk j hj, hv]
theorem LD.lt {w : World} {v : Value} {ds : List D} (h : LD w v ds) {g : Nat} (hg : v.ownBlock = some g) : g < w.heap.size := (World.ownsRow.lt h g hg).2
theorem D.one (d : D) (hv : d.v.oneCell' = true) : ∀ u ∈ d.cells, u.oneCell' = true := fun u hu => by
  unfold D.cells at hu
  rcases List.mem_cons.1 hu with rfl | hu
  · rfl
  rcases List.mem_append.1 hu with hu | hu
  · exact Ky.one _ u hu
  · rw [List.mem_singleton.1 hu]; exact hv
theorem RowI.one {B : Nat} {w : World} {v : Value} {l : List Int} (h : RowI B w v l) : v.oneCell' = true := by
  rcases h.2 with ⟨rfl, _⟩ | ⟨g, cap, cur, rfl, _⟩ <;> rfl
structure RD (w : World) (b : Nat) (v : Value) (ds : List D) (p : P) : Prop where
  blk : Blk w b 46 [v, .int .i64 p.most, .int .i64 p.last]
  row : LD w v ds
  fs : ds.map D.f = p.fs
  fit : Fit ds
  who : ∀ d ∈ ds, RowI 0 w d.v d.f.who
  away : v.ownBlock ≠ some b
  far : ∀ d ∈ ds, d.v.ownBlock ≠ some b
/-- the blocks in which it lies -/
def RO (b : Nat) (v : Value) (ds : List D) (i : Nat) : Prop := i = b ∨ v.ownBlock = some i ∨ ∃ d ∈ ds, d.v.ownBlock = some i
section
variable {w w' : World} {b : Nat} {v : Value} {ds : List D} {p : P}
theorem RD.lt (h : RD w b v ds p) {i : Nat} (hi : RO b v ds i) : i < w.heap.size := by
  rcases hi with rfl | hi | ⟨d, hd, hi⟩
  · exact h.blk.lt
  · exact h.row.lt hi
  · exact Go.Proofs.Ytjkhfnfimicffaa.own_lt (h.who d hd) hi
theorem RD.same (h : RD w b v ds p) (hk : ∀ i, RO b v ds i → w'.heap[i]? = w.heap[i]?) : RD w' b v ds p :=
  ⟨(hk b (.inl rfl)).trans h.blk, own_same h.row fun g hg => hk g (.inr (.inl hg)), h.fs, h.fit, fun d hd => (h.who d hd).same fun g hg => hk g (.inr (.inr ⟨d, hd, hg⟩)), h.away, h.far⟩
theorem RD.ext (h : RD w b v ds p) (hx : Reg.Ext w w') : RD w' b v ds p := h.same fun i hi => hx.block i (h.lt hi)
theorem RD.length (h : RD w b v ds p) : ds.length = p.fs.length := by rw [← h.fs, List.length_map]
theorem RD.c (h : RD w b v ds p) : w.cell? ⟨b, 0, none⟩ = some v ∧ w.cell? ⟨b, 1, none⟩ = some (.int .i64 p.most) ∧ w.cell? ⟨b, 2, none⟩ = some (.int .i64 p.last) := ⟨h.blk.cell 0, h.blk.cell 1, h.blk.cell 2⟩
theorem RD.at_ (h : RD w b v ds p) (k : Nat) (hk : k < ds.length) : p.fs[k]'(h.length ▸ hk) = ds[k].f := by
  have := h.fs
  have e : p.fs[k]? = some ds[k].f := by rw [← this, List.getElem?_map, List.getElem?_eq_getElem hk]; rfl
  rw [List.getElem?_eq_getElem (h.length ▸ hk)] at e
  injection e
end
/-- what an operation leaves -/
def RTurn (b : Nat) (w : World) (v : Value) (ds : List D) (w' : World) (v' : Value) (ds' : List D) : Prop := But b w w' ∧ ∀ i, RO b v' ds' i → RO b v ds i ∨ w.heap.size ≤ i
theorem RTurn.refl (b : Nat) (w : World) (v : Value) (ds : List D) : RTurn b w v ds w v ds := ⟨But.refl b w, fun _ h => .inl h⟩
theorem RTurn.ext {b : Nat} {w w' : World} {v : Value} {ds : List D} (h : Reg.Ext w w') : RTurn b w v ds w' v ds := ⟨But.of_ext h, fun _ h => .inl h⟩
theorem RTurn.trans {b : Nat} {w w1 w2 : World} {v v1 v2 : Value} {ds ds1 ds2 : List D} (h : RTurn b w v ds w1 v1 ds1) (k : RTurn b w1 v1 ds1 w2 v2 ds2) : RTurn b w v ds w2 v2 ds2 := by
  refine ⟨h.1.trans k.1, fun i hi => ?_⟩
  rcases k.2 i hi with h1 | h1
  · exact h.2 i h1
  · have := h.1.size; exact .inr (by omega)
def ResR (b : Nat) (w : World) (v : Value) (ds : List D) (u : Value) (p : P) (e : Ending) (w' : World) : Prop := e = .returned u ∧ ∃ v' ds', RD w' b v' ds' p ∧ RTurn b w v ds w' v' ds'
/-- v owns just these flights, in a block made since W0; all that there was in W0 is as it was -/
def DOw (W0 w : World) (v : Value) (ds : List D) : Prop := w.ownsRow W0.heap.size 54 38 v ds.length (dcs ds) ∧ Reg.Ext W0 w
theorem DOw.ld {W0 w : World} {v : Value} {ds : List D} (h : DOw W0 w v ds) : LD w v ds :=
  ⟨h.1.1, h.1.2.imp id fun ⟨g, cap, cur, e, _, rest⟩ => ⟨g, cap, cur, e, Nat.zero_le _, rest⟩⟩
theorem DOw.new {W0 w : World} (hx : Reg.Ext W0 w) : DOw W0 (w.alloc (.cells #[] 54)) (.slice (some ⟨w.heap.size, 0, none⟩) 0 0) [] :=
  ⟨World.ownsRow_made w #[] 0 hx.size (Nat.zero_le _) rfl, hx.trans (Reg.Ext.alloc _ _)⟩
theorem DOw.later {W0 w w' : World} {v : Value} {ds : List D} (h : DOw W0 w v ds) (hx : Reg.Ext w w') : DOw W0 w' v ds := ⟨own_ext h.1 hx, h.2.trans hx⟩
theorem DOw.ge {W0 w : World} {v : Value} {ds : List D} (h : DOw W0 w v ds) {g : Nat} (hg : v.ownBlock = some g) : W0.heap.size ≤ g := (World.ownsRow.lt h.1 g hg).1
section
variable {ops : Array Oper} {rest : List Oper} {o : Oper} {a : Act} {Q : Exit → Act → World → Prop}
theorem DOw.pushAll (hgd : o.guard = none) (s x : Operand) (ho : o.op = .call { callee := .builtin .append, args := #[s, x], argTypes := #[44, 44] })
    (W0 : World) (v : Value) (ds es : List D) (hs : a.eval s = v) (W : World) (ad : Addr) (c : Nat) (hb : DOw W0 W v ds) (hx : a.eval x = .slice (some ad) es.length c) (hnew : ∀ j u, (dcs es)[j]? = some u → W.cell? (ad.add j) = some u) (hfit : Fit es) (hone : ∀ d ∈ es, d.v.oneCell' = true) (hl : ds.length + es.length ≤ 1000)
    (h : ∀ v' w', DOw W0 w' v' (ds ++ es) → wpList Try.prog ops Q rest (a.put o.dst v') w') : wpList Try.prog ops Q (o :: rest) a W := by
  obtain ⟨i, hi, hz, hsz, hby⟩ := flInfo_of
  refine Go.wpList_append_own_at W hgd s x 44 ho W0.heap.size 54 i (.agg zD.cells.toArray) 38 112 Try.underlying44 hi hz hsz hby rfl (by decide) v ds.length (dcs ds) hs hb.1 ad es.length c (dcs es) hx (Flt.len hfit.len) hnew ?_ (by unfold maxLen; omega) (by omega) hb.2.size ?_
  · intro u hu
    obtain ⟨d, hd, hu⟩ := List.mem_flatMap.1 hu
    exact d.one (hone d hd) u hu
  · intro v' w' ho' hg _ hat
    refine h v' w' ⟨?_, Below.grown hb.2 hg hb.2.size fun k hk => (hb.1.lt k hk).1⟩
    rw [List.length_append, show dcs (ds ++ es) = dcs ds ++ dcs es from List.flatMap_append]
    exact ho'
theorem one_flight (hgd : o.guard = none) (x : Operand) (ho : o.op = .buildSlice 44 1 #[(0, x)]) (d : D) (hx : a.eval x = d.val) (hd : d.f.key.dig.length = 32) (W : World)
    (h : wpList Try.prog ops Q rest (a.put o.dst (.slice (some ⟨W.heap.size, 0, none⟩) 1 1)) (W.alloc (.cells d.cells.toArray 54))) : wpList Try.prog ops Q (o :: rest) a W := by
  obtain ⟨i, hi, hz, hsz, hby⟩ := flInfo_of
  exact One.wpList_valw hgd _ (One.exec_one_row W _ o x 44 54 d.cells.toArray ho hx i _ Try.underlying44 hi hz (by rw [hsz, List.size_toArray, d.len hd]) (by rw [List.size_toArray, d.len hd]; omega) (by rw [List.size_toArray, d.len hd]; omega)) h
end
theorem LD.head {w : World} {g cap : Nat} {ds : List D} (h : LD w (.slice (some ⟨g, 0, none⟩) ds.length cap) ds) (hf : Fit ds) (i : Nat) : ∀ j u, (dcs (ds.take i))[j]? = some u → w.cell? ((⟨g, 0, none⟩ : Addr).add j) = some u := by
  intro j u hj
  rw [show dcs (ds.take i) = (dcs ds).take (i * 38) from (Flt.take hf.len i).symm, List.getElem?_take] at hj
  split at hj
  · exact World.ownsRow.cells h rfl j u hj
  · cases hj
theorem LD.tail {w : World} {g cap : Nat} {ds : List D} (h : LD w (.slice (some ⟨g, 0, none⟩) ds.length cap) ds) (hf : Fit ds) (i : Nat) : ∀ j u, (dcs (ds.drop i))[j]? = some u → w.cell? ((⟨g, i * 38, none⟩ : Addr).add j) = some u := by
  intro j u hj
  rw [show dcs (ds.drop i) = (dcs ds).drop (i * 38) from (Flt.drop hf.len i).symm, List.getElem?_drop] at hj
  have := World.ownsRow.cells h rfl _ u hj
  rw [add_plain, Nat.zero_add] at this
  rw [add_plain]
  exact this
/-- another row of flights -/
theorem RD.shut {w w' : World} {b : Nat} {v v' : Value} {ds es : List D} {p q : P} (h : RD w b v ds p) (ho : DOw w w' v' es) (hf : Fit es) (hw : ∀ d ∈ es, RowI 0 w' d.v d.f.who) (hfar : ∀ d ∈ es, d ∈ ds ∨ ∀ g, d.v.ownBlock = some g → w.heap.size ≤ g) (hq : es.map D.f = q.fs) (hm : q.most = p.most) (hl : q.last = p.last) :
    RD (w'.setCell ⟨b, 0, none⟩ v') b v' es q ∧ RTurn b w v ds (w'.setCell ⟨b, 0, none⟩ v') v' es := by
  have hblt := h.blk.lt
  have hnb : v'.ownBlock ≠ some b := fun e => by have := ho.ge e; omega
  have hb := But.set_ b w' 0 v'
  have hdf : ∀ d ∈ es, d.v.ownBlock ≠ some b := fun d hd e => by
    rcases hfar d hd with h1 | h1
    · exact h.far d h1 e
    · have := h1 b e; omega
  refine ⟨⟨?_, own_same ho.ld fun g hg => hb.block g (LD.lt ho.ld hg) fun e => hnb (by injection e with e; rw [← e]; exact hg), hq, hf, fun d hd => (hw d hd).same fun g hg => hb.block g (Go.Proofs.Ytjkhfnfimicffaa.own_lt (hw d hd) hg) fun e => hdf d hd (by injection e with e; rw [← e]; exact hg), hnb, hdf⟩, (But.of_ext ho.2).trans hb, fun i hi => ?_⟩
  · rw [hm, hl]
    exact (h.blk.ext ho.2).set_ 0 v'
  · rcases hi with rfl | hi | ⟨d, hd, hi⟩
    · exact .inl (.inl rfl)
    · exact .inr (ho.ge hi)
    · rcases hfar d hd with h1 | h1
      · exact .inl (.inr (.inr ⟨d, h1, hi⟩))
      · exact .inr (h1 i hi)
end Py
end Go.Proofs.Ytjkhfnfimicffaa

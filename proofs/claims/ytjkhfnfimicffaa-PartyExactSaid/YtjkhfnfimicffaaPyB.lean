/- Flights in memory: the head, its three maps, the flights, the rows of those who wait. -/
import Derived.Test.YtjkhfnfimicffaaPyA
import Derived.Test.YtjkhfnfimicffaaBlk
import Derived.Test.YtjkhfnfimicffaaOwnN
import Derived.Maps.OwnSet
import Derived.Maps.OwnOps
import Derived.Maps.Views
import Derived.DeepKeys4
set_option linter.unusedSimpArgs false
set_option linter.unusedVariables false
set_option linter.unusedSectionVars false
namespace Go.Proofs.Ytjkhfnfimicffaa
open Go Go.RowKit
theorem map_same {w w' : World} {k mp n : Nat} {R : Value → Option (DataW Unit × List MemPlace)} {D : DataW Unit} (h : w.ownsMap Try.prog k R mp n D) (hk : w'.heap[mp]? = w.heap[mp]?) : w'.ownsMap Try.prog k R mp n D := by
  obtain ⟨es, clock, hb, hh⟩ := h
  exact ⟨es, clock, hk.trans hb, hh⟩
theorem map_more {w : World} {k mp n m : Nat} {R : Value → Option (DataW Unit × List MemPlace)} {D : DataW Unit} (h : w.ownsMap Try.prog k R mp n D) (hm : n ≤ m) : w.ownsMap Try.prog k R mp m D := by
  obtain ⟨es, clock, hb, F, hs, hD⟩ := h
  exact ⟨es, clock, hb, F, Nat.le_trans hs hm, hD⟩
theorem own_same {w w' : World} {B e n k : Nat} {v : Value} {xs : List Value} (h : w.ownsRow B e n v k xs) (hk : ∀ g, v.ownBlock = some g → w'.heap[g]? = w.heap[g]?) : w'.ownsRow B e n v k xs := by
  refine ⟨h.1, ?_⟩
  rcases h.2 with e1 | ⟨g, cap, cur, e1, h1, h2, h3⟩
  · exact .inl e1
  · exact .inr ⟨g, cap, cur, e1, h1, (hk g (by rw [e1]; rfl)).trans h2, h3⟩
theorem keyI (i : Int) (hi : (Lit.int .i64 i).wf = true) : keyOf Try.prog 3 (.int .i64 i) = some (.int .i64 i) := Maps.keyOf_int_mk Try.underlying3 hi
theorem kun : Maps.Keyed Try.prog 3 := Maps.int_keyed Try.underlying3
namespace Py
def Ky.cells (k : Ky) : List Value := .int .i64 k.kind :: .string ⟨k.repo.toArray⟩ :: .string ⟨k.tag.toArray⟩ :: (k.dig.map byteV ++ [.bool k.blob])
/-- a flight: its block, its slice -/
structure E where
  f : Fl
  g : Nat
  v : Value
structure Hd where
  d : Nat
  fm : Nat
  km : Nat
  wm : Nat
def E.blocks (e : E) : List Nat := e.g :: e.v.ownBlock.toList
theorem mem_blocks {e : E} {x : Nat} : x ∈ e.blocks ↔ x = e.g ∨ e.v.ownBlock = some x := by
  unfold E.blocks
  rw [List.mem_cons]
  cases e.v.ownBlock <;> simp [eq_comm]
/-- a pointer, as the map's datum has it -/
def ptrR (v : Value) : Option (DataW Unit × List MemPlace) := match v with
  | .pointer none => some (.lit (.int .i64 0), [])
  | .pointer (some ⟨g, 0, none⟩) => some (.lit (.int .i64 ((g : Int) + 1)), [])
  | _ => none
def ptrV : Option E → Value
  | none => .pointer none
  | some e => .pointer (some ⟨e.g, 0, none⟩)
def ptrN : Option E → Int
  | none => 0
  | some e => (e.g : Int) + 1
theorem ptrR_of {v : Value} {o : Option E} {ps : List MemPlace} (h : ptrR v = some (.lit (.int .i64 (ptrN o)), ps)) : v = ptrV o := by
  unfold ptrR at h
  split at h
  · cases o with
    | none => rfl
    | some e =>
      injection h with h
      injection h with h _
      injection h with h
      injection h with _ h
      have : (0 : Int) = (e.g : Int) + 1 := h
      omega
  · rename_i g
    cases o with
    | none =>
      injection h with h
      injection h with h _
      injection h with h
      injection h with _ h
      have : ((g : Nat) : Int) + 1 = 0 := h
      omega
    | some e =>
      injection h with h
      injection h with h _
      injection h with h
      injection h with _ h
      have h : ((g : Nat) : Int) + 1 = (e.g : Int) + 1 := h
      have : g = e.g := by omega
      rw [this]; rfl
  · cases h
def zeroI : DataW Unit := .lit (.int .i64 0)
def get (i : Int) (es : List E) : Option E := es.find? fun e => e.f.id = i
def updE (e' : E) (es : List E) : List E := es.map fun e => if e.f.id = e'.f.id then e' else e
def delE (i : Int) (es : List E) : List E := es.filter fun e => e.f.id ≠ i
def base (h : Hd) : List Nat := [h.d, h.fm, h.km, h.wm]
def Own (h : Hd) (es : List E) (x : Nat) : Prop := x ∈ base h ∨ ∃ e ∈ es, x ∈ e.blocks
/-- the maps' data -/
def MapF (D : DataW Unit) (es : List E) : Prop := Maps.size D = es.length ∧ ∀ i, D.atKey (.int .i64 i) zeroI = .lit (.int .i64 (ptrN (get i es))) ∧ Maps.has D (.int .i64 i) = (get i es).isSome
def MapI (D : DataW Unit) (f : Int → Option Int) : Prop := ∀ i, D.atKey (.int .i64 i) zeroI = .lit (.int .i64 ((f i).getD 0)) ∧ Maps.has D (.int .i64 i) = (f i).isSome
/-- a key's words in the map -/
def Ky.Ok (k : Ky) (l : Lit) : Prop := keyOf Try.prog 33 (.agg k.cells.toArray) = some l
def MapK (D : DataW Unit) (f : Ky → Option Int) : Prop := ∀ (k : Ky) l, k.dig.length = 32 → k.Ok l → D.atKey l zeroI = .lit (.int .i64 ((f k).getD 0)) ∧ Maps.has D l = (f k).isSome
abbrev FOwn (w : World) (h : Hd) (n : Nat) (D : DataW Unit) : Prop := w.ownsMap Try.prog 3 ptrR h.fm n D
abbrev KOwn (w : World) (h : Hd) (n : Nat) (D : DataW Unit) : Prop := w.ownsMap Try.prog 33 (plainElem Try.prog 3) h.km n D
abbrev WOwn (w : World) (h : Hd) (n : Nat) (D : DataW Unit) : Prop := w.ownsMap Try.prog 3 (plainElem Try.prog 3) h.wm n D
def headC (h : Hd) (most last : Int) : List Value := [.map (some h.fm), .map (some h.km), .map (some h.wm), .int .i64 most, .int .i64 last]
structure Pt (w : World) (h : Hd) (es : List E) (kf : Ky → Option Int) (wf : Int → Option Int) (most last : Int) (n : Nat) : Prop where
  blk : Blk w h.d 63 (headC h most last)
  mf : ∃ D, FOwn w h n D ∧ MapF D es
  mK : ∃ D, KOwn w h n D ∧ MapK D kf
  mw : ∃ D, WOwn w h n D ∧ MapI D wf
  file : ∀ e ∈ es, Blk w e.g 68 (e.f.key.cells ++ [e.v])
  row : ∀ e ∈ es, w.ownsRow 0 3 1 e.v e.f.who.length (e.f.who.map (Value.int .i64))
  up : (es.map fun e => e.f.id).Pairwise (· < ·)
  apart : ∀ a ∈ es, ∀ b ∈ es, a.f.id ≠ b.f.id → ∀ x ∈ a.blocks, x ∉ b.blocks
  self : ∀ e ∈ es, e.v.ownBlock ≠ some e.g
  bases : (base h).Nodup
  out : ∀ e ∈ es, ∀ x ∈ e.blocks, x ∉ base h
structure Turn (h : Hd) (w : World) (es : List E) (w' : World) (es' : List E) : Prop where
  os : w'.os = w.os
  tape : w'.tape = w.tape
  output : w'.output = w.output
  size : w.heap.size ≤ w'.heap.size
  kept : ∀ i, i < w.heap.size → ¬ Own h es i → w'.heap[i]? = w.heap[i]?
  own : ∀ i, Own h es' i → Own h es i ∨ w.heap.size ≤ i
theorem Turn.refl (h : Hd) (w : World) (es : List E) : Turn h w es w es := ⟨rfl, rfl, rfl, Nat.le_refl _, fun _ _ _ => rfl, fun _ h => .inl h⟩
theorem Turn.ext {h : Hd} {w w' : World} {es : List E} (hx : Reg.Ext w w') : Turn h w es w' es := ⟨hx.os, hx.tape, hx.output, hx.size, fun i hi _ => hx.block i hi, fun _ h => .inl h⟩
theorem Turn.trans {h : Hd} {w w1 w2 : World} {es es1 es2 : List E} (a : Turn h w es w1 es1) (b : Turn h w1 es1 w2 es2) : Turn h w es w2 es2 := by
  refine ⟨b.os.trans a.os, b.tape.trans a.tape, b.output.trans a.output, Nat.le_trans a.size b.size, fun i hi hn => ?_, fun i hi => ?_⟩
  · refine (b.kept i (Nat.lt_of_lt_of_le hi a.size) fun ho => ?_).trans (a.kept i hi hn)
    rcases a.own i ho with h2 | h2
    · exact hn h2
    · omega
  · rcases b.own i hi with h2 | h2
    · exact a.own i h2
    · exact .inr (Nat.le_trans a.size h2)
/-- one block that the party owns may turn -/
theorem Turn.but {h : Hd} {w w' : World} {es : List E} {b : Nat} (hb : But b w w') (ho : Own h es b) : Turn h w es w' es :=
  ⟨hb.os, hb.tape, hb.output, hb.size, fun i hi hn => hb.block i hi fun e => hn (by injection e with e; exact e ▸ ho), fun _ h => .inl h⟩
section
variable {w w' : World} {h : Hd} {es : List E} {kf : Ky → Option Int} {wf : Int → Option Int} {most last : Int} {n : Nat}
theorem Pt.block_lt (P : Pt w h es kf wf most last n) {e : E} (he : e ∈ es) {x : Nat} (hx : x ∈ e.blocks) : x < w.heap.size := by
  rcases mem_blocks.1 hx with rfl | hx
  · exact (P.file e he).lt
  · exact own_lt (P.row e he) hx
theorem Pt.base_lt (P : Pt w h es kf wf most last n) {x : Nat} (hx : x ∈ base h) : x < w.heap.size := by
  unfold base at hx
  simp only [List.mem_cons, List.not_mem_nil, or_false] at hx
  rcases hx with rfl | rfl | rfl | rfl
  · exact P.blk.lt
  · obtain ⟨D, h1, _⟩ := P.mf; exact h1.lt
  · obtain ⟨D, h1, _⟩ := P.mK; exact h1.lt
  · obtain ⟨D, h1, _⟩ := P.mw; exact h1.lt
theorem Pt.own_lt (P : Pt w h es kf wf most last n) {x : Nat} (hx : Own h es x) : x < w.heap.size := by
  rcases hx with hx | ⟨e, he, hx⟩
  · exact P.base_lt hx
  · exact P.block_lt he hx
theorem own_g {e : E} (he : e ∈ es) : Own h es e.g := .inr ⟨e, he, mem_blocks.2 (.inl rfl)⟩
theorem own_v {e : E} (he : e ∈ es) {x : Nat} (hx : e.v.ownBlock = some x) : Own h es x := .inr ⟨e, he, mem_blocks.2 (.inr hx)⟩
theorem own_d : Own h es h.d := .inl (by simp [base])
theorem own_fm : Own h es h.fm := .inl (by simp [base])
theorem own_km : Own h es h.km := .inl (by simp [base])
theorem own_wm : Own h es h.wm := .inl (by simp [base])
theorem Pt.same (P : Pt w h es kf wf most last n) (hk : ∀ i, Own h es i → w'.heap[i]? = w.heap[i]?) : Pt w' h es kf wf most last n := by
  refine { P with blk := (hk _ own_d).trans P.blk, mf := ?_, mK := ?_, mw := ?_, file := fun e he => (hk e.g (own_g he)).trans (P.file e he), row := fun e he => own_same (P.row e he) fun g hg => hk g (own_v he hg) }
  · obtain ⟨D, h1, h2⟩ := P.mf; exact ⟨D, map_same h1 (hk _ own_fm), h2⟩
  · obtain ⟨D, h1, h2⟩ := P.mK; exact ⟨D, map_same h1 (hk _ own_km), h2⟩
  · obtain ⟨D, h1, h2⟩ := P.mw; exact ⟨D, map_same h1 (hk _ own_wm), h2⟩
theorem Pt.ext (P : Pt w h es kf wf most last n) (hx : Reg.Ext w w') : Pt w' h es kf wf most last n := P.same fun i hi => hx.block i (P.own_lt hi)
theorem Pt.more (P : Pt w h es kf wf most last n) {m : Nat} (hm : n ≤ m) : Pt w h es kf wf most last m := by
  refine { P with mf := ?_, mK := ?_, mw := ?_ }
  · obtain ⟨D, h1, h2⟩ := P.mf; exact ⟨D, map_more h1 hm, h2⟩
  · obtain ⟨D, h1, h2⟩ := P.mK; exact ⟨D, map_more h1 hm, h2⟩
  · obtain ⟨D, h1, h2⟩ := P.mw; exact ⟨D, map_more h1 hm, h2⟩
theorem Pt.ne (P : Pt w h es kf wf most last n) : h.d ≠ h.fm ∧ h.d ≠ h.km ∧ h.d ≠ h.wm ∧ h.fm ≠ h.km ∧ h.fm ≠ h.wm ∧ h.km ≠ h.wm := by
  have hb := P.bases
  unfold base at hb
  simp only [List.nodup_cons, List.mem_cons, List.not_mem_nil, or_false, not_or] at hb
  exact ⟨hb.1.1, hb.1.2.1, hb.1.2.2, hb.2.1.1, hb.2.1.2, hb.2.2.1⟩
theorem Pt.far (P : Pt w h es kf wf most last n) {b : Nat} (hb : b ∈ base h) {e : E} (he : e ∈ es) {x : Nat} (hx : x ∈ e.blocks) : x ≠ b := fun e1 => P.out e he x hx (e1 ▸ hb)
/-- the head turns -/
theorem Pt.head (P : Pt w h es kf wf most last n) (hb : But h.d w w') {last' : Int} (hn : Blk w' h.d 63 (headC h most last')) : Pt w' h es kf wf most last' n := by
  have hk : ∀ i, i < w.heap.size → i ≠ h.d → w'.heap[i]? = w.heap[i]? := fun i hi hne => hb.block i hi fun e => hne (by injection e)
  obtain ⟨n1, n2, n3, _⟩ := P.ne
  refine { P with blk := hn, mf := ?_, mK := ?_, mw := ?_, file := fun e he => ?_, row := fun e he => own_same (P.row e he) fun g hg => hk g (Go.Proofs.Ytjkhfnfimicffaa.own_lt (P.row e he) hg) (P.far (by simp [base]) he (mem_blocks.2 (.inr hg))) }
  · obtain ⟨D, h1, h2⟩ := P.mf; exact ⟨D, map_same h1 (hk _ h1.lt n1.symm), h2⟩
  · obtain ⟨D, h1, h2⟩ := P.mK; exact ⟨D, map_same h1 (hk _ h1.lt n2.symm), h2⟩
  · obtain ⟨D, h1, h2⟩ := P.mw; exact ⟨D, map_same h1 (hk _ h1.lt n3.symm), h2⟩
  · exact (hk e.g (P.file e he).lt (P.far (by simp [base]) he (mem_blocks.2 (.inl rfl)))).trans (P.file e he)
/-- who waits turns -/
theorem Pt.setW (P : Pt w h es kf wf most last n) {D : DataW Unit} {wf' : Int → Option Int} {m : Nat} (hm : n ≤ m) (ho : WOwn w' h m D) (hD : MapI D wf') (hb : But h.wm w w') : Pt w' h es kf wf' most last m := by
  have hk : ∀ i, i < w.heap.size → i ≠ h.wm → w'.heap[i]? = w.heap[i]? := fun i hi hne => hb.block i hi fun e => hne (by injection e)
  obtain ⟨_, _, n3, _, n5, n6⟩ := P.ne
  have P := P.more hm
  refine { P with blk := (hk _ P.blk.lt n3).trans P.blk, mf := ?_, mK := ?_, mw := ⟨D, ho, hD⟩, file := fun e he => ?_, row := fun e he => own_same (P.row e he) fun g hg => hk g (Go.Proofs.Ytjkhfnfimicffaa.own_lt (P.row e he) hg) (P.far (by simp [base]) he (mem_blocks.2 (.inr hg))) }
  · obtain ⟨D, h1, h2⟩ := P.mf; exact ⟨D, map_same h1 (hk _ h1.lt n5), h2⟩
  · obtain ⟨D, h1, h2⟩ := P.mK; exact ⟨D, map_same h1 (hk _ h1.lt n6), h2⟩
  · exact (hk e.g (P.file e he).lt (P.far (by simp [base]) he (mem_blocks.2 (.inl rfl)))).trans (P.file e he)
/-- the keys turn -/
theorem Pt.setK (P : Pt w h es kf wf most last n) {D : DataW Unit} {kf' : Ky → Option Int} {m : Nat} (hm : n ≤ m) (ho : KOwn w' h m D) (hD : MapK D kf') (hb : But h.km w w') : Pt w' h es kf' wf most last m := by
  have hk : ∀ i, i < w.heap.size → i ≠ h.km → w'.heap[i]? = w.heap[i]? := fun i hi hne => hb.block i hi fun e => hne (by injection e)
  obtain ⟨_, n2, _, n4, _, n6⟩ := P.ne
  have P := P.more hm
  refine { P with blk := (hk _ P.blk.lt n2).trans P.blk, mf := ?_, mK := ⟨D, ho, hD⟩, mw := ?_, file := fun e he => ?_, row := fun e he => own_same (P.row e he) fun g hg => hk g (Go.Proofs.Ytjkhfnfimicffaa.own_lt (P.row e he) hg) (P.far (by simp [base]) he (mem_blocks.2 (.inr hg))) }
  · obtain ⟨D, h1, h2⟩ := P.mf; exact ⟨D, map_same h1 (hk _ h1.lt n4), h2⟩
  · obtain ⟨D, h1, h2⟩ := P.mw; exact ⟨D, map_same h1 (hk _ h1.lt n6.symm), h2⟩
  · exact (hk e.g (P.file e he).lt (P.far (by simp [base]) he (mem_blocks.2 (.inl rfl)))).trans (P.file e he)
theorem get_some {i : Int} {e : E} (hg : get i es = some e) : e ∈ es ∧ e.f.id = i := ⟨List.mem_of_find?_eq_some hg, by simpa using List.find?_some hg⟩
theorem get_none {i : Int} (hg : get i es = none) : ∀ e ∈ es, e.f.id ≠ i := fun e he e1 => by
  have := List.find?_eq_none.1 hg e he
  simp [e1] at this
theorem up_sameE (hu : (es.map fun e => e.f.id).Pairwise (· < ·)) {a b : E} (ha : a ∈ es) (hb : b ∈ es) (e : a.f.id = b.f.id) : a = b := by
  induction es with
  | nil => cases ha
  | cons c r ih =>
    rw [List.map_cons, List.pairwise_cons] at hu
    rcases List.mem_cons.1 ha with rfl | ha' <;> rcases List.mem_cons.1 hb with rfl | hb'
    · rfl
    · have := hu.1 b.f.id (List.mem_map.2 ⟨b, hb', rfl⟩); omega
    · have := hu.1 a.f.id (List.mem_map.2 ⟨a, ha', rfl⟩); omega
    · exact ih hu.2 ha' hb'
theorem get_of (hu : (es.map fun e => e.f.id).Pairwise (· < ·)) {e : E} (he : e ∈ es) : get e.f.id es = some e := by
  cases hg : get e.f.id es with
  | none => exact absurd rfl (get_none hg e he)
  | some y => rw [up_sameE hu (get_some hg).1 he (get_some hg).2]
theorem get_upd {e' : E} (i : Int) : get i (updE e' es) = (get i es).map fun e => if e.f.id = e'.f.id then e' else e := by
  unfold get updE
  rw [List.find?_map]
  congr 1
  refine congrFun (congrArg List.find? (funext fun e => ?_)) es
  show (decide ((if e.f.id = e'.f.id then e' else e).f.id = i)) = decide (e.f.id = i)
  by_cases hc : e.f.id = e'.f.id
  · rw [if_pos hc, hc]
  · rw [if_neg hc]
theorem mem_updE {e' x : E} (hx : x ∈ updE e' es) : x = e' ∨ (x ∈ es ∧ x.f.id ≠ e'.f.id) := by
  obtain ⟨y, hy, rfl⟩ := List.mem_map.1 hx
  by_cases hc : y.f.id = e'.f.id
  · rw [if_pos hc]; exact .inl rfl
  · rw [if_neg hc]; exact .inr ⟨hy, hc⟩
theorem ids_upd {e' : E} : (updE e' es).map (fun e => e.f.id) = es.map fun e => e.f.id := by
  unfold updE
  rw [List.map_map]
  refine List.map_congr_left fun e _ => ?_
  show (if e.f.id = e'.f.id then e' else e).f.id = e.f.id
  by_cases hc : e.f.id = e'.f.id
  · rw [if_pos hc, hc]
  · rw [if_neg hc]
/-- a flight turns -/
theorem Pt.entry (P : Pt w h es kf wf most last n) {e e' : E} (he : e ∈ es) (hn : e'.f.id = e.f.id) (hg' : e'.g = e.g)
    (hk : ∀ i, i < w.heap.size → i ∉ e.blocks → w'.heap[i]? = w.heap[i]?)
    (hf : Blk w' e.g 68 (e'.f.key.cells ++ [e'.v])) (hr : w'.ownsRow 0 3 1 e'.v e'.f.who.length (e'.f.who.map (Value.int .i64)))
    (hb : ∀ x, e'.v.ownBlock = some x → (x ≠ e.g ∧ x ∈ e.blocks) ∨ w.heap.size ≤ x) : Pt w' h (updE e' es) kf wf most last n := by
  have hcase : ∀ x ∈ e'.blocks, x ∈ e.blocks ∨ w.heap.size ≤ x := fun x hx => by
    rcases mem_blocks.1 hx with rfl | hx
    · exact .inl (mem_blocks.2 (.inl hg'))
    · rcases hb x hx with h1 | h1
      · exact .inl h1.2
      · exact .inr h1
  have keep : ∀ y ∈ es, y.f.id ≠ e'.f.id → ∀ x ∈ y.blocks, x ∉ e.blocks := fun y hy hyn x hx => P.apart y hy e he (by rw [← hn]; exact hyn) x hx
  have hbase : ∀ x ∈ base h, w'.heap[x]? = w.heap[x]? := fun x hx => hk x (P.base_lt hx) fun hx' => P.out e he x hx' hx
  refine { blk := (hbase _ (by simp [base])).trans P.blk, mf := ?_, mK := ?_, mw := ?_, file := ?_, row := ?_, up := by rw [ids_upd]; exact P.up, apart := ?_, self := ?_, bases := P.bases, out := ?_ }
  · obtain ⟨D, h1, h2, h3⟩ := P.mf
    refine ⟨D, map_same h1 (hbase _ (by simp [base])), by rw [h2]; exact (List.length_map _).symm, fun i => ?_⟩
    rw [get_upd]
    have h4 := h3 i
    cases hgt : get i es with
    | none => rw [hgt] at h4; exact h4
    | some y =>
      rw [hgt] at h4
      have hy := get_some hgt
      rw [Option.map_some]
      by_cases hyn : y.f.id = e'.f.id
      · rw [if_pos hyn]
        have : y = e := up_sameE P.up hy.1 he (hyn.trans hn)
        rw [this] at h4
        refine ⟨h4.1.trans ?_, h4.2⟩
        show _ = DataW.lit (.int .i64 ((e'.g : Int) + 1))
        rw [hg']; rfl
      · rw [if_neg hyn]; exact h4
  · obtain ⟨D, h1, h2⟩ := P.mK; exact ⟨D, map_same h1 (hbase _ (by simp [base])), h2⟩
  · obtain ⟨D, h1, h2⟩ := P.mw; exact ⟨D, map_same h1 (hbase _ (by simp [base])), h2⟩
  · intro x hx
    rcases mem_updE hx with rfl | ⟨hx, hxn⟩
    · rw [hg']; exact hf
    · exact (hk x.g (P.file x hx).lt (keep x hx hxn x.g (mem_blocks.2 (.inl rfl)))).trans (P.file x hx)
  · intro x hx
    rcases mem_updE hx with rfl | ⟨hx, hxn⟩
    · exact hr
    · exact own_same (P.row x hx) fun g hg => hk g (Go.Proofs.Ytjkhfnfimicffaa.own_lt (P.row x hx) hg) (keep x hx hxn g (mem_blocks.2 (.inr hg)))
  · intro a ha b hb' hab x hxa hxb
    have ha1 := ha
    have hb1 := hb'
    clear ha hb'
    rcases mem_updE ha1 with rfl | ⟨ha, han⟩ <;> clear ha1 <;> rcases mem_updE hb1 with rfl | ⟨hb', hbn⟩
    · exact hab rfl
    · rcases hcase x hxa with h1 | h1
      · exact keep b hb' hbn x hxb h1
      · have := P.block_lt hb' hxb; omega
    · rcases hcase x hxb with h1 | h1
      · exact keep a ha han x hxa h1
      · have := P.block_lt ha hxa; omega
    · exact P.apart a ha b hb' hab x hxa hxb
  · intro x hx
    rcases mem_updE hx with rfl | ⟨hx, _⟩
    · intro e1
      rcases hb _ e1 with h1 | h1
      · exact h1.1 hg'
      · have := (P.file e he).lt; omega
    · exact P.self x hx
  · intro x hx y hy
    rcases mem_updE hx with rfl | ⟨hx, _⟩
    · rcases hcase y hy with h1 | h1
      · exact P.out e he y h1
      · intro hy'; have := P.base_lt hy'; omega
    · exact P.out x hx y hy
theorem get_append {e : E} (i : Int) (hn : ∀ y ∈ es, y.f.id ≠ e.f.id) : get i (es ++ [e]) = if e.f.id = i then some e else get i es := by
  unfold get
  rw [List.find?_append]
  by_cases hi : e.f.id = i
  · rw [if_pos hi]
    have : es.find? (fun x => decide (x.f.id = i)) = none := List.find?_eq_none.2 fun y hy => by have := hn y hy; rw [hi] at this; simpa using this
    rw [this]
    simp [hi]
  · rw [if_neg hi]
    simp [hi]
/-- a flight more -/
theorem Pt.add (P : Pt w h es kf wf most last n) {e : E} {D : DataW Unit} {m : Nat} (hm0 : n ≤ m) (hn : ∀ y ∈ es, y.f.id < e.f.id)
    (hD : MapF D es) (ht : Maps.Tidy D) (hm : FOwn w' h m (D.put (.int .i64 e.f.id) (.lit (.int .i64 ((e.g : Int) + 1)))))
    (hk : ∀ i, i < w.heap.size → i ≠ h.fm → w'.heap[i]? = w.heap[i]?)
    (hf : Blk w' e.g 68 (e.f.key.cells ++ [e.v])) (hr : w'.ownsRow 0 3 1 e.v e.f.who.length (e.f.who.map (Value.int .i64))) (hs : e.v.ownBlock ≠ some e.g) (hb : ∀ x ∈ e.blocks, ¬ Own h es x) : Pt w' h (es ++ [e]) kf wf most last m := by
  obtain ⟨n1, n2, n3, n4, n5, n6⟩ := P.ne
  have hne : ∀ y ∈ es, y.f.id ≠ e.f.id := fun y hy => by have := hn y hy; omega
  have hgn : get e.f.id es = none := by
    cases hg : get e.f.id es with
    | none => rfl
    | some y => exact absurd (get_some hg).2 (hne y (get_some hg).1)
  have P := P.more hm0
  have mem : ∀ {x : E}, x ∈ es ++ [e] → x = e ∨ x ∈ es := fun {x} hx => by
    rcases List.mem_append.1 hx with hx | hx
    · exact .inr hx
    · exact .inl (List.mem_singleton.1 hx)
  refine { blk := (hk _ P.blk.lt n1).trans P.blk, mf := ⟨D.put (.int .i64 e.f.id) (.lit (.int .i64 ((e.g : Int) + 1))), hm, ?_, fun i => ?_⟩, mK := ?_, mw := ?_, file := ?_, row := ?_, up := ?_, apart := ?_, self := ?_, bases := P.bases, out := ?_ }
  · rw [Maps.size_put ht, (hD.2 e.f.id).2, hgn, hD.1, List.length_append]; rfl
  · rw [get_append i hne]
    by_cases hen : e.f.id = i
    · rw [if_pos hen, ← hen]
      exact ⟨Maps.atKey_put_same ht.isMap (show WideAt.IsKeyLit (.int .i64 e.f.id) from trivial) _ _, Maps.has_put_same ht.isMap (show WideAt.IsKeyLit (.int .i64 e.f.id) from trivial) _⟩
    · rw [if_neg hen]
      have hne : (Lit.int .i64 i) ≠ .int .i64 e.f.id := fun h => hen (by injection h with _ h; exact h.symm)
      rw [Maps.atKey_put_other hne, Maps.has_put_other hne]
      exact hD.2 i
  · obtain ⟨D, h1, h2⟩ := P.mK; exact ⟨D, map_same h1 (hk _ h1.lt n4.symm), h2⟩
  · obtain ⟨D, h1, h2⟩ := P.mw; exact ⟨D, map_same h1 (hk _ h1.lt n5.symm), h2⟩
  · intro x hx
    rcases mem hx with rfl | hx
    · exact hf
    · exact (hk x.g (P.file x hx).lt (P.far (by simp [base]) hx (mem_blocks.2 (.inl rfl)))).trans (P.file x hx)
  · intro x hx
    rcases mem hx with rfl | hx
    · exact hr
    · exact own_same (P.row x hx) fun g hg => hk g (Go.Proofs.Ytjkhfnfimicffaa.own_lt (P.row x hx) hg) (P.far (by simp [base]) hx (mem_blocks.2 (.inr hg)))
  · rw [List.map_append, List.pairwise_append]
    refine ⟨P.up, List.pairwise_singleton _ _, fun a ha b hb => ?_⟩
    obtain ⟨y, hy, rfl⟩ := List.mem_map.1 ha
    rw [List.map_cons, List.map_nil] at hb
    rw [List.mem_singleton.1 hb]
    exact hn y hy
  · intro a ha b hb' hab x hxa hxb
    have ha1 := ha
    have hb1 := hb'
    clear ha hb'
    rcases mem ha1 with rfl | ha <;> clear ha1 <;> rcases mem hb1 with rfl | hb'
    · exact hab rfl
    · exact hb x hxa (.inr ⟨b, hb', hxb⟩)
    · exact hb x hxb (.inr ⟨a, ha, hxa⟩)
    · exact P.apart a ha b hb' hab x hxa hxb
  · intro x hx
    rcases mem hx with rfl | hx
    · exact hs
    · exact P.self x hx
  · intro x hx y hy
    rcases mem hx with rfl | hx
    · exact fun e1 => hb y hy (.inl e1)
    · exact P.out x hx y hy
theorem mem_delE {i : Int} {x : E} : x ∈ delE i es ↔ x ∈ es ∧ x.f.id ≠ i := by
  unfold delE
  rw [List.mem_filter]
  simp
theorem get_del (j i : Int) : get i (delE j es) = if j = i then none else get i es := by
  unfold get delE
  by_cases hji : j = i
  · rw [if_pos hji]
    refine List.find?_eq_none.2 fun y hy => ?_
    have := (List.mem_filter.1 hy).2
    rw [hji] at this
    simpa using this
  · rw [if_neg hji, List.find?_filter]
    refine congrFun (congrArg List.find? (funext fun e => ?_)) es
    by_cases hc : e.f.id = i
    · simp [hc]; exact fun e => hji e.symm
    · simp [hc]
theorem length_delE (hu : (es.map fun e => e.f.id).Pairwise (· < ·)) {e : E} (he : e ∈ es) : (delE e.f.id es).length + 1 = es.length := by
  induction es with
  | nil => cases he
  | cons c r ih =>
    rw [List.map_cons, List.pairwise_cons] at hu
    rcases List.mem_cons.1 he with rfl | he'
    · have e2 : delE e.f.id (e :: r) = r := by
        unfold delE
        rw [List.filter_cons_of_neg (by simp)]
        exact List.filter_eq_self.2 fun g hg => by have := hu.1 g.f.id (List.mem_map.2 ⟨g, hg, rfl⟩); simp; omega
      rw [e2]; rfl
    · have hc : c.f.id ≠ e.f.id := fun e1 => by have := hu.1 e.f.id (List.mem_map.2 ⟨e, he', rfl⟩); omega
      have e2 : delE e.f.id (c :: r) = c :: delE e.f.id r := by
        unfold delE
        rw [List.filter_cons_of_pos (by simpa using hc)]
      rw [e2, List.length_cons, ih hu.2 he', List.length_cons]
/-- a flight less -/
theorem Pt.drop (P : Pt w h es kf wf most last n) {e : E} {D : DataW Unit} (he : e ∈ es)
    (hD : MapF D es) (ht : Maps.Tidy D) (hm : FOwn w' h n (D.del (.int .i64 e.f.id)))
    (hk : ∀ i, i < w.heap.size → i ≠ h.fm → w'.heap[i]? = w.heap[i]?) : Pt w' h (delE e.f.id es) kf wf most last n := by
  obtain ⟨n1, n2, n3, n4, n5, n6⟩ := P.ne
  refine { blk := (hk _ P.blk.lt n1).trans P.blk, mf := ⟨D.del (.int .i64 e.f.id), hm, ?_, fun i => ?_⟩, mK := ?_, mw := ?_, file := ?_, row := ?_, up := ?_, apart := ?_, self := ?_, bases := P.bases, out := ?_ }
  · have h1 := Maps.size_del (k := .int .i64 e.f.id) ht
    have h2 := length_delE P.up he
    rw [(hD.2 e.f.id).2, get_of P.up he, hD.1] at h1
    simp at h1
    omega
  · rw [get_del]
    by_cases hen : e.f.id = i
    · rw [if_pos hen, ← hen]
      exact ⟨Maps.atKey_del_same _, Maps.has_del_same⟩
    · rw [if_neg hen]
      have hne : (Lit.int .i64 i) ≠ .int .i64 e.f.id := fun h => hen (by injection h with _ h; exact h.symm)
      rw [Maps.atKey_del_other hne, Maps.has_del_other hne]
      exact hD.2 i
  · obtain ⟨D, h1, h2⟩ := P.mK; exact ⟨D, map_same h1 (hk _ h1.lt n4.symm), h2⟩
  · obtain ⟨D, h1, h2⟩ := P.mw; exact ⟨D, map_same h1 (hk _ h1.lt n5.symm), h2⟩
  · intro x hx
    have hx := (mem_delE.1 hx).1
    exact (hk x.g (P.file x hx).lt (P.far (by simp [base]) hx (mem_blocks.2 (.inl rfl)))).trans (P.file x hx)
  · intro x hx
    have hx := (mem_delE.1 hx).1
    exact own_same (P.row x hx) fun g hg => hk g (Go.Proofs.Ytjkhfnfimicffaa.own_lt (P.row x hx) hg) (P.far (by simp [base]) hx (mem_blocks.2 (.inr hg)))
  · exact P.up.sublist (List.filter_sublist.map _)
  · intro a ha b hb'
    exact P.apart a (mem_delE.1 ha).1 b (mem_delE.1 hb').1
  · intro x hx
    exact P.self x (mem_delE.1 hx).1
  · intro x hx
    exact P.out x (mem_delE.1 hx).1
theorem own_del {i : Int} {x : Nat} (ho : Own h (delE i es) x) : Own h es x := by
  rcases ho with ho | ⟨e, he, ho⟩
  · exact .inl ho
  · exact .inr ⟨e, (mem_delE.1 he).1, ho⟩
theorem own_app {e : E} {x : Nat} (ho : Own h (es ++ [e]) x) : x ∈ e.blocks ∨ Own h es x := by
  rcases ho with ho | ⟨y, hy, ho⟩
  · exact .inr (.inl ho)
  · rcases List.mem_append.1 hy with hy | hy
    · exact .inr (.inr ⟨y, hy, ho⟩)
    · rw [List.mem_singleton.1 hy] at ho; exact .inl ho
theorem own_upd {e : E} {x : Nat} (ho : Own h (updE e es) x) : x ∈ e.blocks ∨ Own h es x := by
  rcases ho with ho | ⟨y, hy, ho⟩
  · exact .inr (.inl ho)
  · rcases mem_updE hy with rfl | hy
    · exact .inl ho
    · exact .inr (.inr ⟨y, hy.1, ho⟩)
end
-- the maps' data turn
section
variable {D : DataW Unit}
theorem MapI.put {f : Int → Option Int} (hD : MapI D f) (ht : Maps.Tidy D) (i v : Int) : MapI (D.put (.int .i64 i) (.lit (.int .i64 v))) (fun x => if x = i then some v else f x) := fun x => by
  by_cases hx : x = i
  · subst hx
    dsimp only
    rw [if_pos rfl]
    exact ⟨Maps.atKey_put_same ht.isMap (show WideAt.IsKeyLit (.int .i64 x) from trivial) _ _, Maps.has_put_same ht.isMap (show WideAt.IsKeyLit (.int .i64 x) from trivial) _⟩
  · dsimp only
    rw [if_neg hx]
    have hne : (Lit.int .i64 x) ≠ .int .i64 i := fun h => hx (by injection h)
    rw [Maps.atKey_put_other hne, Maps.has_put_other hne]
    exact hD x
theorem MapI.del {f : Int → Option Int} (hD : MapI D f) (i : Int) : MapI (D.del (.int .i64 i)) (fun x => if x = i then none else f x) := fun x => by
  by_cases hx : x = i
  · subst hx
    dsimp only
    rw [if_pos rfl]
    exact ⟨Maps.atKey_del_same _, Maps.has_del_same⟩
  · dsimp only
    rw [if_neg hx]
    have hne : (Lit.int .i64 x) ≠ .int .i64 i := fun h => hx (by injection h)
    rw [Maps.atKey_del_other hne, Maps.has_del_other hne]
    exact hD x
end
end Py
end Go.Proofs.Ytjkhfnfimicffaa

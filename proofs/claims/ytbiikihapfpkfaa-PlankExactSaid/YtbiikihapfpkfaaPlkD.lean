/- A disk in memory: its head, its map of files, the files, their rows. -/
import Derived.Test.YtbiikihapfpkfaaPRow
import Derived.Test.YtbiikihapfpkfaaBlk
import Derived.Test.YtbiikihapfpkfaaNamed
import Derived.Maps.OwnSet
import Derived.Maps.Views
import Derived.Sort.KeysCollected
set_option linter.unusedSimpArgs false
set_option linter.unusedVariables false
set_option linter.unusedSectionVars false
namespace Go.Proofs.Ytbiikihapfpkfaa
open Go Go.RowKit
theorem PRow.same {w w' : World} {v : Value} {l : List UInt8} (h : PRow w v l) (hk : ∀ g, v.ownBlock = some g → w'.heap[g]? = w.heap[g]?) : PRow w' v l := by
  rcases h with h1 | ⟨g, cap, cur, fz, e1, h1, h2⟩
  · exact .inl h1
  · exact .inr ⟨g, cap, cur, fz, e1, (hk g (by rw [e1]; rfl)).trans h1, h2⟩
namespace Plk
structure F where
  name : List UInt8
  l : List UInt8
  safe : Nat
/-- a file: its block, its slice -/
structure E where
  f : F
  g : Nat
  v : Value
abbrev E.nm (e : E) : List UInt8 := e.f.name
structure H where
  room : Int
  used : Int
  ops : Int
  off : Bool
  ak : Int
  af : Int
  al : Int
def H.head (s : H) (mp : Nat) : List Value := [.map (some mp), .int .i64 s.room, .int .i64 s.used, .int .i64 s.ops, .bool s.off, .int .i64 s.ak, .int .i64 s.af, .int .i64 s.al]
def E.blocks (e : E) : List Nat := e.g :: e.v.ownBlock.toList
theorem mem_blocks {e : E} {x : Nat} : x ∈ e.blocks ↔ x = e.g ∨ e.v.ownBlock = some x := by
  unfold E.blocks
  rw [List.mem_cons]
  cases e.v.ownBlock <;> simp [eq_comm]
/-- a pointer, as the map's datum has it -/
def ptrR (v : Value) : Option (DataW Unit × List MemPlace) := match v with
  | .pointer none => some (.lit (.int .i64 0), [])
  | .pointer (some ⟨g, 0, none⟩) => some (.lit (.int .i64 ((g : Int) + 1)), [])
  | _ => none
def ptrV : Option E → Value
  | none => .pointer none
  | some e => .pointer (some ⟨e.g, 0, none⟩)
def ptrN : Option E → Int
  | none => 0
  | some e => (e.g : Int) + 1
theorem ptrR_of {v : Value} {o : Option E} {ps : List MemPlace} (h : ptrR v = some (.lit (.int .i64 (ptrN o)), ps)) : v = ptrV o := by
  unfold ptrR at h
  split at h
  · cases o with
    | none => rfl
    | some e =>
      injection h with h
      injection h with h _
      injection h with h
      injection h with _ h
      have : (0 : Int) = (e.g : Int) + 1 := h
      omega
  · rename_i g
    cases o with
    | none =>
      injection h with h
      injection h with h _
      injection h with h
      injection h with _ h
      have : ((g : Nat) : Int) + 1 = 0 := h
      omega
    | some e =>
      injection h with h
      injection h with h _
      injection h with h
      injection h with _ h
      have h : ((g : Nat) : Int) + 1 = (e.g : Int) + 1 := h
      have : g = e.g := by omega
      rw [this]; rfl
  · cases h
def zeroP : DataW Unit := .lit (.int .i64 0)
def Own (d mp : Nat) (es : List E) (x : Nat) : Prop := x = d ∨ x = mp ∨ ∃ e ∈ es, x ∈ e.blocks
/-- the map's datum -/
def MapD (D : DataW Unit) (es : List E) : Prop := Maps.size D = es.length ∧ ∀ n, D.atKey (.string n) zeroP = .lit (.int .i64 (ptrN (Nmd.get E.nm n es))) ∧ Maps.has D (.string n) = (Nmd.get E.nm n es).isSome
structure Dk (w : World) (d mp : Nat) (es : List E) (s : H) : Prop where
  blk : Blk w d 64 (s.head mp)
  map : ∃ D, w.ownsMap Try.prog 9 ptrR mp es.length D ∧ MapD D es
  file : ∀ e ∈ es, Blk w e.g 69 [e.v, .int .i64 (e.f.safe : Int)]
  row : ∀ e ∈ es, PRow w e.v e.f.l
  up : Nmd.Up E.nm es
  apart : ∀ a ∈ es, ∀ b ∈ es, a.nm ≠ b.nm → ∀ x ∈ a.blocks, x ∉ b.blocks
  self : ∀ e ∈ es, e.v.ownBlock ≠ some e.g
  dm : d ≠ mp
  out : ∀ e ∈ es, ∀ x ∈ e.blocks, x ≠ d ∧ x ≠ mp
structure Turn (d mp : Nat) (w : World) (es : List E) (w' : World) (es' : List E) : Prop where
  os : w'.os = w.os
  tape : w'.tape = w.tape
  output : w'.output = w.output
  size : w.heap.size ≤ w'.heap.size
  kept : ∀ i, i < w.heap.size → ¬ Own d mp es i → w'.heap[i]? = w.heap[i]?
  own : ∀ i, Own d mp es' i → Own d mp es i ∨ w.heap.size ≤ i
theorem Turn.refl (d mp : Nat) (w : World) (es : List E) : Turn d mp w es w es := ⟨rfl, rfl, rfl, Nat.le_refl _, fun _ _ _ => rfl, fun _ h => .inl h⟩
theorem Turn.ext {d mp : Nat} {w w' : World} {es : List E} (h : Reg.Ext w w') : Turn d mp w es w' es := ⟨h.os, h.tape, h.output, h.size, fun i hi _ => h.block i hi, fun _ h => .inl h⟩
theorem Turn.trans {d mp : Nat} {w w1 w2 : World} {es es1 es2 : List E} (h : Turn d mp w es w1 es1) (h1 : Turn d mp w1 es1 w2 es2) : Turn d mp w es w2 es2 := by
  refine ⟨h1.os.trans h.os, h1.tape.trans h.tape, h1.output.trans h.output, Nat.le_trans h.size h1.size, fun i hi hn => ?_, fun i hi => ?_⟩
  · refine (h1.kept i (Nat.lt_of_lt_of_le hi h.size) fun ho => ?_).trans (h.kept i hi hn)
    rcases h.own i ho with h2 | h2
    · exact hn h2
    · omega
  · rcases h1.own i hi with h2 | h2
    · exact h.own i h2
    · exact .inr (Nat.le_trans h.size h2)
theorem Dk.mp_lt {w : World} {d mp : Nat} {es : List E} {s : H} (h : Dk w d mp es s) : mp < w.heap.size := by
  obtain ⟨D, h1, _⟩ := h.map
  exact h1.lt
theorem Dk.block_lt {w : World} {d mp : Nat} {es : List E} {s : H} (h : Dk w d mp es s) {e : E} (he : e ∈ es) {x : Nat} (hx : x ∈ e.blocks) : x < w.heap.size := by
  rcases mem_blocks.1 hx with rfl | hx
  · exact (h.file e he).lt
  · exact (h.row e he).lt hx
theorem Dk.own_lt {w : World} {d mp : Nat} {es : List E} {s : H} (h : Dk w d mp es s) {x : Nat} (hx : Own d mp es x) : x < w.heap.size := by
  rcases hx with rfl | rfl | ⟨e, he, hx⟩
  · exact h.blk.lt
  · exact h.mp_lt
  · exact h.block_lt he hx
theorem own_g {d mp : Nat} {es : List E} {e : E} (he : e ∈ es) : Own d mp es e.g := .inr (.inr ⟨e, he, mem_blocks.2 (.inl rfl)⟩)
theorem own_v {d mp : Nat} {es : List E} {e : E} (he : e ∈ es) {x : Nat} (hx : e.v.ownBlock = some x) : Own d mp es x := .inr (.inr ⟨e, he, mem_blocks.2 (.inr hx)⟩)
theorem map_same {w w' : World} {mp n : Nat} {D : DataW Unit} (h : w.ownsMap Try.prog 9 ptrR mp n D) (hk : w'.heap[mp]? = w.heap[mp]?) : w'.ownsMap Try.prog 9 ptrR mp n D := by
  obtain ⟨es, clock, hb, hh⟩ := h
  exact ⟨es, clock, hk.trans hb, hh⟩
theorem map_tight {w : World} {mp n : Nat} {D : DataW Unit} (h : w.ownsMap Try.prog 9 ptrR mp n D) : w.ownsMap Try.prog 9 ptrR mp (Maps.size D) D := by
  obtain ⟨es, clock, hb, F, hs, hD⟩ := h
  refine ⟨es, clock, hb, F, ?_, hD⟩
  rw [hD]
  simp [Maps.size, length_sorted]
theorem Dk.same {w w' : World} {d mp : Nat} {es : List E} {s : H} (h : Dk w d mp es s) (hk : ∀ i, Own d mp es i → w'.heap[i]? = w.heap[i]?) : Dk w' d mp es s := by
  refine { h with blk := (hk d (.inl rfl)).trans h.blk, map := ?_, file := fun e he => (hk e.g (own_g he)).trans (h.file e he), row := fun e he => (h.row e he).same fun g hg => hk g (own_v he hg) }
  obtain ⟨D, h1, h2⟩ := h.map
  exact ⟨D, map_same h1 (hk mp (.inr (.inl rfl))), h2⟩
theorem Dk.ext {w w' : World} {d mp : Nat} {es : List E} {s : H} (h : Dk w d mp es s) (hx : Reg.Ext w w') : Dk w' d mp es s :=
  h.same fun i hi => hx.block i (h.own_lt hi)
/-- the head turns -/
theorem Dk.turn {w w' : World} {d mp : Nat} {es : List E} {s s' : H} (h : Dk w d mp es s) (hk : ∀ i, i < w.heap.size → i ≠ d → w'.heap[i]? = w.heap[i]?) (hb : Blk w' d 64 (s'.head mp)) : Dk w' d mp es s' := by
  refine { h with blk := hb, map := ?_, file := fun e he => ?_, row := fun e he => ?_ }
  · obtain ⟨D, h1, h2⟩ := h.map
    exact ⟨D, map_same h1 (hk mp h.mp_lt (Ne.symm h.dm)), h2⟩
  · exact (hk e.g (h.file e he).lt (h.out e he e.g (mem_blocks.2 (.inl rfl))).1).trans (h.file e he)
  · exact (h.row e he).same fun g hg => hk g ((h.row e he).lt hg) (h.out e he g (mem_blocks.2 (.inr hg))).1
/-- a file turns -/
theorem Dk.entry {w w' : World} {d mp : Nat} {es : List E} {s : H} {e e' : E} (h : Dk w d mp es s) (he : e ∈ es) (hn : e'.nm = e.nm) (hg' : e'.g = e.g)
    (hk : ∀ i, i < w.heap.size → i ∉ e.blocks → w'.heap[i]? = w.heap[i]?)
    (hf : Blk w' e.g 69 [e'.v, .int .i64 (e'.f.safe : Int)]) (hr : PRow w' e'.v e'.f.l) (hb : ∀ x, e'.v.ownBlock = some x → (x ≠ e.g ∧ x ∈ e.blocks) ∨ w.heap.size ≤ x) : Dk w' d mp (Nmd.upd E.nm e' es) s := by
  have hcase : ∀ x ∈ e'.blocks, x ∈ e.blocks ∨ w.heap.size ≤ x := fun x hx => by
    rcases mem_blocks.1 hx with rfl | hx
    · exact .inl (mem_blocks.2 (.inl hg'))
    · rcases hb x hx with h1 | h1
      · exact .inl h1.2
      · exact .inr h1
  have keep : ∀ y ∈ es, y.nm ≠ e'.nm → ∀ x ∈ y.blocks, x ∉ e.blocks := fun y hy hyn x hx => h.apart y hy e he (by rw [← hn]; exact hyn) x hx
  refine { blk := ?_, map := ?_, file := ?_, row := ?_, up := h.up.upd e', apart := ?_, self := ?_, dm := h.dm, out := ?_ }
  · exact (hk d h.blk.lt fun hx => (h.out e he d hx).1 rfl).trans h.blk
  · obtain ⟨D, h1, h2, h3⟩ := h.map
    refine ⟨D, ?_, ?_, fun n => ?_⟩
    · rw [Nmd.length_upd]
      exact map_same h1 (hk mp h.mp_lt fun hx => (h.out e he mp hx).2 rfl)
    · rw [Nmd.length_upd]; exact h2
    · rw [Nmd.get_upd]
      have h4 := h3 n
      cases hgt : Nmd.get E.nm n es with
      | none => rw [hgt] at h4; exact h4
      | some y =>
        rw [hgt] at h4
        have hy := Nmd.get_mem hgt
        rw [Option.map_some]
        by_cases hyn : y.nm = e'.nm
        · rw [if_pos hyn]
          have : y = e := h.up.same y hy.1 e he (hyn.trans hn)
          rw [this] at h4
          refine ⟨h4.1.trans ?_, h4.2⟩
          show _ = DataW.lit (.int .i64 ((e'.g : Int) + 1))
          rw [hg']; rfl
        · rw [if_neg hyn]; exact h4
  · intro x hx
    rcases Nmd.mem_upd hx with rfl | ⟨hx, hxn⟩
    · rw [hg']; exact hf
    · exact (hk x.g (h.file x hx).lt (keep x hx hxn x.g (mem_blocks.2 (.inl rfl)))).trans (h.file x hx)
  · intro x hx
    rcases Nmd.mem_upd hx with rfl | ⟨hx, hxn⟩
    · exact hr
    · exact (h.row x hx).same fun g hg => hk g ((h.row x hx).lt hg) (keep x hx hxn g (mem_blocks.2 (.inr hg)))
  · intro a ha b hb' hab x hxa hxb
    have ha1 := ha
    have hb1 := hb'
    clear ha hb'
    rcases Nmd.mem_upd ha1 with rfl | ⟨ha, han⟩ <;> clear ha1 <;> rcases Nmd.mem_upd hb1 with rfl | ⟨hb', hbn⟩
    · exact hab rfl
    · rcases hcase x hxa with h1 | h1
      · exact keep b hb' hbn x hxb h1
      · have := h.block_lt hb' hxb; omega
    · rcases hcase x hxb with h1 | h1
      · exact keep a ha han x hxa h1
      · have := h.block_lt ha hxa; omega
    · exact h.apart a ha b hb' hab x hxa hxb
  · intro x hx
    rcases Nmd.mem_upd hx with rfl | ⟨hx, _⟩
    · intro e1
      rcases hb _ e1 with h1 | h1
      · exact h1.1 hg'
      · have := (h.file e he).lt; omega
    · exact h.self x hx
  · intro x hx y hy
    rcases Nmd.mem_upd hx with rfl | ⟨hx, _⟩
    · rcases hcase y hy with h1 | h1
      · exact h.out e he y h1
      · have := h.blk.lt
        have := h.mp_lt
        exact ⟨by omega, by omega⟩
    · exact h.out x hx y hy
/-- a file more -/
theorem Dk.add {w w' : World} {d mp : Nat} {es : List E} {s : H} {e : E} {D : DataW Unit} (h : Dk w d mp es s) (hn : ∀ y ∈ es, y.nm ≠ e.nm)
    (hD : MapD D es) (ht : Maps.Tidy D) (hm : w'.ownsMap Try.prog 9 ptrR mp (es.length + 1) (D.put (.string e.nm) (.lit (.int .i64 ((e.g : Int) + 1)))))
    (hk : ∀ i, i < w.heap.size → i ≠ mp → w'.heap[i]? = w.heap[i]?)
    (hf : Blk w' e.g 69 [e.v, .int .i64 (e.f.safe : Int)]) (hr : PRow w' e.v e.f.l) (hs : e.v.ownBlock ≠ some e.g) (hb : ∀ x ∈ e.blocks, ¬ Own d mp es x) : Dk w' d mp (Nmd.ins E.nm e es) s := by
  refine { blk := ?_, map := ⟨D.put (.string e.nm) (.lit (.int .i64 ((e.g : Int) + 1))), ?_, ?_, fun n => ?_⟩, file := ?_, row := ?_, up := h.up.ins hn, apart := ?_, self := ?_, dm := h.dm, out := ?_ }
  · exact (hk d h.blk.lt h.dm).trans h.blk
  · rw [Nmd.length_ins]; exact hm
  · rw [Nmd.length_ins, Maps.size_put ht, (hD.2 e.nm).2, Nmd.get_none_of hn, hD.1]; rfl
  · rw [Nmd.get_ins hn]
    by_cases hen : e.nm = n
    · rw [if_pos hen, ← hen]
      exact ⟨Maps.atKey_put_same ht.isMap (show WideAt.IsKeyLit (.string e.nm) from trivial) _ _, Maps.has_put_same ht.isMap (show WideAt.IsKeyLit (.string e.nm) from trivial) _⟩
    · rw [if_neg hen]
      have hne : (Lit.string n) ≠ .string e.nm := fun h => hen (by injection h with h; exact h.symm)
      rw [Maps.atKey_put_other hne, Maps.has_put_other hne]
      exact hD.2 n
  · intro x hx
    rcases Nmd.mem_ins.1 hx with rfl | hx
    · exact hf
    · exact (hk x.g (h.file x hx).lt (h.out x hx x.g (mem_blocks.2 (.inl rfl))).2).trans (h.file x hx)
  · intro x hx
    rcases Nmd.mem_ins.1 hx with rfl | hx
    · exact hr
    · exact (h.row x hx).same fun g hg => hk g ((h.row x hx).lt hg) (h.out x hx g (mem_blocks.2 (.inr hg))).2
  · intro a ha b hb' hab x hxa hxb
    have ha1 := ha
    have hb1 := hb'
    clear ha hb'
    rcases Nmd.mem_ins.1 ha1 with rfl | ha <;> clear ha1 <;> rcases Nmd.mem_ins.1 hb1 with rfl | hb'
    · exact hab rfl
    · exact hb x hxa (.inr (.inr ⟨b, hb', hxb⟩))
    · exact hb x hxb (.inr (.inr ⟨a, ha, hxa⟩))
    · exact h.apart a ha b hb' hab x hxa hxb
  · intro x hx
    rcases Nmd.mem_ins.1 hx with rfl | hx
    · exact hs
    · exact h.self x hx
  · intro x hx y hy
    rcases Nmd.mem_ins.1 hx with rfl | hx
    · exact ⟨fun e1 => hb y hy (.inl e1), fun e1 => hb y hy (.inr (.inl e1))⟩
    · exact h.out x hx y hy
/-- a file less -/
theorem Dk.drop {w w' : World} {d mp : Nat} {es : List E} {s : H} {e : E} {D : DataW Unit} (h : Dk w d mp es s) (he : e ∈ es)
    (hD : MapD D es) (ht : Maps.Tidy D) (hm : w'.ownsMap Try.prog 9 ptrR mp es.length (D.del (.string e.nm)))
    (hk : ∀ i, i < w.heap.size → i ≠ mp → w'.heap[i]? = w.heap[i]?) : Dk w' d mp (Nmd.del E.nm e.nm es) s := by
  have hge : Nmd.get E.nm e.nm es = some e := by
    cases hgt : Nmd.get E.nm e.nm es with
    | none => exact absurd rfl (Nmd.get_none hgt e he)
    | some y => rw [h.up.same y (Nmd.get_mem hgt).1 e he (Nmd.get_mem hgt).2]
  have hlen := Nmd.length_del h.up hge
  have hsz : Maps.size (D.del (.string e.nm)) = (Nmd.del E.nm e.nm es).length := by
    have := Maps.size_del (k := .string e.nm) ht
    rw [(hD.2 e.nm).2, hge, hD.1] at this
    simp at this
    omega
  refine { blk := ?_, map := ⟨D.del (.string e.nm), ?_, hsz, fun n => ?_⟩, file := ?_, row := ?_, up := h.up.del _, apart := ?_, self := ?_, dm := h.dm, out := ?_ }
  · exact (hk d h.blk.lt h.dm).trans h.blk
  · rw [← hsz]; exact map_tight hm
  · rw [Nmd.get_del]
    by_cases hen : e.nm = n
    · rw [if_pos hen, ← hen]
      exact ⟨Maps.atKey_del_same _, Maps.has_del_same⟩
    · rw [if_neg hen]
      have hne : (Lit.string n) ≠ .string e.nm := fun h => hen (by injection h with h; exact h.symm)
      rw [Maps.atKey_del_other hne, Maps.has_del_other hne]
      exact hD.2 n
  · intro x hx
    have hx := (Nmd.mem_del.1 hx).1
    exact (hk x.g (h.file x hx).lt (h.out x hx x.g (mem_blocks.2 (.inl rfl))).2).trans (h.file x hx)
  · intro x hx
    have hx := (Nmd.mem_del.1 hx).1
    exact (h.row x hx).same fun g hg => hk g ((h.row x hx).lt hg) (h.out x hx g (mem_blocks.2 (.inr hg))).2
  · intro a ha b hb'
    exact h.apart a (Nmd.mem_del.1 ha).1 b (Nmd.mem_del.1 hb').1
  · intro x hx
    exact h.self x (Nmd.mem_del.1 hx).1
  · intro x hx
    exact h.out x (Nmd.mem_del.1 hx).1
theorem own_drop {d mp : Nat} {es : List E} {n : List UInt8} {x : Nat} (h : Own d mp (Nmd.del E.nm n es) x) : Own d mp es x := by
  rcases h with h | h | ⟨e, he, h⟩
  · exact .inl h
  · exact .inr (.inl h)
  · exact .inr (.inr ⟨e, (Nmd.mem_del.1 he).1, h⟩)
theorem own_add {d mp : Nat} {es : List E} {e : E} {x : Nat} (h : Own d mp (Nmd.ins E.nm e es) x) : x ∈ e.blocks ∨ Own d mp es x := by
  rcases h with h | h | ⟨y, hy, h⟩
  · exact .inr (.inl h)
  · exact .inr (.inr (.inl h))
  · rcases Nmd.mem_ins.1 hy with rfl | hy
    · exact .inl h
    · exact .inr (.inr (.inr ⟨y, hy, h⟩))
theorem own_upd {d mp : Nat} {es : List E} {e : E} {x : Nat} (h : Own d mp (Nmd.upd E.nm e es) x) : x ∈ e.blocks ∨ Own d mp es x := by
  rcases h with h | h | ⟨y, hy, h⟩
  · exact .inr (.inl h)
  · exact .inr (.inr (.inl h))
  · rcases Nmd.mem_upd hy with rfl | hy
    · exact .inl h
    · exact .inr (.inr (.inr ⟨y, hy.1, h⟩))
/-- the map's keys -/
theorem keys_perm {w : World} {mp n : Nat} {es : List E} {D : DataW Unit} (hm : w.ownsMap Try.prog 9 ptrR mp n D) (hD : MapD D es) (hu : Nmd.Up E.nm es) : (Go.strKeys D).Perm (es.map E.nm) := by
  obtain ⟨xs, hx, hp⟩ := hm.tidy (Maps.string_keyed Try.underlying9)
  obtain ⟨xs', hx', hk⟩ := hm.keysOf
  have e1 : xs' = xs := by
    have := hx'.symm.trans hx
    injection this
  subst e1 hx
  refine (Go.perm_strKeys hp (fun p hp' => ?_) ?_ fun n => ?_).symm
  · obtain ⟨v, hv⟩ := hk p hp'
    obtain ⟨x, _, hx, _⟩ := Go.Maps.keyOf_str Try.underlying9 hv
    exact ⟨x, hx⟩
  · exact (Nmd.up_names.1 hu).imp fun h e => by rw [e] at h; exact List.lt_irrefl _ h
  · rw [(hD.2 n).2]
    cases hg : Nmd.get E.nm n es with
    | none =>
      refine ⟨fun hx => ?_, fun h => by cases h⟩
      obtain ⟨y, hy, hn⟩ := List.mem_map.1 hx
      exact absurd hn (Nmd.get_none hg y hy)
    | some y =>
      have := Nmd.get_mem hg
      exact ⟨fun _ => rfl, fun _ => List.mem_map.2 ⟨y, this.1, this.2⟩⟩
end Plk
end Go.Proofs.Ytbiikihapfpkfaa

/- Made by merge.py from: Named PRow PlkD PlkN. -/
import Derived.Test.YtafeealbdpmdkaaGreatDoorProg
import Derived.Test.YtafeealbdpmdkaaGreatDoorBufS
import Derived.Test.YtafeealbdpmdkaaGreatDoorBlk
import Derived.Maps.OwnSet
import Derived.Maps.Views
import Derived.Sort.KeysCollected
import Derived.Test.YtafeealbdpmdkaaGreatDoorWords
set_option linter.unusedSimpArgs false
set_option linter.unusedVariables false
set_option linter.unusedSectionVars false
set_option maxRecDepth 100000
/- Lists in which each has a name of its own, rising by it. -/
open List renaming size_toArray → z_a
-- squeezed
namespace Go.Proofs.YtafeealbdpmdkaaGreatDoor
open Go
namespace Nmd
variable {α β : Type}
abbrev Nm := List UInt8
def get (nm : α → Nm) (n : Nm) (l : List α) : Option α := l.find? fun y => nm y == n
def ins (nm : α → Nm) (x : α) : List α → List α
 | [] => [x]
 | y :: l => if nm y < nm x then y :: ins nm x l else x :: y :: l
def del (nm : α → Nm) (n : Nm) (l : List α) : List α := l.filter fun y => !(nm y == n)
def upd (nm : α → Nm) (x : α) (l : List α) : List α := l.map fun y => if nm y = nm x then x else y
def Up (nm : α → Nm) (l : List α) : Prop := l.Pairwise fun a b => nm a < nm b
theorem get_mem {nm : α → Nm} {n : Nm} {l : List α} {x : α} (h : get nm n l = some x) : x ∈ l ∧ nm x = n :=
 ⟨List.mem_of_find?_eq_some h, eq_of_beq (List.find?_some (p := fun y => nm y == n) h)⟩
theorem get_none {nm : α → Nm} {n : Nm} {l : List α} (h : get nm n l = none) : ∀ x ∈ l, nm x ≠ n := by
 intro x hx hn
 exact List.find?_eq_none.1 h x hx (by rw [hn]; exact beq_self_eq_true n)
theorem get_none_of {nm : α → Nm} {n : Nm} {l : List α} (h : ∀ x ∈ l, nm x ≠ n) : get nm n l = none := by
 refine List.find?_eq_none.2 fun x hx hn => h x hx (eq_of_beq hn)
theorem get_cons (nm : α → Nm) (n : Nm) (x : α) (l : List α) : get nm n (x :: l) = if nm x = n then some x else get nm n l := by
 unfold get
 rw [List.find?_cons]
 by_cases h : nm x = n
 ·rw [if_pos h, h, beq_self_eq_true]
 ·rw [if_neg h, beq_eq_false_iff_ne.2 h]
theorem mem_ins {nm : α → Nm} {x y : α} {l : List α} : y ∈ ins nm x l ↔ y = x ∨ y ∈ l := by
 induction l with
 | nil => simp [ins]
 | cons z l ih =>
   unfold ins
   by_cases h : nm z < nm x
   ·rw [if_pos h, List.mem_cons, ih, List.mem_cons]
    constructor
    ·rintro (h | h | h)
     ·exact .inr (.inl h)
     ·exact .inl h
     ·exact .inr (.inr h)
    ·rintro (h | h | h)
     ·exact .inr (.inl h)
     ·exact .inl h
     ·exact .inr (.inr h)
   ·rw [if_neg h, List.mem_cons]
theorem mem_del {nm : α → Nm} {n : Nm} {y : α} {l : List α} : y ∈ del nm n l ↔ y ∈ l ∧ nm y ≠ n := by
 unfold del
 rw [List.mem_filter]
 simp
theorem mem_upd {nm : α → Nm} {x y : α} {l : List α} (h : y ∈ upd nm x l) : y = x ∨ (y ∈ l ∧ nm y ≠ nm x) := by
 obtain ⟨z, hz, rfl⟩ := List.mem_map.1 h
 by_cases hn : nm z = nm x
 ·rw [if_pos hn]; exact .inl rfl
 ·rw [if_neg hn]; exact .inr ⟨hz, hn⟩
theorem length_ins (nm : α → Nm) (x : α) (l : List α) : (ins nm x l).length = l.length + 1 := by
 induction l with
 | nil => rfl
 | cons z l ih =>
   unfold ins
   by_cases h : nm z < nm x
   ·rw [if_pos h, List.length_cons, ih, List.length_cons]
   ·rw [if_neg h, List.length_cons, List.length_cons]
theorem length_upd (nm : α → Nm) (x : α) (l : List α) : (upd nm x l).length = l.length := List.length_map _
theorem up_nil (nm : α → Nm) : Up nm ([] : List α) := List.Pairwise.nil
theorem Up.ne {nm : α → Nm} {l : List α} (h : Up nm l) : l.Pairwise fun a b => nm a ≠ nm b :=
 h.imp (fun hab e => by rw [e] at hab; exact List.lt_irrefl _ hab)
theorem Up.same {nm : α → Nm} {l : List α} (h : Up nm l) : ∀ y ∈ l, ∀ z ∈ l, nm y = nm z → y = z := by
 have hp := h.ne
 clear h
 induction l with
 | nil => intro y hy; cases hy
 | cons a es ih =>
   obtain ⟨h1, h2⟩ := List.pairwise_cons.1 hp
   intro y hy z hz hyz
   rcases List.mem_cons.1 hy with e1 | h3 <;> rcases List.mem_cons.1 hz with e2 | h4
   ·rw [e1, e2]
   ·rw [e1] at hyz; exact absurd hyz (h1 z h4)
   ·rw [e2] at hyz; exact absurd hyz.symm (h1 y h3)
   ·exact ih h2 y h3 z h4 hyz
theorem Up.ins {nm : α → Nm} {l : List α} {x : α} (h : Up nm l) (hx : ∀ y ∈ l, nm y ≠ nm x) : Up nm (ins nm x l) := by
 induction l with
 | nil => exact List.pairwise_singleton _ _
 | cons z l ih =>
   obtain ⟨h1, h2⟩ := List.pairwise_cons.1 h
   unfold Nmd.ins
   by_cases hz : nm z < nm x
   ·rw [if_pos hz]
    refine List.pairwise_cons.2 ⟨fun y hy => ?_, ih h2 fun y hy => hx y (List.mem_cons_of_mem _ hy)⟩
    rcases mem_ins.1 hy with rfl | hy
    ·exact hz
    ·exact h1 y hy
   ·rw [if_neg hz]
    have hlt : nm x < nm z := by
     rcases Std.lt_trichotomy (nm z) (nm x) with h | h | h
     ·exact absurd h hz
     ·exact absurd h (hx z List.mem_cons_self)
     ·exact h
    refine List.pairwise_cons.2 ⟨fun y hy => ?_, h⟩
    rcases List.mem_cons.1 hy with rfl | hy
    ·exact hlt
    ·exact List.lt_trans hlt (h1 y hy)
theorem Up.del {nm : α → Nm} {l : List α} (h : Up nm l) (n : Nm) : Up nm (del nm n l) := List.Pairwise.filter _ h
theorem upd_names (nm : α → Nm) (x : α) (l : List α) : (upd nm x l).map nm = l.map nm := by
 unfold upd
 rw [List.map_map]
 refine List.map_congr_left fun y _ => ?_
 by_cases hn : nm y = nm x
 ·simp [hn]
 ·simp [hn]
theorem up_names {nm : α → Nm} {l : List α} : Up nm l ↔ (l.map nm).Pairwise (· < ·) := List.pairwise_map.symm
theorem Up.upd {nm : α → Nm} {l : List α} (h : Up nm l) (x : α) : Up nm (upd nm x l) := by
 rw [up_names, upd_names]; exact up_names.1 h
theorem get_ins {nm : α → Nm} {l : List α} {x : α} (hx : ∀ y ∈ l, nm y ≠ nm x) (n : Nm) : get nm n (ins nm x l) = if nm x = n then some x else get nm n l := by
 induction l with
 | nil => exact get_cons nm n x []
 | cons z l ih =>
   have ih := ih fun y hy => hx y (List.mem_cons_of_mem _ hy)
   unfold ins
   by_cases hz : nm z < nm x
   ·rw [if_pos hz, get_cons, ih, get_cons]
    by_cases h1 : nm z = n
    ·have : nm x ≠ n := fun e => hx z List.mem_cons_self (h1.trans e.symm)
     rw [if_pos h1, if_neg this, if_pos h1]
    ·rw [if_neg h1, if_neg h1]
   ·rw [if_neg hz, get_cons]
theorem get_del (nm : α → Nm) (l : List α) (k n : Nm) : get nm n (del nm k l) = if k = n then none else get nm n l := by
 by_cases h : k = n
 ·rw [if_pos h]
  exact get_none_of fun x hx hn => (mem_del.1 hx).2 (hn.trans h.symm)
 ·rw [if_neg h]
  unfold get del
  induction l with
  | nil => rfl
  | cons z l ih =>
    rw [List.filter_cons]
    by_cases hz : nm z = k
    ·have h1 : (nm z == k) = true := by rw [hz]; exact beq_self_eq_true k
     have h2 : (nm z == n) = false := beq_eq_false_iff_ne.2 (by rw [hz]; exact h)
     rw [h1, List.find?_cons, h2]
     exact ih
    ·have h1 : (nm z == k) = false := beq_eq_false_iff_ne.2 hz
     rw [h1, Bool.not_false, if_pos rfl, List.find?_cons, List.find?_cons, ih]
theorem get_upd (nm : α → Nm) (l : List α) (x : α) (n : Nm) : get nm n (upd nm x l) = (get nm n l).map fun y => if nm y = nm x then x else y := by
 induction l with
 | nil => rfl
 | cons z l ih =>
   show get nm n ((if nm z = nm x then x else z) :: upd nm x l) = _
   rw [get_cons, get_cons, ih]
   by_cases hz : nm z = nm x
   ·rw [if_pos hz]
    by_cases h : nm z = n
    ·rw [if_pos (hz ▸ h), if_pos h, Option.map_some, if_pos hz]
    ·rw [if_neg (fun e => h (hz.trans e)), if_neg h]
   ·rw [if_neg hz]
    by_cases h : nm z = n
    ·rw [if_pos h, if_pos h, Option.map_some, if_neg hz]
    ·rw [if_neg h, if_neg h]
theorem length_del {nm : α → Nm} {l : List α} {n : Nm} {x : α} (h : Up nm l) (hg : get nm n l = some x) : (del nm n l).length + 1 = l.length := by
 have hp := h.ne
 clear h
 induction l with
 | nil => cases hg
 | cons z l ih =>
   obtain ⟨h1, h2⟩ := List.pairwise_cons.1 hp
   rw [get_cons] at hg
   unfold del
   rw [List.filter_cons]
   by_cases hz : nm z = n
   ·have e1 : (nm z == n) = true := by rw [hz]; exact beq_self_eq_true n
    rw [e1, Bool.not_true, if_neg (by decide), List.length_cons, List.filter_eq_self.2]
    intro y hy
    rw [beq_eq_false_iff_ne.2 (fun e => h1 y hy (hz.trans e.symm))]; rfl
   ·rw [if_neg hz] at hg
    have e1 : (nm z == n) = false := beq_eq_false_iff_ne.2 hz
    rw [e1, Bool.not_false, if_pos rfl, List.length_cons, List.length_cons, ← ih hg h2]; rfl
theorem get_map (nm : α → Nm) (f : β → α) (n : Nm) (l : List β) : get nm n (l.map f) = (get (fun y => nm (f y)) n l).map f := by
 induction l with
 | nil => rfl
 | cons z l ih =>
   rw [List.map_cons, get_cons, get_cons, ih]
   by_cases h : nm (f z) = n
   ·rw [if_pos h, if_pos h]; rfl
   ·rw [if_neg h, if_neg h]
theorem ins_map (nm : α → Nm) (f : β → α) (x : β) (l : List β) : ins nm (f x) (l.map f) = (ins (fun y => nm (f y)) x l).map f := by
 induction l with
 | nil => rfl
 | cons z l ih =>
   rw [List.map_cons]
   unfold ins
   by_cases h : nm (f z) < nm (f x)
   ·rw [if_pos h, if_pos h, List.map_cons, ih]
   ·rw [if_neg h, if_neg h]; rfl
theorem del_map (nm : α → Nm) (f : β → α) (n : Nm) (l : List β) : del nm n (l.map f) = (del (fun y => nm (f y)) n l).map f := by
 unfold del
 rw [List.filter_map]; rfl
theorem upd_map (nm : α → Nm) (f : β → α) (x : β) (l : List β) : upd nm (f x) (l.map f) = (upd (fun y => nm (f y)) x l).map f := by
 unfold upd
 rw [List.map_map, List.map_map]
 refine List.map_congr_left fun y _ => ?_
 simp only [Function.comp]
 by_cases h : nm (f y) = nm (f x)
 ·rw [if_pos h, if_pos h]
 ·rw [if_neg h, if_neg h]
/-- names of a rising list: sorted, they are as they were -/
theorem sorted_names {nm : α → Nm} {l : List α} (h : Up nm l) {ss : List Nm} (hp : ss.Perm (l.map nm)) : ss.mergeSort (fun x y => decide (x ≤ y)) = l.map nm := by
 have h1 := List.pairwise_mergeSort (le := fun x y : Nm => decide (x ≤ y)) (fun a b c h1 h2 => decide_eq_true (List.le_trans (of_decide_eq_true h1) (of_decide_eq_true h2)))
  (fun a b => by
    rcases List.le_total a b with h | h
    ·simp [h]
    ·simp [h]) ss
 refine List.Perm.eq_of_pairwise (le := fun x y : Nm => x ≤ y) (fun a b _ _ h1 h2 => List.le_antisymm h1 h2) (h1.imp fun h => of_decide_eq_true h) ((up_names.1 h).imp fun h => List.le_of_lt h) ((List.mergeSort_perm _ _).trans hp)
end Nmd
end Go.Proofs.YtafeealbdpmdkaaGreatDoor
/- A row of bytes that a file holds: out of append, out of []byte(s), cut shorter, written over. -/
namespace Go.Proofs.YtafeealbdpmdkaaGreatDoor
open Go Go.RowKit
/-- v holds just these bytes; its block may bear a mark behind its row -/
def PRow (w : World) (v : Value) (l : List UInt8) : Prop := (v = .slice none 0 0 ∧ l = []) ∨ ∃ g cap cur fz, v = .slice (some ⟨g, 0, none⟩) l.length cap ∧ w.heap[g]? = some (.cells cur 5 fz) ∧
  (fz.2 = 0 ∨ cur.size ≤ fz.1) ∧ l.length ≤ cap ∧ cap ≤ maxLen ∧ cur.size = cap ∧ cur.toList.take l.length = l.map byteV
theorem PRow.nil_ (w : World) : PRow w (.slice none 0 0) [] := .inl ⟨rfl, rfl⟩
theorem PRow.form {w : World} {v : Value} {l : List UInt8} (h : PRow w v l) : ∃ A cap, v = .slice A l.length cap := by
 rcases h with ⟨rfl, rfl⟩ | ⟨g, cap, cur, fz, rfl, _⟩
 ·exact ⟨none, 0, rfl⟩
 ·exact ⟨_, cap, rfl⟩
theorem PRow.lt {w : World} {v : Value} {l : List UInt8} (h : PRow w v l) {g : Nat} (hg : v.ownBlock = some g) : g < w.heap.size := by
 rcases h with ⟨rfl, _⟩ | ⟨g', cap, cur, fz, rfl, hr, _⟩
 ·cases hg
 ·injection hg with hg
  subst hg
  exact (Array.getElem?_eq_some_iff.1 hr).1
theorem PRow.kept {w w' : World} {v : Value} {l : List UInt8} {r : Option Nat} (h : PRow w v l) (hg : w.grownBy w' r) (hne : v.ownBlock = none ∨ v.ownBlock ≠ r) : PRow w' v l := by
 rcases h with h | ⟨g, cap, cur, fz, rfl, hr, h⟩
 ·exact .inl h
 ·refine .inr ⟨g, cap, cur, fz, rfl, ?_, h⟩
  have hlt := (Array.getElem?_eq_some_iff.1 hr).1
  rw [hg.block g hlt (by rcases hne with h | h; cases h; exact h)]
  exact hr
theorem PRow.ext {w w' : World} {v : Value} {l : List UInt8} (h : PRow w v l) (hx : Reg.Ext w w') : PRow w' v l := by
 refine h.kept (r := none) ⟨hx.os, hx.tape, hx.output, hx.size, fun i hi _ => hx.block i hi⟩ ?_
 cases v.ownBlock with
 | none => exact .inl rfl
 | some k => exact .inr (by simp)
/-- []byte(s) -/
theorem PRow.of (s : ByteArray) (W : World) (hs : s.size ≤ 274877906944) : ∃ cap w1, (convert 9 84 (.string s)).run Tryz.prog W = .ok (.slice (some ⟨W.heap.size, 0, none⟩) s.size cap) w1 ∧
  PRow w1 (.slice (some ⟨W.heap.size, 0, none⟩) s.size cap) s.data.toList ∧ Reg.Ext W w1 := by
 refine ⟨_, _, bytes_of s W, .inr ⟨W.heap.size, _, _, _, by rw [len_data], heap_alloc_new W.drew _, .inr (Nat.le_refl _), ?_, ?_, ?_, ?_⟩, (Reg.Ext.drew W).trans (Reg.Ext.alloc _ _)⟩
 ·rw [len_data]; exact grownCap_ge _ _ _ _
 ·exact grownCap_le_maxLen _ _ _ _ (by unfold maxLen; omega)
 ·have := grownCap_ge W s.size 0 5
  simp [bytesRow]
  have e : s.data.size = s.size := rfl
  omega
 ·rw [len_data]
  apply List.ext_getElem?
  intro j
  rw [List.getElem?_take]
  by_cases hj : j < s.size
  ·rw [if_pos hj, Array.getElem?_toList, bytesRow_at s _ j hj, List.getElem?_map]
   rw [show s.data.toList[j]? = s.data[j]? from Array.getElem?_toList, Array.getElem?_eq_getElem (show j < s.data.size from hj)]; rfl
  ·rw [if_neg hj, List.getElem?_eq_none (by rw [List.length_map, len_data]; omega)]
theorem row_cell {w : World} {g : Nat} {cur : Array Value} {fz : Nat × Nat} {l : List UInt8} (hr : w.heap[g]? = some (.cells cur 5 fz)) (ht : cur.toList.take l.length = l.map byteV) (j : Nat) (hj : j < l.length) : w.cell? ⟨g, j, none⟩ = some (byteV l[j]) := by
 have e := congrArg (fun x => x[j]?) ht
 simp only [List.getElem?_take, List.getElem?_map] at e
 rw [if_pos hj, Array.getElem?_toList, List.getElem?_eq_getElem hj] at e
 unfold World.cell?
 rw [hr]
 exact e
/-- string(v) -/
theorem PRow.str {w : World} {v : Value} {l : List UInt8} (h : PRow w v l) : (convert 84 9 v).run Tryz.prog w = .ok (.string ⟨l.toArray⟩) w := by
 rcases h with ⟨rfl, rfl⟩ | ⟨g, cap, cur, fz, rfl, hr, _, _, _, _, ht⟩
 ·exact Buf.str (Buf.nil_ w w (Reg.Ext.refl w))
 ·refine conv_bytes w _ _ 5 Tryz.underlying84 Tryz.underlying5 Tryz.underlying9 g 0 l.length cap l rfl ?_
  intro j hj
  rw [Nat.zero_add]
  exact row_cell hr ht j hj
/-- v[:n] -/
theorem PRow.cut {w : World} {A : Option Addr} {cap : Nat} {l : List UInt8} (h : PRow w (.slice A l.length cap) l) (n : Nat) (hn : n ≤ l.length) : PRow w (.slice A n cap) (l.take n) := by
 have hl : (l.take n).length = n := by rw [List.length_take]; omega
 rcases h with ⟨h1, h2⟩ | ⟨g, cap', cur, fz, e, hr, h1, h2, h3, h4, ht⟩
 ·injection h1 with e1 e2 e3
  subst h2
  have : n = 0 := by simpa using hn
  subst this e1 e3
  exact .inl ⟨rfl, rfl⟩
 ·injection e with e1 e2 e3
  subst e1 e3
  refine .inr ⟨g, cap, cur, fz, by rw [hl], hr, h1, by omega, h3, h4, ?_⟩
  rw [hl, List.map_take, ← ht, List.take_take, Nat.min_eq_left hn]
theorem row_setCells (g : Nat) (t : TypeId) (fz : Nat × Nat) : ∀ (vs : List Value) (o : Nat) (cur : Array Value) (w : World), w.heap[g]? = some (.cells cur t fz) → o + vs.length ≤ cur.size →
  (w.setCells g o vs).heap[g]? = some (.cells (cur.toList.take o ++ vs ++ cur.toList.drop (o + vs.length)).toArray t fz)
 | [], o, cur, w, h, _ => by
   rw [List.append_nil, List.length_nil, Nat.add_zero, List.take_append_drop]
   exact h
 | v :: vs, o, cur, w, h, hl => by
   have h1 : (w.setCell ⟨g, o, none⟩ v).heap[g]? = some (.cells (cur.setIfInBounds o v) t fz) := by
    simp [World.setCell, Array.getElem?_modify, h]
   have hlo : o < cur.toList.length := by rw [Array.length_toList]; simp only [List.length_cons] at hl; omega
   have ih := row_setCells g t fz vs (o + 1) (cur.setIfInBounds o v) (w.setCell ⟨g, o, none⟩ v) h1 (by rw [Array.size_setIfInBounds]; simp only [List.length_cons] at hl; omega)
   have e : (cur.setIfInBounds o v).toList.take (o + 1) ++ vs ++ (cur.setIfInBounds o v).toList.drop (o + 1 + vs.length) = cur.toList.take o ++ (v :: vs) ++ cur.toList.drop (o + (v :: vs).length) := by
    rw [Array.toList_setIfInBounds, List.drop_set_of_lt (by omega), List.length_cons, show o + 1 + vs.length = o + (vs.length + 1) by omega]
    have : (cur.toList.set o v).take (o + 1) = cur.toList.take o ++ [v] := by
     rw [List.take_succ_eq_append_getElem (by rw [List.length_set]; exact hlo), List.getElem_set_self, List.take_set_of_le (Nat.le_refl _)]
    rw [this]
    simp
   rw [e] at ih
   exact ih
theorem str_cells (s : ByteArray) : Lib.strCells s = s.data.toList.map byteV := rfl
/-- append(v, s...) -/
theorem PRow.run_push {w : World} {v : Value} {l : List UInt8} (h : PRow w v l) (s : ByteArray) (ty : TypeId) (hl : l.length + s.size ≤ 1099511627776) :
  ∃ v' w', (Builtin.append_ #[84, 9] ty #[v, .string s]).run Tryz.prog w = .ok v' w' ∧ PRow w' v' (l ++ s.data.toList) ∧ w.grownBy w' v.ownBlock ∧ (v'.ownBlock = v.ownBlock ∨ ∃ g, v'.ownBlock = some g ∧ w.heap.size ≤ g) := by
 obtain ⟨i, hi, hz, hsz, hby⟩ := byteInfo_of
 have ht := Tryz.underlying84
 have hu := Tryz.underlying9
 rcases h with ⟨rfl, rfl⟩ | ⟨g, cap, cur, fz, rfl, hr, h1, h2, h3, h4, htk⟩
 ·obtain ⟨v', w', e, ho, hg, _⟩ := Lib.run_append_own_string (P := Tryz.prog) w w.heap.size 84 9 ty 5 i ht hu hi hz hsz hby (.slice none 0 0) 0 [] ⟨rfl, .inl ⟨rfl, rfl⟩⟩ s (by unfold maxLen; omega) (by omega) (Nat.le_refl _)
  rcases ho.2 with ⟨rfl, hn⟩ | ⟨g, cap, cur, rfl, hb, hr, hn, hm, hsz2, htk⟩
  ·refine ⟨_, w', e, .inl ⟨rfl, ?_⟩, hg, .inl rfl⟩
   exact List.eq_nil_of_length_eq_zero (by rw [List.nil_append, len_data]; omega)
  ·refine ⟨_, w', e, .inr ⟨g, cap, cur, (0, 0), ?_, hr, .inl rfl, ?_, hm, by omega, ?_⟩, hg, .inr ⟨g, rfl, hb⟩⟩
   ·rw [List.nil_append, len_data, Nat.zero_add]
   ·rw [List.nil_append, len_data]; omega
   ·rw [List.nil_append, len_data]
    rw [Nat.mul_one, Nat.zero_add, List.nil_append] at htk
    exact htk
 ·by_cases hroom : l.length + s.size ≤ cap
  ·have hfr : ∀ j, l.length ≤ j → j < cur.size → w.frozen? ⟨g, j, none⟩ = false := by
    intro j _ hj
    obtain ⟨lo, hi'⟩ := fz
    simp only [World.frozen?, hr, Bool.and_eq_false_iff, decide_eq_false_iff_not]
    simp only at h1
    rcases h1 with h1 | h1
    ·right; omega
    ·left; omega
   have hsc : (Lib.strCells s).length = s.size := by rw [str_cells, List.length_map, len_data]
   have hst := run_storeCells_cells (P := Tryz.prog) g l.length (Lib.strCells s) 0 w (by
    intro j hj
    rw [hsc] at hj
    simp [World.cell?, hr]
    omega) (by
    intro j hj
    rw [hsc] at hj
    exact hfr _ (by omega) (by omega)) (by
    intro u hu
    rw [str_cells] at hu
    obtain ⟨c, _, rfl⟩ := List.mem_map.1 hu
    rfl)
   have hf := Lib.run_firstCells_string (P := Tryz.prog) w 1 s
   rw [Nat.add_zero] at hst
   refine ⟨.slice (some ⟨g, 0, none⟩) (l.length + s.size) cap, w.setCells g l.length (Lib.strCells s), ?_, .inr ⟨g, cap, _, fz, ?_, row_setCells g _ fz (Lib.strCells s) l.length cur w hr (by rw [hsc]; omega), ?_, ?_, h3, ?_, ?_⟩, But.setCells g _ _ _, .inl rfl⟩
   ·simp [Builtin.append_, run_underlying ht, run_underlying hu, sizeOf, typeInfo, hi, hsz, Builtin.lenOf, hroom, hf, Addr.add_lit, hst]
   ·rw [List.length_append, len_data]
   ·rcases h1 with h1 | h1
    ·exact .inl h1
    ·right
     simp only [z_a, List.length_append, List.length_take, List.length_drop, Array.length_toList, hsc]
     omega
   ·rw [List.length_append, len_data]; exact hroom
   ·simp only [z_a, List.length_append, List.length_take, List.length_drop, Array.length_toList, hsc]
    omega
   ·rw [List.map_append, ← str_cells, List.length_append, len_data, ← htk]
    have e : (l.map byteV).length = l.length := List.length_map _
    rw [show l.length + s.size = (cur.toList.take l.length ++ Lib.strCells s).length by rw [htk, List.length_append, e, hsc]]
    exact List.take_left
  ·have hr' := Lib.run_append_grow_string (P := Tryz.prog) w 84 9 ty 5 i (.int .u8 0) ht hu hi hz ⟨g, 0, none⟩ l.length cap (l.map byteV) (by rw [hsz]; simp) (by
    intro j v hj
    rw [List.getElem?_map] at hj
    obtain ⟨c, hc, rfl⟩ := Option.map_eq_some_iff.1 hj
    obtain ⟨hjl, rfl⟩ := List.getElem?_eq_some_iff.1 hc
    rw [add_plain, Nat.zero_add]
    exact row_cell hr htk j hjl) s (by omega) (by omega) (by rw [hby]; exact growslice_fits (by omega) (by omega))
   have hsc : (Lib.strCells s).length = s.size := by rw [str_cells, List.length_map, len_data]
   have hge := grownCap_ge w (l.length + s.size) cap 5
   have hz1 : (Value.int IntKind.u8 0).cells.size = 1 := rfl
   refine ⟨_, _, hr', .inr ⟨w.heap.size, _, _, (0, 0), ?_, heap_alloc_new w.drew _, .inl rfl, ?_, grownCap_le_maxLen w (l.length + s.size) cap 5 (by unfold maxLen; omega), ?_, ?_⟩, ⟨rfl, rfl, rfl, by simp, fun k hk _ => Below.heap_alloc w.drew _ k hk⟩, .inr ⟨_, rfl, Nat.le_refl _⟩⟩
   ·rw [List.length_append, len_data]
   ·rw [List.length_append, len_data]; exact hge
   ·simp only [Array.size_append, z_a, size_zeroCells, hz1, List.length_map, hsc]
    omega
   ·rw [List.map_append, ← str_cells, List.length_append, len_data]
    simp only [Array.toList_append, List.append_assoc]
    rw [← List.append_assoc, show l.length + s.size = (l.map byteV ++ Lib.strCells s).length by rw [List.length_append, List.length_map, hsc]]
    exact List.take_left
end Go.Proofs.YtafeealbdpmdkaaGreatDoor
/- A disk in memory: its head, its map of files, the files, their rows. -/
namespace Go.Proofs.YtafeealbdpmdkaaGreatDoor
open Go Go.RowKit
theorem PRow.same {w w' : World} {v : Value} {l : List UInt8} (h : PRow w v l) (hk : ∀ g, v.ownBlock = some g → w'.heap[g]? = w.heap[g]?) : PRow w' v l := by
 rcases h with h1 | ⟨g, cap, cur, fz, e1, h1, h2⟩
 ·exact .inl h1
 ·exact .inr ⟨g, cap, cur, fz, e1, (hk g (by rw [e1]; rfl)).trans h1, h2⟩
namespace Plk
structure F where
 name : List UInt8
 l : List UInt8
 safe : Nat
/-- a file: its block, its slice -/
structure E where
 f : F
 g : Nat
 v : Value
abbrev E.nm (e : E) : List UInt8 := e.f.name
structure H where
 room : Int
 used : Int
 ops : Int
 off : Bool
 ak : Int
 af : Int
 al : Int
def H.head (s : H) (mp : Nat) : List Value := [.map (some mp), .int .i64 s.room, .int .i64 s.used, .int .i64 s.ops, .bool s.off, .int .i64 s.ak, .int .i64 s.af, .int .i64 s.al]
def E.blocks (e : E) : List Nat := e.g :: e.v.ownBlock.toList
theorem mem_blocks {e : E} {x : Nat} : x ∈ e.blocks ↔ x = e.g ∨ e.v.ownBlock = some x := by
 unfold E.blocks
 rw [List.mem_cons]
 cases e.v.ownBlock <;> simp [eq_comm]
/-- a pointer, as the map's datum has it -/
def ptrR (v : Value) : Option (DataW Unit × List MemPlace) := match v with
 | .pointer none => some (.lit (.int .i64 0), [])
 | .pointer (some ⟨g, 0, none⟩) => some (.lit (.int .i64 ((g : Int) + 1)), [])
 | _ => none
def ptrV : Option E → Value
 | none => .pointer none
 | some e => .pointer (some ⟨e.g, 0, none⟩)
def ptrN : Option E → Int
 | none => 0
 | some e => (e.g : Int) + 1
theorem ptrR_of {v : Value} {o : Option E} {ps : List MemPlace} (h : ptrR v = some (.lit (.int .i64 (ptrN o)), ps)) : v = ptrV o := by
 unfold ptrR at h
 split at h
 ·cases o with
  | none => rfl
  | some e =>
    injection h with h
    injection h with h _
    injection h with h
    injection h with _ h
    have : (0 : Int) = (e.g : Int) + 1 := h
    omega
 ·rename_i g
  cases o with
  | none =>
    injection h with h
    injection h with h _
    injection h with h
    injection h with _ h
    have : ((g : Nat) : Int) + 1 = 0 := h
    omega
  | some e =>
    injection h with h
    injection h with h _
    injection h with h
    injection h with _ h
    have h : ((g : Nat) : Int) + 1 = (e.g : Int) + 1 := h
    have : g = e.g := by omega
    rw [this]; rfl
 ·cases h
def zeroP : DataW Unit := .lit (.int .i64 0)
def Own (d mp : Nat) (es : List E) (x : Nat) : Prop := x = d ∨ x = mp ∨ ∃ e ∈ es, x ∈ e.blocks
/-- the map's datum -/
def MapD (D : DataW Unit) (es : List E) : Prop := Maps.size D = es.length ∧ ∀ n, D.atKey (.string n) zeroP = .lit (.int .i64 (ptrN (Nmd.get E.nm n es))) ∧ Maps.has D (.string n) = (Nmd.get E.nm n es).isSome
structure Dk (w : World) (d mp : Nat) (es : List E) (s : H) : Prop where
 blk : Blk w d 74 (s.head mp)
 map : ∃ D, w.ownsMap Tryz.prog 9 ptrR mp es.length D ∧ MapD D es
 file : ∀ e ∈ es, Blk w e.g 86 [e.v, .int .i64 (e.f.safe : Int)]
 row : ∀ e ∈ es, PRow w e.v e.f.l
 up : Nmd.Up E.nm es
 apart : ∀ a ∈ es, ∀ b ∈ es, a.nm ≠ b.nm → ∀ x ∈ a.blocks, x ∉ b.blocks
 self : ∀ e ∈ es, e.v.ownBlock ≠ some e.g
 dm : d ≠ mp
 out : ∀ e ∈ es, ∀ x ∈ e.blocks, x ≠ d ∧ x ≠ mp
structure Turn (d mp : Nat) (w : World) (es : List E) (w' : World) (es' : List E) : Prop where
 os : w'.os = w.os
 tape : w'.tape = w.tape
 output : w'.output = w.output
 size : w.heap.size ≤ w'.heap.size
 kept : ∀ i, i < w.heap.size → ¬ Own d mp es i → w'.heap[i]? = w.heap[i]?
 own : ∀ i, Own d mp es' i → Own d mp es i ∨ w.heap.size ≤ i
theorem Turn.refl (d mp : Nat) (w : World) (es : List E) : Turn d mp w es w es := ⟨rfl, rfl, rfl, Nat.le_refl _, fun _ _ _ => rfl, fun _ h => .inl h⟩
theorem Turn.ext {d mp : Nat} {w w' : World} {es : List E} (h : Reg.Ext w w') : Turn d mp w es w' es := ⟨h.os, h.tape, h.output, h.size, fun i hi _ => h.block i hi, fun _ h => .inl h⟩
theorem Turn.trans {d mp : Nat} {w w1 w2 : World} {es es1 es2 : List E} (h : Turn d mp w es w1 es1) (h1 : Turn d mp w1 es1 w2 es2) : Turn d mp w es w2 es2 := by
 refine ⟨h1.os.trans h.os, h1.tape.trans h.tape, h1.output.trans h.output, Nat.le_trans h.size h1.size, fun i hi hn => ?_, fun i hi => ?_⟩
 ·refine (h1.kept i (Nat.lt_of_lt_of_le hi h.size) fun ho => ?_).trans (h.kept i hi hn)
  rcases h.own i ho with h2 | h2
  ·exact hn h2
  ·omega
 ·rcases h1.own i hi with h2 | h2
  ·exact h.own i h2
  ·exact .inr (Nat.le_trans h.size h2)
theorem Dk.mp_lt {w : World} {d mp : Nat} {es : List E} {s : H} (h : Dk w d mp es s) : mp < w.heap.size := by
 obtain ⟨D, h1, _⟩ := h.map
 exact h1.lt
theorem Dk.block_lt {w : World} {d mp : Nat} {es : List E} {s : H} (h : Dk w d mp es s) {e : E} (he : e ∈ es) {x : Nat} (hx : x ∈ e.blocks) : x < w.heap.size := by
 rcases mem_blocks.1 hx with rfl | hx
 ·exact (h.file e he).lt
 ·exact (h.row e he).lt hx
theorem Dk.own_lt {w : World} {d mp : Nat} {es : List E} {s : H} (h : Dk w d mp es s) {x : Nat} (hx : Own d mp es x) : x < w.heap.size := by
 rcases hx with rfl | rfl | ⟨e, he, hx⟩
 ·exact h.blk.lt
 ·exact h.mp_lt
 ·exact h.block_lt he hx
theorem own_g {d mp : Nat} {es : List E} {e : E} (he : e ∈ es) : Own d mp es e.g := .inr (.inr ⟨e, he, mem_blocks.2 (.inl rfl)⟩)
theorem own_v {d mp : Nat} {es : List E} {e : E} (he : e ∈ es) {x : Nat} (hx : e.v.ownBlock = some x) : Own d mp es x := .inr (.inr ⟨e, he, mem_blocks.2 (.inr hx)⟩)
theorem map_same {w w' : World} {mp n : Nat} {D : DataW Unit} (h : w.ownsMap Tryz.prog 9 ptrR mp n D) (hk : w'.heap[mp]? = w.heap[mp]?) : w'.ownsMap Tryz.prog 9 ptrR mp n D := by
 obtain ⟨es, clock, hb, hh⟩ := h
 exact ⟨es, clock, hk.trans hb, hh⟩
theorem map_tight {w : World} {mp n : Nat} {D : DataW Unit} (h : w.ownsMap Tryz.prog 9 ptrR mp n D) : w.ownsMap Tryz.prog 9 ptrR mp (Maps.size D) D := by
 obtain ⟨es, clock, hb, F, hs, hD⟩ := h
 refine ⟨es, clock, hb, F, ?_, hD⟩
 rw [hD]
 simp [Maps.size, length_sorted]
theorem Dk.same {w w' : World} {d mp : Nat} {es : List E} {s : H} (h : Dk w d mp es s) (hk : ∀ i, Own d mp es i → w'.heap[i]? = w.heap[i]?) : Dk w' d mp es s := by
 refine { h with blk := (hk d (.inl rfl)).trans h.blk, map := ?_, file := fun e he => (hk e.g (own_g he)).trans (h.file e he), row := fun e he => (h.row e he).same fun g hg => hk g (own_v he hg) }
 obtain ⟨D, h1, h2⟩ := h.map
 exact ⟨D, map_same h1 (hk mp (.inr (.inl rfl))), h2⟩
theorem Dk.ext {w w' : World} {d mp : Nat} {es : List E} {s : H} (h : Dk w d mp es s) (hx : Reg.Ext w w') : Dk w' d mp es s :=
 h.same fun i hi => hx.block i (h.own_lt hi)
/-- the head turns -/
theorem Dk.turn {w w' : World} {d mp : Nat} {es : List E} {s s' : H} (h : Dk w d mp es s) (hk : ∀ i, i < w.heap.size → i ≠ d → w'.heap[i]? = w.heap[i]?) (hb : Blk w' d 74 (s'.head mp)) : Dk w' d mp es s' := by
 refine { h with blk := hb, map := ?_, file := fun e he => ?_, row := fun e he => ?_ }
 ·obtain ⟨D, h1, h2⟩ := h.map
  exact ⟨D, map_same h1 (hk mp h.mp_lt (Ne.symm h.dm)), h2⟩
 ·exact (hk e.g (h.file e he).lt (h.out e he e.g (mem_blocks.2 (.inl rfl))).1).trans (h.file e he)
 ·exact (h.row e he).same fun g hg => hk g ((h.row e he).lt hg) (h.out e he g (mem_blocks.2 (.inr hg))).1
/-- a file turns -/
theorem Dk.entry {w w' : World} {d mp : Nat} {es : List E} {s : H} {e e' : E} (h : Dk w d mp es s) (he : e ∈ es) (hn : e'.nm = e.nm) (hg' : e'.g = e.g)
  (hk : ∀ i, i < w.heap.size → i ∉ e.blocks → w'.heap[i]? = w.heap[i]?)
  (hf : Blk w' e.g 86 [e'.v, .int .i64 (e'.f.safe : Int)]) (hr : PRow w' e'.v e'.f.l) (hb : ∀ x, e'.v.ownBlock = some x → (x ≠ e.g ∧ x ∈ e.blocks) ∨ w.heap.size ≤ x) : Dk w' d mp (Nmd.upd E.nm e' es) s := by
 have hcase : ∀ x ∈ e'.blocks, x ∈ e.blocks ∨ w.heap.size ≤ x := fun x hx => by
  rcases mem_blocks.1 hx with rfl | hx
  ·exact .inl (mem_blocks.2 (.inl hg'))
  ·rcases hb x hx with h1 | h1
   ·exact .inl h1.2
   ·exact .inr h1
 have keep : ∀ y ∈ es, y.nm ≠ e'.nm → ∀ x ∈ y.blocks, x ∉ e.blocks := fun y hy hyn x hx => h.apart y hy e he (by rw [← hn]; exact hyn) x hx
 refine { blk := ?_, map := ?_, file := ?_, row := ?_, up := h.up.upd e', apart := ?_, self := ?_, dm := h.dm, out := ?_ }
 ·exact (hk d h.blk.lt fun hx => (h.out e he d hx).1 rfl).trans h.blk
 ·obtain ⟨D, h1, h2, h3⟩ := h.map
  refine ⟨D, ?_, ?_, fun n => ?_⟩
  ·rw [Nmd.length_upd]
   exact map_same h1 (hk mp h.mp_lt fun hx => (h.out e he mp hx).2 rfl)
  ·rw [Nmd.length_upd]; exact h2
  ·rw [Nmd.get_upd]
   have h4 := h3 n
   cases hgt : Nmd.get E.nm n es with
   | none => rw [hgt] at h4; exact h4
   | some y =>
     rw [hgt] at h4
     have hy := Nmd.get_mem hgt
     rw [Option.map_some]
     by_cases hyn : y.nm = e'.nm
     ·rw [if_pos hyn]
      have : y = e := h.up.same y hy.1 e he (hyn.trans hn)
      rw [this] at h4
      refine ⟨h4.1.trans ?_, h4.2⟩
      show _ = DataW.lit (.int .i64 ((e'.g : Int) + 1))
      rw [hg']; rfl
     ·rw [if_neg hyn]; exact h4
 ·intro x hx
  rcases Nmd.mem_upd hx with rfl | ⟨hx, hxn⟩
  ·rw [hg']; exact hf
  ·exact (hk x.g (h.file x hx).lt (keep x hx hxn x.g (mem_blocks.2 (.inl rfl)))).trans (h.file x hx)
 ·intro x hx
  rcases Nmd.mem_upd hx with rfl | ⟨hx, hxn⟩
  ·exact hr
  ·exact (h.row x hx).same fun g hg => hk g ((h.row x hx).lt hg) (keep x hx hxn g (mem_blocks.2 (.inr hg)))
 ·intro a ha b hb' hab x hxa hxb
  have ha1 := ha
  have hb1 := hb'
  clear ha hb'
  rcases Nmd.mem_upd ha1 with rfl | ⟨ha, han⟩ <;> clear ha1 <;> rcases Nmd.mem_upd hb1 with rfl | ⟨hb', hbn⟩
  ·exact hab rfl
  ·rcases hcase x hxa with h1 | h1
   ·exact keep b hb' hbn x hxb h1
   ·have := h.block_lt hb' hxb; omega
  ·rcases hcase x hxb with h1 | h1
   ·exact keep a ha han x hxa h1
   ·have := h.block_lt ha hxa; omega
  ·exact h.apart a ha b hb' hab x hxa hxb
 ·intro x hx
  rcases Nmd.mem_upd hx with rfl | ⟨hx, _⟩
  ·intro e1
   rcases hb _ e1 with h1 | h1
   ·exact h1.1 hg'
   ·have := (h.file e he).lt; omega
  ·exact h.self x hx
 ·intro x hx y hy
  rcases Nmd.mem_upd hx with rfl | ⟨hx, _⟩
  ·rcases hcase y hy with h1 | h1
   ·exact h.out e he y h1
   ·have := h.blk.lt
    have := h.mp_lt
    exact ⟨by omega, by omega⟩
  ·exact h.out x hx y hy
/-- a file more -/
theorem Dk.add {w w' : World} {d mp : Nat} {es : List E} {s : H} {e : E} {D : DataW Unit} (h : Dk w d mp es s) (hn : ∀ y ∈ es, y.nm ≠ e.nm)
  (hD : MapD D es) (ht : Maps.Tidy D) (hm : w'.ownsMap Tryz.prog 9 ptrR mp (es.length + 1) (D.put (.string e.nm) (.lit (.int .i64 ((e.g : Int) + 1)))))
  (hk : ∀ i, i < w.heap.size → i ≠ mp → w'.heap[i]? = w.heap[i]?)
  (hf : Blk w' e.g 86 [e.v, .int .i64 (e.f.safe : Int)]) (hr : PRow w' e.v e.f.l) (hs : e.v.ownBlock ≠ some e.g) (hb : ∀ x ∈ e.blocks, ¬ Own d mp es x) : Dk w' d mp (Nmd.ins E.nm e es) s := by
 refine { blk := ?_, map := ⟨D.put (.string e.nm) (.lit (.int .i64 ((e.g : Int) + 1))), ?_, ?_, fun n => ?_⟩, file := ?_, row := ?_, up := h.up.ins hn, apart := ?_, self := ?_, dm := h.dm, out := ?_ }
 ·exact (hk d h.blk.lt h.dm).trans h.blk
 ·rw [Nmd.length_ins]; exact hm
 ·rw [Nmd.length_ins, Maps.size_put ht, (hD.2 e.nm).2, Nmd.get_none_of hn, hD.1]; rfl
 ·rw [Nmd.get_ins hn]
  by_cases hen : e.nm = n
  ·rw [if_pos hen, ← hen]
   exact ⟨Maps.atKey_put_same ht.isMap (show WideAt.IsKeyLit (.string e.nm) from trivial) _ _, Maps.has_put_same ht.isMap (show WideAt.IsKeyLit (.string e.nm) from trivial) _⟩
  ·rw [if_neg hen]
   have hne : (Lit.string n) ≠ .string e.nm := fun h => hen (by injection h with h; exact h.symm)
   rw [Maps.atKey_put_other hne, Maps.has_put_other hne]
   exact hD.2 n
 ·intro x hx
  rcases Nmd.mem_ins.1 hx with rfl | hx
  ·exact hf
  ·exact (hk x.g (h.file x hx).lt (h.out x hx x.g (mem_blocks.2 (.inl rfl))).2).trans (h.file x hx)
 ·intro x hx
  rcases Nmd.mem_ins.1 hx with rfl | hx
  ·exact hr
  ·exact (h.row x hx).same fun g hg => hk g ((h.row x hx).lt hg) (h.out x hx g (mem_blocks.2 (.inr hg))).2
 ·intro a ha b hb' hab x hxa hxb
  have ha1 := ha
  have hb1 := hb'
  clear ha hb'
  rcases Nmd.mem_ins.1 ha1 with rfl | ha <;> clear ha1 <;> rcases Nmd.mem_ins.1 hb1 with rfl | hb'
  ·exact hab rfl
  ·exact hb x hxa (.inr (.inr ⟨b, hb', hxb⟩))
  ·exact hb x hxb (.inr (.inr ⟨a, ha, hxa⟩))
  ·exact h.apart a ha b hb' hab x hxa hxb
 ·intro x hx
  rcases Nmd.mem_ins.1 hx with rfl | hx
  ·exact hs
  ·exact h.self x hx
 ·intro x hx y hy
  rcases Nmd.mem_ins.1 hx with rfl | hx
  ·exact ⟨fun e1 => hb y hy (.inl e1), fun e1 => hb y hy (.inr (.inl e1))⟩
  ·exact h.out x hx y hy
/-- a file less -/
theorem Dk.drop {w w' : World} {d mp : Nat} {es : List E} {s : H} {e : E} {D : DataW Unit} (h : Dk w d mp es s) (he : e ∈ es)
  (hD : MapD D es) (ht : Maps.Tidy D) (hm : w'.ownsMap Tryz.prog 9 ptrR mp es.length (D.del (.string e.nm)))
  (hk : ∀ i, i < w.heap.size → i ≠ mp → w'.heap[i]? = w.heap[i]?) : Dk w' d mp (Nmd.del E.nm e.nm es) s := by
 have hge : Nmd.get E.nm e.nm es = some e := by
  cases hgt : Nmd.get E.nm e.nm es with
  | none => exact absurd rfl (Nmd.get_none hgt e he)
  | some y => rw [h.up.same y (Nmd.get_mem hgt).1 e he (Nmd.get_mem hgt).2]
 have hlen := Nmd.length_del h.up hge
 have hsz : Maps.size (D.del (.string e.nm)) = (Nmd.del E.nm e.nm es).length := by
  have := Maps.size_del (k := .string e.nm) ht
  rw [(hD.2 e.nm).2, hge, hD.1] at this
  simp at this
  omega
 refine { blk := ?_, map := ⟨D.del (.string e.nm), ?_, hsz, fun n => ?_⟩, file := ?_, row := ?_, up := h.up.del _, apart := ?_, self := ?_, dm := h.dm, out := ?_ }
 ·exact (hk d h.blk.lt h.dm).trans h.blk
 ·rw [← hsz]; exact map_tight hm
 ·rw [Nmd.get_del]
  by_cases hen : e.nm = n
  ·rw [if_pos hen, ← hen]
   exact ⟨Maps.atKey_del_same _, Maps.has_del_same⟩
  ·rw [if_neg hen]
   have hne : (Lit.string n) ≠ .string e.nm := fun h => hen (by injection h with h; exact h.symm)
   rw [Maps.atKey_del_other hne, Maps.has_del_other hne]
   exact hD.2 n
 ·intro x hx
  have hx := (Nmd.mem_del.1 hx).1
  exact (hk x.g (h.file x hx).lt (h.out x hx x.g (mem_blocks.2 (.inl rfl))).2).trans (h.file x hx)
 ·intro x hx
  have hx := (Nmd.mem_del.1 hx).1
  exact (h.row x hx).same fun g hg => hk g ((h.row x hx).lt hg) (h.out x hx g (mem_blocks.2 (.inr hg))).2
 ·intro a ha b hb'
  exact h.apart a (Nmd.mem_del.1 ha).1 b (Nmd.mem_del.1 hb').1
 ·intro x hx
  exact h.self x (Nmd.mem_del.1 hx).1
 ·intro x hx
  exact h.out x (Nmd.mem_del.1 hx).1
theorem own_drop {d mp : Nat} {es : List E} {n : List UInt8} {x : Nat} (h : Own d mp (Nmd.del E.nm n es) x) : Own d mp es x := by
 rcases h with h | h | ⟨e, he, h⟩
 ·exact .inl h
 ·exact .inr (.inl h)
 ·exact .inr (.inr ⟨e, (Nmd.mem_del.1 he).1, h⟩)
theorem own_add {d mp : Nat} {es : List E} {e : E} {x : Nat} (h : Own d mp (Nmd.ins E.nm e es) x) : x ∈ e.blocks ∨ Own d mp es x := by
 rcases h with h | h | ⟨y, hy, h⟩
 ·exact .inr (.inl h)
 ·exact .inr (.inr (.inl h))
 ·rcases Nmd.mem_ins.1 hy with rfl | hy
  ·exact .inl h
  ·exact .inr (.inr (.inr ⟨y, hy, h⟩))
theorem own_upd {d mp : Nat} {es : List E} {e : E} {x : Nat} (h : Own d mp (Nmd.upd E.nm e es) x) : x ∈ e.blocks ∨ Own d mp es x := by
 rcases h with h | h | ⟨y, hy, h⟩
 ·exact .inr (.inl h)
 ·exact .inr (.inr (.inl h))
 ·rcases Nmd.mem_upd hy with rfl | hy
  ·exact .inl h
  ·exact .inr (.inr (.inr ⟨y, hy.1, h⟩))
/-- the map's keys -/
theorem keys_perm {w : World} {mp n : Nat} {es : List E} {D : DataW Unit} (hm : w.ownsMap Tryz.prog 9 ptrR mp n D) (hD : MapD D es) (hu : Nmd.Up E.nm es) : (Go.strKeys D).Perm (es.map E.nm) := by
 obtain ⟨xs, hx, hp⟩ := hm.tidy (Maps.string_keyed Tryz.underlying9)
 obtain ⟨xs', hx', hk⟩ := hm.keysOf
 have e1 : xs' = xs := by
  have := hx'.symm.trans hx
  injection this
 subst e1 hx
 refine (Go.perm_strKeys hp (fun p hp' => ?_) ?_ fun n => ?_).symm
 ·obtain ⟨v, hv⟩ := hk p hp'
  obtain ⟨x, _, hx, _⟩ := Go.Maps.keyOf_str Tryz.underlying9 hv
  exact ⟨x, hx⟩
 ·exact (Nmd.up_names.1 hu).imp fun h e => by rw [e] at h; exact List.lt_irrefl _ h
 ·rw [(hD.2 n).2]
  cases hg : Nmd.get E.nm n es with
  | none =>
    refine ⟨fun hx => ?_, fun h => by cases h⟩
    obtain ⟨y, hy, hn⟩ := List.mem_map.1 hx
    exact absurd hn (Nmd.get_none hg y hy)
  | some y =>
    have := Nmd.get_mem hg
    exact ⟨fun _ => rfl, fun _ => List.mem_map.2 ⟨y, this.1, this.2⟩⟩
end Plk
end Go.Proofs.YtafeealbdpmdkaaGreatDoor
/- A disk, plainly; a new one. -/
namespace Go.Proofs.YtafeealbdpmdkaaGreatDoor
open Go Go.RowKit
namespace Plk
structure P where
 fs : List F
 h : H
def isName (n : List UInt8) : Bool := decide (1 ≤ n.length) && decide (n.length ≤ 80)
def H.begin (h : H) (ns : List (List UInt8)) : Int × H :=
 if (ns.any fun n => !isName n) = true then (1, h) else if h.off = true then (12, h)
 else if h.ak = 0 ∨ h.ops + 1 < h.af ∨ h.al < h.ops + 1 then (0, { h with ops := h.ops + 1 })
 else if h.ak = 2 then (12, { h with ops := h.ops + 1, off := true, ak := 0, af := 0, al := 0 }) else (11, { h with ops := h.ops + 1 })
def sum (fs : List F) : Nat := (fs.map fun f => f.l.length).sum
structure Good (p : P) : Prop where
 up : Nmd.Up F.name p.fs
 used : p.h.used = (sum p.fs : Int)
 room : p.h.used ≤ p.h.room ∧ p.h.room ≤ 4194304
 safe : ∀ f ∈ p.fs, f.safe ≤ f.l.length
 cnt : p.fs.length ≤ 200
 names : ∀ f ∈ p.fs, isName f.name = true
 ops : 0 ≤ p.h.ops
def new (room : Int) : P := ⟨[], ⟨min (max room 0) 4194304, 0, 0, false, 0, 0, 0⟩⟩
theorem good_new (room : Int) : Good (new room) := by
 refine ⟨Nmd.up_nil _, rfl, ⟨?_, ?_⟩, fun f hf => (by cases hf), Nat.zero_le _, fun f hf => (by cases hf), Int.le_refl _⟩
 ·show (0 : Int) ≤ min (max room 0) 4194304
  omega
 ·show min (max room 0) 4194304 ≤ (4194304 : Int)
  omega
theorem new_at (n : Int) (W : World) : Dk ((W.alloc (.map #[] 0)).alloc (.cells #[.map (some W.heap.size), .int .i64 n, .int .i64 0, .int .i64 0, .bool false, .int .i64 0, .int .i64 0, .int .i64 0] 74)) (W.heap.size + 1) W.heap.size [] ⟨n, 0, 0, false, 0, 0, 0⟩ := by
 have hm := (World.ownsMap_made W Tryz.prog 9 ptrR)
 refine { blk := ?_, map := ⟨.map [], hm.alloc _, rfl, fun n => ⟨rfl, rfl⟩⟩, file := fun e he => (by cases he), row := fun e he => (by cases he), up := Nmd.up_nil _, apart := fun e he => (by cases he), self := fun e he => (by cases he), dm := by omega, out := fun e he => (by cases he) }
 have := heap_alloc_new (W.alloc (.map #[] 0)) (.cells #[.map (some W.heap.size), .int .i64 n, .int .i64 0, .int .i64 0, .bool false, .int .i64 0, .int .i64 0, .int .i64 0] 74)
 rw [show (W.alloc (.map #[] 0)).heap.size = W.heap.size + 1 by simp] at this
 exact this
set_option maxHeartbeats 1000000 in
theorem new_any (room : Int) (W : World) : Calls Tryz.prog 5 #[.int .i64 room] W fun e w' => ∃ d mp, e = .returned (.pointer (some ⟨d, 0, none⟩)) ∧ Dk w' d mp [] (new room).h ∧ W.heap.size ≤ d ∧ W.heap.size ≤ mp ∧ Reg.Ext W w' := by
 have hmm := @run_makeMap Tryz.prog
 have fin : ∀ n, n = min (max room 0) 4194304 → ∃ d, Ending.returned (.pointer (some ⟨W.heap.size + 1, 0, none⟩)) = .returned (.pointer (some ⟨d, 0, none⟩)) ∧ ∃ mp, Dk ((W.alloc (.map #[] 0)).alloc (.cells #[.map (some W.heap.size), .int .i64 n, .int .i64 0, .int .i64 0, .bool false, .int .i64 0, .int .i64 0, .int .i64 0] 74)) d mp [] (new room).h ∧ W.heap.size ≤ d ∧ W.heap.size ≤ mp ∧ Reg.Ext W ((W.alloc (.map #[] 0)).alloc (.cells #[.map (some W.heap.size), .int .i64 n, .int .i64 0, .int .i64 0, .bool false, .int .i64 0, .int .i64 0, .int .i64 0] 74)) := by
  intro n hn
  refine ⟨_, rfl, _, ?_, by omega, Nat.le_refl _, (Reg.Ext.alloc _ _).trans (Reg.Ext.alloc _ _)⟩
  unfold new
  rw [← hn]
  exact new_at n W
 go_enter Tryz.func5, Tryz.ntmps5
 go_wp2
 all_goals (go_ret; refine fin _ ?_; omega)
end Plk
end Go.Proofs.YtafeealbdpmdkaaGreatDoor

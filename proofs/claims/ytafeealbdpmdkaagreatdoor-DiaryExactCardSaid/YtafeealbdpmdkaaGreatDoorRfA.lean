/- Made by merge.py from: OneRow RefD RefB RefC RefE RefG RefH. -/
import Derived.Test.YtafeealbdpmdkaaGreatDoorOwn
import Derived.Test.YtafeealbdpmdkaaGreatDoorPkD
import Derived.Laws.OwnMore
import Derived.BigQuiet
import Derived.Lib.Hide
import Derived.Deep.MidRow
import Derived.StillTailTactics
import Derived.Sort.Walk0
import Derived.Test.YtafeealbdpmdkaaGreatDoorPkE
set_option linter.unusedSimpArgs false
set_option linter.unusedVariables false
set_option linter.unusedSectionVars false
set_option maxRecDepth 100000
/- A slice of one struct, made. -/
open Go.Act renaming put → z_1, eval → z_2
open List renaming setIfInBounds_toArray → z_3, set_cons_zero → z_4, set_cons_succ → z_5, getElem?_toArray → z_7, getElem?_cons_succ → z_8, getElem?_cons_zero → z_9
open Array renaming getD_eq_getD_getElem? → z_6
open Option renaming getD_some → z_0
open Go.Lib renaming hid → y_
open Nat renaming reduceAdd → z_b
-- squeezed
namespace Go.Proofs.YtafeealbdpmdkaaGreatDoor
open Go.RowKit
namespace One
theorem fold_row (l pre rest : List Value) (h : rest.length = l.length) :
  (l.zipIdx pre.length).foldl (fun (cs : Array Value) (p : Value × Nat) => cs.setIfInBounds (0 + p.2) p.1) (pre ++ rest).toArray = (pre ++ l).toArray := by
 induction l generalizing pre rest with
 | nil =>
   have : rest = [] := List.length_eq_zero_iff.1 h
   rw [this]; rfl
 | cons c l ih =>
   cases rest with
   | nil => cases h
   | cons r rest =>
     have h2 := ih (pre ++ [c]) rest (by simpa using h)
     rw [List.zipIdx_cons, List.foldl_cons]
     have e : (pre ++ r :: rest).toArray.setIfInBounds (0 + pre.length) c = (pre ++ [c] ++ rest).toArray := by
      rw [Nat.zero_add, List.setIfInBounds_toArray, List.set_append_right _ _ (Nat.le_refl _), Nat.sub_self]
      simp
     simp only at e ⊢
     rw [e, show pre.length + 1 = (pre ++ [c]).length by simp, h2]
     simp
theorem fill_row (cs z : Array Value) (size : Nat) (hc : cs.size = size) (hz : z.size = size) :
  Instr.fill (fun i => some (i * size, size)) z [(0, .agg cs)] = some cs := by
 have hv : (Value.agg cs).cells = cs := rfl
 have h := fold_row cs.toList [] z.toList (by simp [hc, hz])
 simp only [List.nil_append, List.length_nil, Array.toArray_toList] at h
 unfold Instr.fill
 simp only [hv, Nat.zero_mul]
 rw [if_neg (by simp [hc, hz])]
 unfold Instr.fill
 rw [← Array.foldl_toList, Array.toList_zipIdx, h]
theorem run_one_row {P : Program} (w : World) (t e : TypeId) (cs : Array Value) (i : TypeInfo) (z : Value) (ht : P.underlying t = some (.slice e)) (hi : P.info? e = some i) (hz : i.zero = some z) (hs : i.size = cs.size) (h0 : 0 < cs.size) (hm : cs.size ≤ 16777216) :
  (Instr.buildSlice t 1 #[(0, .agg cs)]).run P w = .ok (.slice (some ⟨w.heap.size, 0, none⟩) 1 1) (w.alloc (.cells cs e)) := by
 have hf := fill_row cs ((Array.range (1 * cs.size)).map (z.cells[· % z.cells.size]!)) cs.size rfl (by simp)
 have h1 : (sizeOf e).run P w = .ok cs.size w := by simp [sizeOf, run_typeInfo w hi, hs]
 have h2 : (zeroValue e).run P w = .ok z w := by simp [zeroValue, run_typeInfo w hi, hz]
 have h3 : ∀ cs, (newRow e cs).run P w = .ok ⟨w.heap.size, 0, none⟩ (w.alloc (.cells cs e)) := fun cs => by simp [newRow, go_sem]
 unfold Instr.buildSlice
 simp only [Sem.run_bind, run_underlying ht, Result.andThen_ok, h1, Nat.one_mul]
 simp only [Sem.run_bind, Result.andThen_ok, Nat.one_mul, if_neg (show ¬ cs.size > 2 ^ 24 by omega), if_neg (show ¬ cs.size = 0 by omega), h2, Sem.run_pure]
 rw [Nat.one_mul] at hf
 rw [hf]
 simp only [Sem.run_bind, Result.andThen_ok, h3, Sem.run_pure]
theorem exec_one_row {P : Program} (w : World) (ρ : Operand → Value) (o : Oper) (x : Operand) (t e : TypeId) (cs : Array Value) (ho : o.op = .buildSlice t 1 #[(0, x)]) (hx : ρ x = .agg cs) (i : TypeInfo) (z : Value) (ht : P.underlying t = some (.slice e)) (hi : P.info? e = some i) (hz : i.zero = some z) (hs : i.size = cs.size) (h0 : 0 < cs.size) (hm : cs.size ≤ 16777216) :
  (execOp ρ o).run P w = .ok (.value (.slice (some ⟨w.heap.size, 0, none⟩) 1 1)) (w.alloc (.cells cs e)) := by
 have h := run_one_row w t e cs i z ht hi hz hs h0 hm
 unfold execOp
 rw [ho]
 simp only [List.map_toArray, List.map_cons, List.map_nil, hx, Sem.run_bind, h, Result.andThen_ok, Sem.run_pure]
theorem wpList_valw {P : Program} {ops : Array Oper} {rest : List Oper} {o : Oper} {a : Act} {w w' : World} {Q : Exit → Act → World → Prop} (hgd : o.guard = none) (v : Value)
  (hr : (execOp a.eval o).run P w = .ok (.value v) w') (hk : wpList P ops Q rest (a.put o.dst v) w') : wpList P ops Q (o :: rest) a w :=
 wpList_plain hgd fun K hK => by unfold Oper.wp; rw [hr]; exact hK _ _ hk
end One
end Go.Proofs.YtafeealbdpmdkaaGreatDoor
/- The document's disk: how it lies in memory. -/
namespace Go.Proofs.YtafeealbdpmdkaaGreatDoor
open Go Go.RowKit
theorem Tryz.fileUnd : Tryz.prog.underlying 65 = some (.struct (Tryz.prog.fieldsOf 65)) := by kernel_rfl
theorem Tryz.fileSize : (Tryz.prog.info? 65).map (·.size) = some 3 := by kernel_rfl
theorem Tryz.fileInfo : (Tryz.prog.info? 65).map (fun i => (i.zero, i.size, i.bytes)) = some (some (.agg #[.string ⟨#[]⟩, .string ⟨#[]⟩, .int .i64 0]), 3, 40) := by kernel_rfl
theorem fileInfo_of : ∃ i, Tryz.prog.info? 65 = some i ∧ i.zero = some (.agg #[.string ⟨#[]⟩, .string ⟨#[]⟩, .int .i64 0]) ∧ i.size = 3 ∧ i.bytes = 40 := by
 obtain ⟨i, hi, h⟩ := Option.map_eq_some_iff.1 Tryz.fileInfo
 simp only [Prod.mk.injEq] at h
 exact ⟨i, hi, h.1, h.2.1, h.2.2⟩
namespace Rk
open Plk (F P H)
def fcs (f : F) : List Value := [.string ⟨f.name.toArray⟩, .string ⟨f.l.toArray⟩, .int .i64 (f.safe : Int)]
def fval (f : F) : Value := .agg (fcs f).toArray
def lcs (fs : List F) : List Value := fs.flatMap fcs
theorem lcs_len (fs : List F) : (lcs fs).length = fs.length * 3 := by
 induction fs with
 | nil => rfl
 | cons f fs ih => simp only [lcs, List.flatMap_cons, List.length_append, List.length_cons, fcs, List.length_nil] at *; omega
theorem lcs_append (a b : List F) : lcs (a ++ b) = lcs a ++ lcs b := by simp [lcs]
theorem lcs_cons (f : F) (fs : List F) : lcs (f :: fs) = fcs f ++ lcs fs := rfl
theorem lcs_drop (fs : List F) (k : Nat) : (lcs fs).drop (k * 3) = lcs (fs.drop k) := by
 induction fs generalizing k with
 | nil => simp [lcs]
 | cons f fs ih =>
   cases k with
   | zero => rw [Nat.zero_mul]; rfl
   | succ k =>
     rw [lcs_cons, List.drop_succ_cons, ← ih k, show (k + 1) * 3 = (fcs f).length + k * 3 by simp [fcs]; omega, ← List.drop_drop, List.drop_left]
theorem lcs_take (fs : List F) (k : Nat) : (lcs fs).take (k * 3) = lcs (fs.take k) := by
 induction fs generalizing k with
 | nil => simp [lcs]
 | cons f fs ih =>
   cases k with
   | zero => rw [Nat.zero_mul]; rfl
   | succ k =>
     rw [lcs_cons, List.take_succ_cons, lcs_cons, ← ih k, show (k + 1) * 3 = (fcs f).length + k * 3 by simp [fcs]; omega, List.take_length_add_append]
theorem lcs_at (fs : List F) (k : Nat) (hk : k < fs.length) (i : Nat) (hi : i < 3) : (lcs fs)[k * 3 + i]? = (fcs fs[k])[i]? := by
 have h := lcs_drop fs k
 rw [List.drop_eq_getElem_cons hk, lcs_cons] at h
 have h2 := congrArg (fun l => l[i]?) h
 simp only [List.getElem?_drop] at h2
 rw [h2, List.getElem?_append_left (by simp [fcs]; omega)]
/-- the document's disk, plainly -/
structure R where
 l : List F
 room : Int
 ops : Int
 at_ : Int
 kind : Int
 more : Int
 off : Bool
def R.cells (r : R) (v : Value) : List Value := [v, .int .i64 r.room, .int .i64 r.ops, .int .i64 r.at_, .int .i64 r.kind, .int .i64 r.more, .bool r.off]
/-- a slice of files in a block of its own -/
def LV (w : World) (v : Value) (fs : List F) : Prop := w.ownsRow 0 65 3 v fs.length (lcs fs)
structure RD (w : World) (b : Nat) (v : Value) (r : R) : Prop where
 blk : Blk w b 63 (r.cells v)
 row : LV w v r.l
 away : v.ownBlock ≠ some b
/-- the slice's block is the old one or a new one -/
def Newer (w : World) (v v' : Value) : Prop := v'.ownBlock = v.ownBlock ∨ ∀ g, v'.ownBlock = some g → w.heap.size ≤ g
theorem Newer.refl (w : World) (v : Value) : Newer w v v := .inl rfl
theorem Newer.trans {w w1 : World} {v v1 v2 : Value} (h : Newer w v v1) (h1 : Newer w1 v1 v2) (hs : w.heap.size ≤ w1.heap.size) : Newer w v v2 := by
 rcases h1 with h1 | h1
 ·rcases h with h | h
  ·exact .inl (h1.trans h)
  ·exact .inr fun g hg => h g (by rw [← h1]; exact hg)
 ·exact .inr fun g hg => Nat.le_trans hs (h1 g hg)
theorem RD.but {w w' : World} {b : Nat} {v : Value} {r r' : R} (h : RD w b v r) (hb : But b w w') (hk : Blk w' b 63 (r'.cells v)) (hl : r'.l = r.l) : RD w' b v r' :=
 ⟨hk, by rw [hl]; exact h.row.kept hb (.inr h.away), h.away⟩
theorem RD.ext {w w' : World} {b : Nat} {v : Value} {r : R} (h : RD w b v r) (hx : Reg.Ext w w') : RD w' b v r :=
 ⟨h.blk.ext hx, own_ext h.row hx, h.away⟩
theorem RD.set_ {w : World} {b : Nat} {v : Value} {r r' : R} (h : RD w b v r) (i : Nat) (u : Value) (hs : (r.cells v).set i u = r'.cells v) (hl : r'.l = r.l) : RD (w.setCell ⟨b, i, none⟩ u) b v r' :=
 h.but (But.set_ b w i u) (by rw [← hs]; exact h.blk.set_ i u) hl
/-- another slice of files -/
theorem RD.turn {w1 : World} {b : Nat} {v v' : Value} {r : R} (h : RD w1 b v r) (fs : List F) (hr : LV w1 v' fs) (ha : v'.ownBlock ≠ some b) : RD (w1.setCell ⟨b, 0, none⟩ v') b v' { r with l := fs } :=
 ⟨h.blk.set_ 0 v', hr.kept (But.set_ b w1 0 v') (.inr ha), ha⟩
theorem RD.c {w : World} {b : Nat} {v : Value} {r : R} (h : RD w b v r) : w.cell? ⟨b, 0, none⟩ = some v ∧ w.cell? ⟨b, 1, none⟩ = some (.int .i64 r.room) ∧ w.cell? ⟨b, 2, none⟩ = some (.int .i64 r.ops) ∧ w.cell? ⟨b, 3, none⟩ = some (.int .i64 r.at_) ∧
  w.cell? ⟨b, 4, none⟩ = some (.int .i64 r.kind) ∧ w.cell? ⟨b, 5, none⟩ = some (.int .i64 r.more) ∧ w.cell? ⟨b, 6, none⟩ = some (.bool r.off) :=
 ⟨h.blk.cell 0, h.blk.cell 1, h.blk.cell 2, h.blk.cell 3, h.blk.cell 4, h.blk.cell 5, h.blk.cell 6⟩
theorem LV.form {w : World} {v : Value} {fs : List F} (h : LV w v fs) : (v = .slice none 0 0 ∧ fs = []) ∨ ∃ g cap, v = .slice (some ⟨g, 0, none⟩) fs.length cap ∧ g < w.heap.size ∧ fs.length ≤ cap ∧ cap ≤ maxLen := by
 rcases h.2 with ⟨rfl, hn⟩ | ⟨g, cap, cur, rfl, _, hc, h1, h2, _⟩
 ·exact .inl ⟨rfl, List.eq_nil_of_length_eq_zero hn⟩
 ·exact .inr ⟨g, cap, rfl, (Array.getElem?_eq_some_iff.1 hc).1, h1, h2⟩
theorem LV.len {w : World} {v : Value} {fs : List F} (h : LV w v fs) : ∃ A cap, v = .slice A fs.length cap := by
 rcases h.form with ⟨rfl, rfl⟩ | ⟨g, cap, rfl, _⟩
 ·exact ⟨none, 0, rfl⟩
 ·exact ⟨_, cap, rfl⟩
theorem LV.at_ {w : World} {g cap : Nat} {fs : List F} (h : LV w (.slice (some ⟨g, 0, none⟩) fs.length cap) fs) (k : Nat) (hk : k < fs.length) (i : Nat) (hi : i < 3) : w.cell? ⟨g, k * 3 + i, none⟩ = (fcs fs[k])[i]? := by
 rw [World.ownsRow.cellAt h (k * 3 + i) (by omega), lcs_at fs k hk i hi]
def new (room : Int) : R := ⟨[], min (max room 0) 4194304, 0, 0, 0, 0, false⟩
theorem new_at (n : Int) (W : World) : RD (W.alloc (.cells #[.slice none 0 0, .int .i64 n, .int .i64 0, .int .i64 0, .int .i64 0, .int .i64 0, .bool false] 63)) W.heap.size (.slice none 0 0) ⟨[], n, 0, 0, 0, 0, false⟩ :=
 ⟨Blk.new W _ _, World.ownsRow_nil _ _ _ _, by simp [Value.ownBlock]⟩
theorem new_any (room : Int) (W : World) : Calls Tryz.prog 6 #[.int .i64 room] W fun e w' => ∃ b v, e = .returned (.pointer (some ⟨b, 0, none⟩)) ∧ RD w' b v (new room) ∧ v = .slice none 0 0 ∧ W.heap.size ≤ b ∧ Reg.Ext W w' := by
 have fin : ∀ n, n = min (max room 0) 4194304 → ∃ b v, Ending.returned (.pointer (some ⟨W.heap.size, 0, none⟩)) = .returned (.pointer (some ⟨b, 0, none⟩)) ∧ RD (W.alloc (.cells #[.slice none 0 0, .int .i64 n, .int .i64 0, .int .i64 0, .int .i64 0, .int .i64 0, .bool false] 63)) b v (new room) ∧ v = .slice none 0 0 ∧ W.heap.size ≤ b ∧ Reg.Ext W (W.alloc (.cells #[.slice none 0 0, .int .i64 n, .int .i64 0, .int .i64 0, .int .i64 0, .int .i64 0, .bool false] 63)) := by
  intro n hn
  refine ⟨_, _, rfl, ?_, rfl, Nat.le_refl _, Reg.Ext.alloc _ _⟩
  unfold new
  rw [← hn]
  exact new_at n W
 go_enter Tryz.func6, Tryz.ntmps6
 go_wp2
 all_goals (go_ret; refine fin _ ?_; omega)
def place (fs : List F) (n : List UInt8) : Option Nat := fs.findIdx? fun f => decide (f.name = n)
def plV (fs : List F) (n : List UInt8) : Int := match place fs n with
 | none => -1
 | some k => (k : Int)
end Rk
end Go.Proofs.YtafeealbdpmdkaaGreatDoor
/- The document's disk: Place, Used, Off, begin. -/
namespace Go.Proofs.YtafeealbdpmdkaaGreatDoor
open Go Go.RowKit
namespace Rk
open Plk (F P H isName sum)
theorem plV_some {fs : List F} {n : List UInt8} {k : Nat} (hk : k < fs.length) (h : fs[k].name = n) (ha : ∀ j (hj : j < fs.length), j < k → fs[j].name ≠ n) : place fs n = some k := by
 unfold place
 rw [List.findIdx?_eq_some_iff_getElem]
 exact ⟨hk, by simpa using h, fun j hj => by simpa using ha j (by omega) hj⟩
theorem plV_none {fs : List F} {n : List UInt8} (ha : ∀ j (hj : j < fs.length), fs[j].name ≠ n) : place fs n = none := by
 unfold place
 rw [List.findIdx?_eq_none_iff]
 intro x hx
 obtain ⟨j, hj, rfl⟩ := List.mem_iff_getElem.1 hx
 simpa using ha j hj
set_option maxHeartbeats 1000000 in
theorem place_any (w : World) (b : Nat) (v : Value) (r : R) (h : RD w b v r) (n : List UInt8) (hl : r.l.length ≤ 200) :
  Calls Tryz.prog 38 #[.pointer (some ⟨b, 0, none⟩), .string ⟨n.toArray⟩] w fun e w' => e = .returned (.int .i64 (plV r.l n)) ∧ w' = w := by
 have c0 := h.c.1
 obtain ⟨A, cap, hv⟩ := h.row.len
 subst hv
 have hR := y_ h.row
 clear h
 generalize r.l = fs at *
 generalize hres : plV fs n = res
 have hrk := y_ hres
 clear hres
 go_enter Tryz.func38, Tryz.ntmps38
 go_wp2_with fail
 go_loopw [5] (fun i wr => ∃ k : Nat, i = .int .i64 (k : Int) ∧ k ≤ fs.length ∧ Hid (∀ j (hj : j < fs.length), j < k → fs[j].name ≠ n) ∧ wr = w) (fun i _ => fs.length - (intOf i).toNat)
 case atStart => exact ⟨0, rfl, Nat.zero_le _, y_ (fun j _ hj => absurd hj (Nat.not_lt_zero _)), rfl⟩
 case round =>
  obtain ⟨k, rfl, hk, HA, rfl⟩ := hrel
  by_cases hks : k < fs.length
  ·rcases hR.out.form with ⟨_, h2⟩ | ⟨g, cap', h2, _⟩
   ·rw [h2] at hks; exact absurd hks (Nat.not_lt_zero _)
   ·injection h2 with h2 _ h3
    subst h2 h3
    have q0 := hR.out.at_ k hks 0 (by omega)
    dsimp only [fcs, List.getElem?_cons_zero] at q0
    rw [Nat.add_zero] at q0
    by_cases he : fs[k].name = n
    ·have hp := plV_some hks he HA.out
     have e1 : (fs[k].name == n) = true := beq_iff_eq.2 he
     have hpl : res = (k : Int) := by rw [← hrk.out]; unfold plV; rw [hp]
     have HPL := y_ hpl
     clear hpl hp he
     generalize fs[k].name = m at *
     go_wp2_with fail
     go_ret
     exact ⟨by rw [HPL.out]; rfl, rfl⟩
    ·have e1 : (fs[k].name == n) = false := beq_eq_false_iff_ne.2 he
     have HA2 : Hid (∀ j (hj : j < fs.length), j < k + 1 → fs[j].name ≠ n) := y_ fun j hj hjk => by
      by_cases e : j = k
      ·subst e; exact he
      ·exact HA.out j hj (by omega)
     clear he
     generalize fs[k].name = m at q0 e1
     go_wp2_with fail
     go_roundw
     case rel => exact ⟨k + 1, by go_num, by omega, HA2, trivial⟩
     case measure => simp [intOf]; omega
  ·have hke : k = fs.length := by omega
   have hpl : res = -1 := by rw [← hrk.out]; unfold plV; rw [plV_none fun j hj => HA.out j hj (by omega)]
   have HPL := y_ hpl
   clear hpl HA
   subst hke
   go_wp2_with fail
   go_ret
   exact ⟨by rw [HPL.out]; rfl, rfl⟩
theorem sum_take_le (fs : List F) (k : Nat) : sum (fs.take k) ≤ sum fs := by
 have h1 : sum (fs.take k) + sum (fs.drop k) = sum fs := by
  unfold sum
  rw [← List.sum_append, ← List.map_append, List.take_append_drop]
 omega
theorem sum_takeS (fs : List F) (j : Nat) (hj : j < fs.length) : sum (fs.take (j + 1)) = sum (fs.take j) + fs[j].l.length := by
 rw [List.take_succ_eq_append_getElem hj]
 unfold sum
 rw [List.map_append, List.sum_append]
 simp
theorem bz (t : List UInt8) : (⟨t.toArray⟩ : ByteArray).size = t.length := by simp [ByteArray.size]
set_option maxHeartbeats 1000000 in
theorem used_any (w : World) (b : Nat) (v : Value) (r : R) (h : RD w b v r) (hl : r.l.length ≤ 200) (hs : sum r.l ≤ 4194304) :
  Calls Tryz.prog 49 #[.pointer (some ⟨b, 0, none⟩)] w fun e w' => e = .returned (.int .i64 (sum r.l : Int)) ∧ w' = w := by
 have c0 := h.c.1
 obtain ⟨A, cap, hv⟩ := h.row.len
 subst hv
 have hR := y_ h.row
 clear h
 generalize r.l = fs at *
 go_enter Tryz.func49, Tryz.ntmps49
 go_wp2_with fail
 go_loopw [3, 4] (fun s i wr => ∃ k : Nat, i = .int .i64 (k : Int) ∧ k ≤ fs.length ∧ s = .int .i64 (sum (fs.take k) : Int) ∧ wr = w) (fun _ i _ => fs.length - (intOf i).toNat)
 case atStart => exact ⟨0, rfl, Nat.zero_le _, rfl, rfl⟩
 case round =>
  obtain ⟨k, rfl, hk, rfl, rfl⟩ := hrel
  by_cases hks : k < fs.length
  ·rcases hR.out.form with ⟨_, h2⟩ | ⟨g, cap', h2, _⟩
   ·rw [h2] at hks; exact absurd hks (Nat.not_lt_zero _)
   ·injection h2 with h2 _ h3
    subst h2 h3
    have q0 := hR.out.at_ k hks 1 (by omega)
    dsimp only [fcs, List.getElem?_cons_zero, List.getElem?_cons_succ] at q0
    have hz := bz fs[k].l
    have hst := sum_takeS fs k hks
    have hle := sum_take_le fs (k + 1)
    have HST := y_ hst
    rw [hst] at hle
    have hle2 : sum (fs.take k) + fs[k].l.length ≤ 4194304 := by omega
    clear hst hle
    generalize fs[k].l = m at *
    go_wp2_with fail
    go_roundw
    case rel => exact ⟨k + 1, by go_num, by omega, by rw [HST.out]; go_num, trivial⟩
    case measure => simp [intOf]; omega
  ·have hke : k = fs.length := by omega
   subst hke
   go_wp2_with fail
   go_ret
   exact ⟨by rw [List.take_length]; rfl, rfl⟩
theorem off_any (w : World) (b : Nat) (v : Value) (r : R) (h : RD w b v r) :
  Calls Tryz.prog 14 #[.pointer (some ⟨b, 0, none⟩)] w fun e w' => e = .returned (.tuple #[]) ∧ RD w' b v { r with off := true, kind := 0 } ∧ But b w w' := by
 obtain ⟨c0, c1, c2, c3, c4, c5, c6⟩ := h.c
 have f4 := h.blk.frozen 4
 have f6 := h.blk.frozen 6
 go_enter Tryz.func14, Tryz.ntmps14
 go_wp2
 go_end0
 exact ⟨rfl, (h.set_ (r' := { r with off := true }) 6 (.bool true) rfl rfl).set_ (r' := { r with off := true, kind := 0 }) 4 (.int .i64 0) rfl rfl, (But.set_ b w 6 _).trans (But.set_ b _ 4 _)⟩
def R.begin (r : R) (n t : List UInt8) : Int × R :=
 if isName n = false ∨ isName t = false then (1, r) else if r.off = true then (12, r)
 else if r.kind = 0 ∨ r.ops + 1 < r.at_ then (0, { r with ops := r.ops + 1 })
 else if r.kind = 2 then (12, { r with ops := r.ops + 1, off := true, kind := 0 })
 else if r.ops + 1 - r.at_ ≤ max r.more 0 then (11, { r with ops := r.ops + 1 }) else (0, { r with ops := r.ops + 1 })
theorem isN (n : List UInt8) : isName n = false ↔ n.length < 1 ∨ 80 < n.length := by
 unfold isName
 simp only [Bool.and_eq_false_iff, decide_eq_false_iff_not]
 omega
set_option maxHeartbeats 1000000 in
theorem begin_any (w : World) (b : Nat) (v : Value) (r : R) (h : RD w b v r) (n t : List UInt8) (h0 : 0 ≤ r.ops) (h1 : r.ops < 4611686018427387904) (ha : 0 ≤ r.at_) (ha1 : r.at_ < 4611686018427387904) :
  Calls Tryz.prog 48 #[.pointer (some ⟨b, 0, none⟩), .agg #[.string ⟨n.toArray⟩, .string ⟨t.toArray⟩]] w fun e w' => e = .returned (.int .i64 (r.begin n t).1) ∧ RD w' b v (r.begin n t).2 ∧ But b w w' := by
 generalize hr : r.begin n t = res
 unfold R.begin at hr
 have hrk := y_ hr
 clear hr
 have z1 := bz n
 have z2 := bz t
 have hoff := off_any
 go_enter Tryz.func48, Tryz.ntmps48
 go_wp2_with fail
 have hx := Reg.Ext.alloc w (.cells #[.string ⟨n.toArray⟩, .string ⟨t.toArray⟩] 93)
 have hb9 := Blk.new w 93 #[.string ⟨n.toArray⟩, .string ⟨t.toArray⟩]
 have n0 := hb9.cell 0
 have n1 := hb9.cell 1
 dsimp only [List.getElem?_cons_zero, List.getElem?_cons_succ] at n0 n1
 have H9 := y_ (h.ext hx)
 have B9 : Hid (But b w (w.alloc (.cells #[.string ⟨n.toArray⟩, .string ⟨t.toArray⟩] 93))) := y_ (But.of_ext hx)
 generalize w.alloc (.cells #[.string ⟨n.toArray⟩, .string ⟨t.toArray⟩] 93) = w9 at *
 clear hx hb9 h
 generalize w.heap.size = g9 at *
 go_loopw [5] (fun i wr => ∃ k : Nat, i = .int .i64 (k : Int) ∧ k ≤ 2 ∧ Hid ((0 < k → isName n = true) ∧ (1 < k → isName t = true)) ∧ wr = w9) (fun i _ => 2 - (intOf i).toNat)
 case atStart => exact ⟨0, rfl, Nat.zero_le _, y_ ⟨fun h => absurd h (Nat.lt_irrefl _), fun h => absurd h (by decide)⟩, rfl⟩
 case round =>
  obtain ⟨k, rfl, hk, HA, rfl⟩ := hrel
  match k, hk with
  | 0, _ =>
    by_cases k1 : n.length < 1
    ·have hres := hrk.out
     rw [if_pos (.inl ((isN n).2 (.inl k1)))] at hres
     subst hres
     go_wp2_with fail
     go_ret
     exact ⟨rfl, H9.out, B9.out⟩
    ·by_cases k2 : 80 < n.length
     ·have hres := hrk.out
      rw [if_pos (.inl ((isN n).2 (.inr k2)))] at hres
      subst hres
      go_wp2_with fail
      go_ret
      exact ⟨rfl, H9.out, B9.out⟩
     ·have hnm : isName n = true := by
       have := isN n
       cases h : isName n with
       | true => rfl
       | false => exact absurd (this.1 h) (by omega)
      go_wp2_with fail
      go_roundw
      case rel => exact ⟨1, rfl, by omega, y_ ⟨fun _ => hnm, fun h => absurd h (by decide)⟩, trivial⟩
      case measure => simp [intOf]
  | 1, _ =>
    have hn1 := HA.out.1 (by decide)
    have HN := y_ hn1
    clear hn1
    by_cases k1 : t.length < 1
    ·have hres := hrk.out
     rw [if_pos (.inr ((isN t).2 (.inl k1)))] at hres
     subst hres
     go_wp2_with fail
     go_ret
     exact ⟨rfl, H9.out, B9.out⟩
    ·by_cases k2 : 80 < t.length
     ·have hres := hrk.out
      rw [if_pos (.inr ((isN t).2 (.inr k2)))] at hres
      subst hres
      go_wp2_with fail
      go_ret
      exact ⟨rfl, H9.out, B9.out⟩
     ·have hnm : isName t = true := by
       have := isN t
       cases h : isName t with
       | true => rfl
       | false => exact absurd (this.1 h) (by omega)
      go_wp2_with fail
      go_roundw
      case rel => exact ⟨2, rfl, by omega, y_ ⟨fun _ => HN.out, fun _ => hnm⟩, trivial⟩
      case measure => simp [intOf]
  | 2, _ =>
    have hres := hrk.out
    have hn1 := HA.out.1 (by decide)
    have hn2 := HA.out.2 (by decide)
    rw [if_neg (by rintro (h | h); rw [hn1] at h; cases h; rw [hn2] at h; cases h)] at hres
    have HRS := y_ hres
    clear hres hn1 hn2 n0 n1
    obtain ⟨c0, c1, c2, c3, c4, c5, c6⟩ := H9.out.c
    obtain ⟨l, room, ops, at_, kind, more, off⟩ := r
    dsimp only at HRS c1 c2 c3 c4 c5 c6 h0 h1 ha ha1
    cases off with
    | true =>
      have hres := HRS.out
      rw [if_pos rfl] at hres
      subst hres
      go_wp2_with fail
      go_ret
      exact ⟨rfl, H9.out, B9.out⟩
    | false =>
      have f2 := H9.out.blk.frozen 2
      go_wp2_with fail
      have hD2 : RD (wr.setCell ⟨b, 2, none⟩ (.int .i64 (ops + 1))) b v ⟨l, room, ops + 1, at_, kind, more, false⟩ := H9.out.set_ 2 _ rfl rfl
      have hb2 : But b w (wr.setCell ⟨b, 2, none⟩ (.int .i64 (ops + 1))) := B9.out.trans (But.set_ b _ 2 _)
      have ho1 : 0 ≤ ops + 1 ∧ ops + 1 ≤ 4611686018427387904 := by omega
      generalize wr.setCell ⟨b, 2, none⟩ (.int .i64 (ops + 1)) = w2 at hD2 hb2 ⊢
      generalize ops + 1 = o1 at hD2 HRS ho1 ⊢
      clear c0 c1 c2 c3 c4 c5 c6 f2 h0 h1 H9 B9 HA
      obtain ⟨h0, h1⟩ := ho1
      obtain ⟨c0, c1, c2, c3, c4, c5, c6⟩ := hD2.c
      dsimp only at c1 c2 c3 c4 c5 c6
      by_cases k1 : kind = 0
      ·have hres := HRS.out
       rw [if_neg Bool.false_ne_true, if_pos (.inl k1)] at hres
       subst hres
       subst k1
       go_quiet (fail)
       go_wp2
       go_ret
       exact ⟨rfl, hD2.ext (Reg.Ext.drewN _ _), hb2.trans (But.of_ext (Reg.Ext.drewN _ _))⟩
      ·have q1 : (kind == 0) = false := beq_eq_false_iff_ne.2 k1
       by_cases k2 : o1 < at_
       ·have q2 : decide (o1 < at_) = true := decide_eq_true k2
        have hres := HRS.out
        rw [if_neg Bool.false_ne_true, if_pos (.inr k2)] at hres
        subst hres
        clear k1 k2
        go_quiet (fail)
        go_wp2
        go_ret
        exact ⟨rfl, hD2.ext (Reg.Ext.drewN _ _), hb2.trans (But.of_ext (Reg.Ext.drewN _ _))⟩
       ·have q2 : decide (o1 < at_) = false := decide_eq_false k2
        by_cases k4 : kind = 2
        ·have hres := HRS.out
         rw [if_neg Bool.false_ne_true, if_neg (by rintro (h | h); exact k1 h; exact k2 h), if_pos k4] at hres
         subst hres
         clear k1 k2
         subst k4
         go_quiet (fail)
         go_wp2_with (go_at_call 14; refine (hoff _ b v _ (hD2.ext (Reg.Ext.drewN _ _))).mono ?_; rintro e w3 ⟨rfl, hD3, hb3⟩)
         go_ret
         exact ⟨rfl, hD3, (hb2.trans (But.of_ext (Reg.Ext.drewN _ _))).trans hb3⟩
        ·have q4 : (kind == 2) = false := beq_eq_false_iff_ne.2 k4
         by_cases k5 : o1 - at_ ≤ max more 0
         ·have q5 : decide (o1 - at_ ≤ max more 0) = true := decide_eq_true k5
          have hres := HRS.out
          rw [if_neg Bool.false_ne_true, if_neg (by rintro (h | h); exact k1 h; exact k2 h), if_neg k4, if_pos k5] at hres
          subst hres
          clear k1 k2 k4 k5
          go_quiet (fail)
          go_wp2_with fail
          go_quiet (fail)
          go_wp2
          go_ret
          exact ⟨rfl, (hD2.ext (Reg.Ext.drewN _ _)), (hb2.trans (But.of_ext (Reg.Ext.drewN _ _)))⟩
         ·have q5 : decide (o1 - at_ ≤ max more 0) = false := decide_eq_false k5
          have hres := HRS.out
          rw [if_neg Bool.false_ne_true, if_neg (by rintro (h | h); exact k1 h; exact k2 h), if_neg k4, if_neg k5] at hres
          subst hres
          clear k1 k2 k4 k5
          go_quiet (fail)
          go_wp2_with fail
          go_quiet (fail)
          go_wp2
          go_ret
          exact ⟨rfl, (hD2.ext (Reg.Ext.drewN _ _)), (hb2.trans (But.of_ext (Reg.Ext.drewN _ _)))⟩
end Rk
end Go.Proofs.YtafeealbdpmdkaaGreatDoor
/- The document's disk: rows of files that grow, that turn. -/
namespace Go.Proofs.YtafeealbdpmdkaaGreatDoor
open Go Go.RowKit
namespace Rk
open Plk (F P H isName sum)
theorem file_range {w : World} {g o : Nat} {f : F} (h0 : w.cell? ⟨g, o, none⟩ = some (.string ⟨f.name.toArray⟩)) (h1 : w.cell? ⟨g, o + 1, none⟩ = some (.string ⟨f.l.toArray⟩)) (h2 : w.cell? ⟨g, o + 2, none⟩ = some (.int .i64 (f.safe : Int))) : w.rangeAt g o (fcs f) := by
 intro j v hv
 match j, hv with
 | 0, hv => injection hv with hv; subst hv; exact h0
 | 1, hv => injection hv with hv; subst hv; exact h1
 | 2, hv => injection hv with hv; subst hv; exact h2
theorem LV.range {w : World} {g cap : Nat} {fs : List F} (h : LV w (.slice (some ⟨g, 0, none⟩) fs.length cap) fs) (k : Nat) (hk : k < fs.length) : w.rangeAt g (k * 3) (fcs fs[k]) :=
 file_range ((h.at_ k hk 0 (by omega)).trans rfl) ((h.at_ k hk 1 (by omega)).trans rfl) ((h.at_ k hk 2 (by omega)).trans rfl)
theorem blk_range {w : World} {g : Nat} {t : TypeId} {cs : List Value} (h : Blk w g t cs) : w.rangeAt g 0 cs := by
 intro j v hv
 rw [Nat.zero_add]
 rw [h.cell j, hv]
section
variable {ops : Array Oper} {rest : List Oper} {o : Oper} {a : Act} {w : World} {Q : Exit → Act → World → Prop}
theorem wpList_file (hw : Region.wanted o (yielded ops a.tmps) = true) (x : Operand) (ho : o.op = .load 65 x)
  (g off : Nat) (hx : a.eval x = .pointer (some ⟨g, off, none⟩)) (f : F) (h0 : w.rangeAt g off (fcs f))
  (hk : wpList Tryz.prog ops Q rest (a.put o.dst (fval f)) w) : wpList Tryz.prog ops Q (o :: rest) a w := by
 unfold wpList
 rw [if_pos hw]
 exact .inl (wp_load_mid _ x ho g off hx (fcs f) _ h0 Tryz.fileUnd rfl Tryz.fileSize hk)
theorem still_file {Q : Act → Prop} (hw : Region.wanted o (yielded ops a.tmps) = true) (x : Operand) (ho : o.op = .load 65 x)
  (g off : Nat) (hx : a.eval x = .pointer (some ⟨g, off, none⟩)) (f : F) (h0 : w.rangeAt g off (fcs f))
  (hk : wpStill Tryz.prog ops w Q rest (a.put o.dst (fval f))) : wpStill Tryz.prog ops w Q (o :: rest) a := by
 unfold wpStill
 rw [if_pos hw]
 unfold Oper.still execOp
 simp only [ho, hx, Instr.loadAt, Instr.sureAddr, Sem.run_bind, Sem.run_pure, Result.andThen_ok, run_loadVar_mid w g off _ (fcs f) _ h0 Tryz.fileUnd rfl Tryz.fileSize]
 exact ⟨rfl, hk⟩
theorem wpList_stfile (hgd : o.guard = none) (x y : Operand) (ho : o.op = .store 65 x y)
  (g off : Nat) (f : F) (hx : a.eval x = .pointer (some ⟨g, off, none⟩)) (hy : a.eval y = fval f) (hth : w.there g off 3)
  (h : wpList Tryz.prog ops Q rest (a.put o.dst undef) (w.setCells g off (fcs f))) : wpList Tryz.prog ops Q (o :: rest) a w := by
 refine wpList_store_mid hgd 65 x y ho g off (fcs f).toArray hx hy ?_ Tryz.fileSize (by simp [fcs, Value.oneCell']) h
 exact hth
end
theorem newfile (w : World) (f : F) (cs : Array Value) (hl : cs.size = 3) : Blk ((w.alloc (Obj.cells cs 65)).setCells w.heap.size 0 (fcs f)) w.heap.size 65 (fcs f) ∧ Reg.Ext w ((w.alloc (Obj.cells cs 65)).setCells w.heap.size 0 (fcs f)) := by
 refine ⟨(Blk.new w _ cs).setAll _ (by simp [hl, fcs]), ?_⟩
 exact (Reg.Ext.alloc w _).trans_but (But.setCells w.heap.size _ 0 _) (Nat.le_refl _)
theorem lcs_set (fs : List F) (j : Nat) (hj : j < fs.length) (f : F) : lcs (fs.set j f) = (((lcs fs).set (j * 3) (.string ⟨f.name.toArray⟩)).set (j * 3 + 1) (.string ⟨f.l.toArray⟩)).set (j * 3 + 2) (.int .i64 (f.safe : Int)) := by
 induction fs generalizing j with
 | nil => cases hj
 | cons y fs ih =>
   cases j with
   | zero => rfl
   | succ j =>
     have := ih j (by simpa using hj)
     rw [List.set_cons_succ, lcs_cons, this, lcs_cons, show (j + 1) * 3 = j * 3 + 3 by omega]
     rfl
theorem LV.set_ {w : World} {g cap : Nat} {fs : List F} (h : LV w (.slice (some ⟨g, 0, none⟩) fs.length cap) fs) (j : Nat) (hj : j < fs.length) (f : F) :
  LV (w.setCells g (j * 3) (fcs f)) (.slice (some ⟨g, 0, none⟩) fs.length cap) (fs.set j f) ∧ w.grownBy (w.setCells g (j * 3) (fcs f)) (some g) ∧ w.there g (j * 3) 3 := by
 have h1 := World.ownsRow.stored h (j * 3) (.string ⟨f.name.toArray⟩)
 have h2 := World.ownsRow.stored h1.1 (j * 3 + 1) (.string ⟨f.l.toArray⟩)
 have h3 := World.ownsRow.stored h2.1 (j * 3 + 2) (.int .i64 (f.safe : Int))
 refine ⟨?_, But.setCells g _ _ _, fun i hi => ⟨?_, World.ownsRow.frozenAt h _⟩⟩
 ·unfold LV
  rw [lcs_set fs j hj, List.length_set]
  exact h3.1
 ·have := h.at_ j hj i hi
  rw [this]
  match i, hi with
  | 0, _ => rfl
  | 1, _ => rfl
  | 2, _ => rfl
section
variable {ops : Array Oper} {rest : List Oper} {o : Oper} {a : Act} {Q : Exit → Act → World → Prop}
/-- append(v, files...) -/
theorem pushAll (hgd : o.guard = none) (s x : Operand) (ho : o.op = .call { callee := .builtin .append, args := #[s, x], argTypes := #[61, 61] })
  (v : Value) (fs gs : List F) (hs : a.eval s = v) (W : World) (ad : Addr) (c : Nat) (hb : LV W v fs) (hx : a.eval x = .slice (some ad) gs.length c) (hnew : ∀ j u, (lcs gs)[j]? = some u → W.cell? (ad.add j) = some u) (hl : fs.length + gs.length ≤ 1000)
  (h : ∀ v' w', LV w' v' (fs ++ gs) → W.grownBy w' v.ownBlock → (v'.ownBlock = v.ownBlock ∨ v'.ownBlock = some W.heap.size) → wpList Tryz.prog ops Q rest (a.put o.dst v') w') : wpList Tryz.prog ops Q (o :: rest) a W := by
 obtain ⟨i, hi, hz, hsz, hby⟩ := fileInfo_of
 refine Go.wpList_append_own_at W hgd s x 61 ho 0 65 i (.agg #[.string ⟨#[]⟩, .string ⟨#[]⟩, .int .i64 0]) 3 40 Tryz.underlying61 hi hz hsz hby rfl (by decide) v fs.length (lcs fs) hs hb ad gs.length c (lcs gs) hx (lcs_len gs) hnew ?_ (by unfold maxLen; omega) (by omega) (Nat.zero_le _) ?_
 ·intro u hu
  unfold lcs at hu
  rw [List.mem_flatMap] at hu
  obtain ⟨f, _, hu⟩ := hu
  unfold fcs at hu
  rcases List.mem_cons.1 hu with rfl | hu
  ·rfl
  ·rcases List.mem_cons.1 hu with rfl | hu
   ·rfl
   ·rw [List.mem_singleton.1 hu]; rfl
 ·intro v' w' ho' hg _ hat
  refine h v' w' ?_ hg hat
  unfold LV
  rw [List.length_append, lcs_append]
  exact ho'
theorem push (hgd : o.guard = none) (s x : Operand) (ho : o.op = .call { callee := .builtin .append, args := #[s, x], argTypes := #[61, 61] })
  (v : Value) (fs : List F) (f : F) (hs : a.eval s = v) (W : World) (g : Nat) (hb : LV W v fs) (hx : a.eval x = .slice (some ⟨g, 0, none⟩) 1 1) (hnew : Blk W g 65 (fcs f)) (hl : fs.length + 1 ≤ 1000)
  (h : ∀ v' w', LV w' v' (fs ++ [f]) → W.grownBy w' v.ownBlock → (v'.ownBlock = v.ownBlock ∨ v'.ownBlock = some W.heap.size) → wpList Tryz.prog ops Q rest (a.put o.dst v') w') : wpList Tryz.prog ops Q (o :: rest) a W := by
 refine pushAll hgd s x ho v fs [f] hs W ⟨g, 0, none⟩ 1 hb hx (fun j u hj => ?_) hl h
 rw [add_plain, Nat.zero_add, hnew.cell j]
 rw [show lcs [f] = fcs f by simp [lcs]] at hj
 exact hj
theorem one_file (hgd : o.guard = none) (x : Operand) (ho : o.op = .buildSlice 61 1 #[(0, x)]) (f : F) (hx : a.eval x = fval f) (W : World)
  (h : wpList Tryz.prog ops Q rest (a.put o.dst (.slice (some ⟨W.heap.size, 0, none⟩) 1 1)) (W.alloc (.cells (fcs f).toArray 65))) : wpList Tryz.prog ops Q (o :: rest) a W := by
 obtain ⟨i, hi, hz, hsz, hby⟩ := fileInfo_of
 exact One.wpList_valw hgd _ (One.exec_one_row W _ o x 61 65 (fcs f).toArray ho hx i _ Tryz.underlying61 hi hz hsz (by simp [fcs]) (by simp [fcs])) h
end
theorem LV.nil_ (w : World) : LV (w.alloc (.cells #[] 65)) (.slice (some ⟨w.heap.size, 0, none⟩) 0 0) [] := World.ownsRow_made w #[] 0 (Nat.zero_le _) (Nat.zero_le _) rfl
theorem RD.grown {w w' : World} {b : Nat} {v : Value} {r : R} {g : Nat} (h : RD w b v r) (hg : w.grownBy w' (some g)) (hb : g ≠ b) (hv : v.ownBlock ≠ some g) : RD w' b v r :=
 ⟨(hg.block b h.blk.lt fun e => hb (by injection e with e; exact e.symm)).trans h.blk, h.row.kept hg (.inr hv), h.away⟩
theorem LV.lt {w : World} {v : Value} {fs : List F} (h : LV w v fs) {g : Nat} (hg : v.ownBlock = some g) : g < w.heap.size := (World.ownsRow.lt h g hg).2
/-- append to a new row, and the head has it -/
theorem RD.fresh {w w5 w' : World} {b g : Nat} {v v' : Value} {r : R} {fs : List F} (h : RD w b v r) (hx : Reg.Ext w w5) (hge : w.heap.size ≤ g) (hg : w5.grownBy w' (some g)) (hl : LV w' v' fs) (hat : v'.ownBlock = some g ∨ v'.ownBlock = some w5.heap.size) :
  RD w' b v r ∧ v'.ownBlock ≠ some b ∧ RD (w'.setCell ⟨b, 0, none⟩ v') b v' { r with l := fs } ∧ But b w (w'.setCell ⟨b, 0, none⟩ v') ∧ ∀ x, v'.ownBlock = some x → w.heap.size ≤ x := by
 have hb := h.blk.lt
 have h5 := h.ext hx
 have hgb : g ≠ b := by omega
 have hvg : v.ownBlock ≠ some g := fun e => by have := h.row.lt e; omega
 have hs := hx.size
 have hnb : v'.ownBlock ≠ some b := by
  rcases hat with e | e <;> rw [e] <;> intro e2 <;> injection e2 with e2 <;> omega
 have h6 := h5.grown hg hgb hvg
 refine ⟨h6, hnb, h6.turn fs hl hnb, ?_, fun x hx2 => ?_⟩
 ·have e1 : But b w w' := ⟨hg.os.trans hx.os, hg.tape.trans hx.tape, hg.output.trans hx.output, Nat.le_trans hs hg.size, fun i hi _ => (hg.block i (by omega) fun e => by injection e with e; omega).trans (hx.block i hi)⟩
  exact e1.trans (But.set_ b w' 0 v')
 ·rcases hat with e | e <;> rw [e] at hx2 <;> injection hx2 with hx2 <;> omega
set_option maxRecDepth 100000 in
set_option maxHeartbeats 1000000 in
theorem turn_any (w : World) (b : Nat) (v : Value) (r : R) (h : RD w b v r) (i : Nat) (f : F) (hi : i < r.l.length) (hl : r.l.length ≤ 200) :
  Calls Tryz.prog 46 #[.pointer (some ⟨b, 0, none⟩), .int .i64 (i : Int), fval f] w fun e w' => e = .returned (.tuple #[]) ∧ ∃ v', RD w' b v' { r with l := r.l.set i f } ∧ But b w w' ∧ Newer w v v' := by
 have HR := y_ h
 rcases h.row.form with ⟨_, h2⟩ | ⟨g, cap, h2, hgl, _, _⟩
 ·rw [h2] at hi; exact absurd hi (Nat.not_lt_zero _)
 subst h2
 clear h
 unfold fval fcs
 go_enter Tryz.func46, Tryz.ntmps46
 go_upto_region 1 with (fail)
 have hb5 : Blk (w.alloc (.cells #[.string ⟨f.name.toArray⟩, .string ⟨f.l.toArray⟩, .int .i64 (f.safe : Int)] 65)) w.heap.size 65 (fcs f) := Blk.new w _ _
 have hx5 := Reg.Ext.alloc w (.cells #[.string ⟨f.name.toArray⟩, .string ⟨f.l.toArray⟩, .int .i64 (f.safe : Int)] 65)
 generalize w.alloc (.cells #[.string ⟨f.name.toArray⟩, .string ⟨f.l.toArray⟩, .int .i64 (f.safe : Int)] 65) = w5 at *
 have hg5 : w.heap.size < w5.heap.size := hb5.lt
 have hx6 := Reg.Ext.alloc w5 (.cells #[] 65)
 have hn6 := LV.nil_ w5
 have hb6 := hb5.ext hx6
 have hs6 : w5.heap.size < (w5.alloc (.cells #[] 65)).heap.size := by simp
 obtain ⟨c0, _⟩ := (HR.out.ext (hx5.trans hx6)).c
 have HX := y_ (hx5.trans hx6)
 have HN := y_ hn6
 have HB := y_ hb6
 clear hb5 hn6 hb6 hx5
 go_wp2_with (refine pushAll rfl (.tmp 7) (.tmp 11) rfl _ [] r.l rfl _ ⟨g, 0, none⟩ cap HN.out rfl (fun j u hj => World.ownsRow.cells (HR.out.ext HX.out).row rfl j u hj) (by show 0 + r.l.length ≤ 1000; omega) ?_; intro v2 w2 hl2 hg2 hat2; obtain ⟨k1, k2, k3, k4, k5⟩ := HR.out.fresh HX.out (g := w5.heap.size) (by omega) hg2 hl2 hat2; obtain ⟨A2, cap2, hv2⟩ := hl2.len; subst hv2; have c0 := k1.c.1; have f0 := k1.blk.frozen 0; have hg3 : (w5.alloc (.cells #[] 65)).grownBy w2 (some w5.heap.size) := hg2)
 have hbl := HR.out.blk.lt
 have hB1 : Blk w2 w.heap.size 65 (fcs f) := (hg3.block w.heap.size (by omega) (fun e => by injection e with e; omega)).trans HB.out
 have hB2 : Blk (w2.setCell ⟨b, 0, none⟩ (.slice A2 r.l.length cap2)) w.heap.size 65 (fcs f) :=
  (Below.heap_setCell w2 ⟨b, 0, none⟩ _ _ (by show w.heap.size ≠ b; omega)).trans hB1
 have q3 : RD (w2.setCell ⟨b, 0, none⟩ (.slice A2 r.l.length cap2)) b (.slice A2 r.l.length cap2) { r with l := r.l } := k3
 have q4 : But b w (w2.setCell ⟨b, 0, none⟩ (.slice A2 r.l.length cap2)) := k4
 have q5 : ∀ x, Value.ownBlock (.slice A2 r.l.length cap2) = some x → w.heap.size ≤ x := k5
 clear c0 f0 k1 k2 k3 k4 k5 hl2 hg2 hat2 hB1 hg3
 generalize w2.setCell ⟨b, 0, none⟩ (.slice A2 r.l.length cap2) = w3 at *
 rcases q3.row.form with ⟨_, h2⟩ | ⟨g2, cap3, h2, _, _, _⟩
 ·have h2 : r.l = [] := h2
  rw [h2] at hi; exact absurd hi (Nat.not_lt_zero _)
 injection h2 with h2 _ h3
 subst h2 h3
 have c0 := q3.c.1
 obtain ⟨s1, s2, s3⟩ := LV.set_ (w := w3.drew) (World.ownsRow.drew q3.row) i hi f
 have K3 := y_ q3
 have K4 := y_ q4
 have K5 := y_ q5
 have S1 := y_ s1
 have S2 := y_ s2
 have S3 := y_ s3
 clear q3 q4 q5 s1 s2 s3
 have hR9 := blk_range hB2
 go_still_tail 7, (by kernel_rfl)
 refine still_file rfl _ rfl w.heap.size 0 rfl f hR9 ?_
 simp only [z_1, z_2, z_3, z_4, z_5, z_b, z_6, z_7, z_8, z_9, z_0]
 repeat still_step
 refine wpStill_nil ?_
 change wpList _ _ _ _ _ w3.drew
 refine wpList_stfile rfl _ _ rfl g2 (i * 3) f rfl rfl S3.out ?_
 simp only [z_1, z_2, z_3, z_4, z_5, z_b, z_6, z_7, z_8, z_9, z_0]
 go_wp2_with fail
 go_end0
 have hge2 := K5.out g2 rfl
 have hS2 : w3.drew.grownBy (w3.drew.setCells g2 (i * 3) (fcs f)) (some g2) := S2.out
 have hbl := HR.out.blk.lt
 have hk4 := K4.out
 refine ⟨rfl, _, ⟨(hS2.block b K3.out.blk.lt fun e => by injection e with e; omega).trans K3.out.blk, S1.out, K3.out.away⟩, ⟨hS2.os.trans hk4.os, hS2.tape.trans hk4.tape, hS2.output.trans hk4.output, Nat.le_trans hk4.size hS2.size, fun j hj hjb => ?_⟩, .inr K5.out⟩
 exact (hS2.block j (Nat.lt_of_lt_of_le hj hk4.size) fun e => by injection e with e; omega).trans (hk4.block j hj hjb)
end Rk
end Go.Proofs.YtafeealbdpmdkaaGreatDoor
/- The document's disk: drop, put. -/
namespace Go.Proofs.YtafeealbdpmdkaaGreatDoor
section
open Go Go.RowKit
namespace Rk
open Plk (F P H isName sum)
/-- v owns just these files, in a block made since W0; all that there was in W0 is as it was -/
def FOw (W0 w : World) (v : Value) (fs : List F) : Prop := w.ownsRow W0.heap.size 65 3 v fs.length (lcs fs) ∧ Reg.Ext W0 w
theorem FOw.lv {W0 w : World} {v : Value} {fs : List F} (h : FOw W0 w v fs) : LV w v fs :=
 ⟨h.1.1, h.1.2.imp id fun ⟨g, cap, cur, e, _, rest⟩ => ⟨g, cap, cur, e, Nat.zero_le _, rest⟩⟩
theorem FOw.new {W0 w : World} (hx : Reg.Ext W0 w) : FOw W0 (w.alloc (.cells #[] 65)) (.slice (some ⟨w.heap.size, 0, none⟩) 0 0) [] :=
 ⟨World.ownsRow_made w #[] 0 hx.size (Nat.zero_le _) rfl, hx.trans (Reg.Ext.alloc _ _)⟩
theorem FOw.later {W0 w w' : World} {v : Value} {fs : List F} (h : FOw W0 w v fs) (hx : Reg.Ext w w') : FOw W0 w' v fs := ⟨own_ext h.1 hx, h.2.trans hx⟩
theorem FOw.ge {W0 w : World} {v : Value} {fs : List F} (h : FOw W0 w v fs) {g : Nat} (hg : v.ownBlock = some g) : W0.heap.size ≤ g := (World.ownsRow.lt h.1 g hg).1
theorem RD.shut {w w' : World} {b : Nat} {v v' : Value} {r : R} {fs : List F} (h : RD w b v r) (ho : FOw w w' v' fs) : RD w' b v r ∧ RD (w'.setCell ⟨b, 0, none⟩ v') b v' { r with l := fs } ∧ But b w (w'.setCell ⟨b, 0, none⟩ v') ∧ Newer w v v' := by
 have hnb : v'.ownBlock ≠ some b := fun e => by
  have := ho.ge e
  have := h.blk.lt
  omega
 have h1 := h.ext ho.2
 exact ⟨h1, h1.turn fs ho.lv hnb, (But.of_ext ho.2).trans (But.set_ b w' 0 v'), .inr fun g hg => ho.ge hg⟩
section
variable {ops : Array Oper} {rest : List Oper} {o : Oper} {a : Act} {Q : Exit → Act → World → Prop}
theorem FOw.pushAll (hgd : o.guard = none) (s x : Operand) (ho : o.op = .call { callee := .builtin .append, args := #[s, x], argTypes := #[61, 61] })
  (W0 : World) (v : Value) (fs gs : List F) (hs : a.eval s = v) (W : World) (ad : Addr) (c : Nat) (hb : FOw W0 W v fs) (hx : a.eval x = .slice (some ad) gs.length c) (hnew : ∀ j u, (lcs gs)[j]? = some u → W.cell? (ad.add j) = some u) (hl : fs.length + gs.length ≤ 1000)
  (h : ∀ v' w', FOw W0 w' v' (fs ++ gs) → wpList Tryz.prog ops Q rest (a.put o.dst v') w') : wpList Tryz.prog ops Q (o :: rest) a W := by
 obtain ⟨i, hi, hz, hsz, hby⟩ := fileInfo_of
 refine Go.wpList_append_own_at W hgd s x 61 ho W0.heap.size 65 i (.agg #[.string ⟨#[]⟩, .string ⟨#[]⟩, .int .i64 0]) 3 40 Tryz.underlying61 hi hz hsz hby rfl (by decide) v fs.length (lcs fs) hs hb.1 ad gs.length c (lcs gs) hx (lcs_len gs) hnew ?_ (by unfold maxLen; omega) (by omega) hb.2.size ?_
 ·intro u hu
  unfold lcs at hu
  rw [List.mem_flatMap] at hu
  obtain ⟨f, _, hu⟩ := hu
  unfold fcs at hu
  rcases List.mem_cons.1 hu with rfl | hu
  ·rfl
  ·rcases List.mem_cons.1 hu with rfl | hu
   ·rfl
   ·rw [List.mem_singleton.1 hu]; rfl
 ·intro v' w' ho' hg _ hat
  refine h v' w' ⟨?_, Below.grown hb.2 hg hb.2.size fun k hk => (hb.1.lt k hk).1⟩
  rw [List.length_append, lcs_append]
  exact ho'
theorem FOw.push (hgd : o.guard = none) (s x : Operand) (ho : o.op = .call { callee := .builtin .append, args := #[s, x], argTypes := #[61, 61] })
  (W0 : World) (v : Value) (fs : List F) (f : F) (hs : a.eval s = v) (W : World) (g : Nat) (hb : FOw W0 W v fs) (hx : a.eval x = .slice (some ⟨g, 0, none⟩) 1 1) (hnew : Blk W g 65 (fcs f)) (hl : fs.length + 1 ≤ 1000)
  (h : ∀ v' w', FOw W0 w' v' (fs ++ [f]) → wpList Tryz.prog ops Q rest (a.put o.dst v') w') : wpList Tryz.prog ops Q (o :: rest) a W := by
 refine FOw.pushAll hgd s x ho W0 v fs [f] hs W ⟨g, 0, none⟩ 1 hb hx (fun j u hj => ?_) hl h
 rw [add_plain, Nat.zero_add, hnew.cell j]
 rw [show lcs [f] = fcs f by simp [lcs]] at hj
 exact hj
end
theorem LV.head {w : World} {g cap : Nat} {fs : List F} (h : LV w (.slice (some ⟨g, 0, none⟩) fs.length cap) fs) (i : Nat) : ∀ j u, (lcs (fs.take i))[j]? = some u → w.cell? ((⟨g, 0, none⟩ : Addr).add j) = some u := by
 intro j u hj
 rw [← lcs_take, List.getElem?_take] at hj
 split at hj
 ·exact World.ownsRow.cells h rfl j u hj
 ·cases hj
theorem LV.tail {w : World} {g cap : Nat} {fs : List F} (h : LV w (.slice (some ⟨g, 0, none⟩) fs.length cap) fs) (i : Nat) : ∀ j u, (lcs (fs.drop i))[j]? = some u → w.cell? ((⟨g, i * 3, none⟩ : Addr).add j) = some u := by
 intro j u hj
 rw [← lcs_drop, List.getElem?_drop] at hj
 have := World.ownsRow.cells h rfl _ u hj
 rw [add_plain, Nat.zero_add] at this
 rw [add_plain]
 exact this
set_option maxRecDepth 100000 in
set_option maxHeartbeats 1000000 in
theorem drop_any (w : World) (b : Nat) (v : Value) (r : R) (h : RD w b v r) (i : Nat) (hi : i < r.l.length) (hl : r.l.length ≤ 200) :
  Calls Tryz.prog 65 #[.pointer (some ⟨b, 0, none⟩), .int .i64 (i : Int)] w fun e w' => e = .returned (.tuple #[]) ∧ ∃ v', RD w' b v' { r with l := r.l.take i ++ r.l.drop (i + 1) } ∧ But b w w' ∧ Newer w v v' := by
 have HR := y_ h
 rcases h.row.form with ⟨_, h2⟩ | ⟨g, cap, h2, hgl, hnc, hcm⟩
 ·rw [h2] at hi; exact absurd hi (Nat.not_lt_zero _)
 subst h2
 clear h
 unfold maxLen at hcm
 have HN := y_ (FOw.new (Reg.Ext.refl w))
 have hx6 := Reg.Ext.alloc w (.cells #[] 65)
 have HX := y_ hx6
 obtain ⟨c0, _⟩ := (HR.out.ext hx6).c
 have hlt : (r.l.take i).length = i := by rw [List.length_take]; omega
 have HLT := y_ hlt
 have hld : (r.l.drop (i + 1)).length = r.l.length - (i + 1) := List.length_drop
 have HLD := y_ hld
 clear hlt hld hx6
 by_cases hc : cap = i + 1
 ·subst hc
  have hz0 : r.l.drop (i + 1) = [] := List.drop_of_length_le hnc
  have HZ := y_ hz0
  clear hz0
  go_enter Tryz.func65, Tryz.ntmps65
  go_wp2_with (first
   | (refine FOw.pushAll rfl (.tmp 5) (.tmp 11) rfl w _ [] (r.l.take i) rfl _ ⟨g, 0, none⟩ (i + 1) HN.out (by rw [HLT.out]; rfl) ((HR.out.ext HX.out).row.head i) (by rw [HLT.out]; show 0 + i ≤ 1000; omega) ?_; intro v2 w2 hf2; have F2 := y_ hf2; have R2 := y_ (HR.out.ext hf2.2); have c0 := R2.out.c.1; clear hf2)
   | (refine FOw.pushAll rfl (.tmp 14) (.tmp 21) rfl w _ (r.l.take i) [] rfl _ ⟨g, 0, none⟩ 0 F2.out rfl (fun j u hj => by cases hj) (by rw [HLT.out]; show i + 0 ≤ 1000; omega) ?_; intro v3 w3 hf3; have F3 := y_ hf3; obtain ⟨s1, s2, s3, s4⟩ := HR.out.shut hf3; have c0 := s1.c.1; have f0 := s1.blk.frozen 0; have S2 := y_ s2; have S3 := y_ s3; have S4 := y_ s4; obtain ⟨A3, cap3, hv3⟩ := hf3.lv.len; generalize List.length _ = n3 at hv3; subst hv3; clear hf3 s1 s2 s3 s4))
  go_end0
  refine ⟨rfl, _, ?_, S3.out, S4.out⟩
  rw [HZ.out]
  exact S2.out
 ·go_enter Tryz.func65, Tryz.ntmps65
  go_wp2_with (first
   | (refine FOw.pushAll rfl (.tmp 5) (.tmp 11) rfl w _ [] (r.l.take i) rfl _ ⟨g, 0, none⟩ cap HN.out (by rw [HLT.out]; rfl) ((HR.out.ext HX.out).row.head i) (by rw [HLT.out]; show 0 + i ≤ 1000; omega) ?_; intro v2 w2 hf2; have F2 := y_ hf2; have R2 := y_ (HR.out.ext hf2.2); have c0 := R2.out.c.1; clear hf2)
   | (refine FOw.pushAll rfl (.tmp 14) (.tmp 21) rfl w _ (r.l.take i) (r.l.drop (i + 1)) rfl _ ⟨g, (i + 1) * 3, none⟩ (cap - (i + 1)) F2.out (by rw [HLD.out]; rfl) (R2.out.row.tail (i + 1)) (by rw [HLT.out, HLD.out]; omega) ?_; intro v3 w3 hf3; have F3 := y_ hf3; obtain ⟨s1, s2, s3, s4⟩ := HR.out.shut hf3; have c0 := s1.c.1; have f0 := s1.blk.frozen 0; have S2 := y_ s2; have S3 := y_ s3; have S4 := y_ s4; obtain ⟨A3, cap3, hv3⟩ := hf3.lv.len; generalize List.length _ = n3 at hv3; subst hv3; clear hf3 s1 s2 s3 s4))
  go_end0
  exact ⟨rfl, _, S2.out, S3.out, S4.out⟩
end Rk
end
section
open Go Go.RowKit
namespace Rk
open Plk (F P H isName sum)
theorem ins_below (f : F) : ∀ l : List F, (∀ y ∈ l, y.name < f.name) → Nmd.ins F.name f l = l ++ [f]
 | [], _ => rfl
 | y :: l, h => by
   unfold Nmd.ins
   rw [if_pos (h y List.mem_cons_self), ins_below f l fun z hz => h z (List.mem_cons_of_mem _ hz)]
   rfl
theorem ins_here (f x : F) (hx : ¬ x.name < f.name) : ∀ l : List F, (∀ y ∈ l, y.name < f.name) → Nmd.ins F.name f (l ++ [x]) = l ++ [f, x]
 | [], _ => by
   show Nmd.ins F.name f [x] = [f, x]
   unfold Nmd.ins
   rw [if_neg hx]
 | y :: l, h => by
   show Nmd.ins F.name f (y :: (l ++ [x])) = _
   unfold Nmd.ins
   rw [if_pos (h y List.mem_cons_self), ins_here f x hx l fun z hz => h z (List.mem_cons_of_mem _ hz)]
   rfl
theorem ins_above (f x : F) : ∀ l : List F, (∃ y ∈ l, ¬ y.name < f.name) → Nmd.ins F.name f (l ++ [x]) = Nmd.ins F.name f l ++ [x]
 | [], h => by obtain ⟨y, hy, _⟩ := h; cases hy
 | y :: l, h => by
   show Nmd.ins F.name f (y :: (l ++ [x])) = _
   unfold Nmd.ins
   by_cases hy : y.name < f.name
   ·rw [if_pos hy, if_pos hy, ins_above f x l]
    ·rfl
    ·obtain ⟨z, hz, hz2⟩ := h
     rcases List.mem_cons.1 hz with rfl | hz
     ·exact absurd hy hz2
     ·exact ⟨z, hz, hz2⟩
   ·rw [if_neg hy, if_neg hy]
    rfl
theorem FOw.early {W0 W1 w : World} {v : Value} {fs : List F} (h : FOw W1 w v fs) (hx : Reg.Ext W0 W1) : FOw W0 w v fs :=
 ⟨⟨h.1.1, h.1.2.imp id fun ⟨g, cap, cur, e, hb, rest⟩ => ⟨g, cap, cur, e, Nat.le_trans hx.size hb, rest⟩⟩, hx.trans h.2⟩
/-- what put has gathered -/
def PutI (f : F) (l : List F) (k : Nat) (dn : Bool) (out : List F) : Prop := match dn with
 | false => out = l.take k ∧ ∀ y ∈ l.take k, y.name < f.name
 | true => out = Nmd.ins F.name f (l.take k) ∧ ∃ y ∈ l.take k, ¬ y.name < f.name
theorem PutI.len {f : F} {l : List F} {k : Nat} {dn : Bool} {out : List F} (h : PutI f l k dn out) : out.length ≤ l.length + 1 := by
 cases dn with
 | false => rw [h.1, List.length_take]; omega
 | true => rw [h.1, Nmd.length_ins, List.length_take]; omega
set_option maxRecDepth 100000 in
set_option maxHeartbeats 1000000 in
theorem put_any (w : World) (b : Nat) (v : Value) (r : R) (h : RD w b v r) (f : F) (hn : ∀ y ∈ r.l, y.name ≠ f.name) (hl : r.l.length ≤ 200) :
  Calls Tryz.prog 66 #[.pointer (some ⟨b, 0, none⟩), fval f] w fun e w' => e = .returned (.tuple #[]) ∧ ∃ v', RD w' b v' { r with l := Nmd.ins F.name f r.l } ∧ But b w w' ∧ Newer w v v' := by
 have HR0 := y_ h
 obtain ⟨A, cap, hv⟩ := h.row.len
 subst hv
 clear h
 unfold fval fcs
 go_enter Tryz.func66, Tryz.ntmps66
 go_upto_region 1 with (fail)
 have hb5 : Blk (w.alloc (.cells #[.string ⟨f.name.toArray⟩, .string ⟨f.l.toArray⟩, .int .i64 (f.safe : Int)] 65)) w.heap.size 65 (fcs f) := Blk.new w _ _
 have hx5 := Reg.Ext.alloc w (.cells #[.string ⟨f.name.toArray⟩, .string ⟨f.l.toArray⟩, .int .i64 (f.safe : Int)] 65)
 generalize w.alloc (.cells #[.string ⟨f.name.toArray⟩, .string ⟨f.l.toArray⟩, .int .i64 (f.safe : Int)] 65) = w5 at *
 have HB := y_ hb5
 have HR := y_ (HR0.out.ext hx5)
 have HX5 := y_ hx5
 have HN := y_ (FOw.new (Reg.Ext.refl w5))
 clear hb5 hx5
 go_wp2_with fail
 go_loopw [4, 5, 6] (fun o d i wr => ∃ (k : Nat) (dn : Bool) (out : List F), i = .int .i64 (k : Int) ∧ k ≤ r.l.length ∧ d = .bool dn ∧ Hid (PutI f r.l k dn out) ∧ Hid (FOw w5 wr o out)) (fun _ _ i _ => r.l.length - (intOf i).toNat)
 case atStart => exact ⟨0, false, [], rfl, Nat.zero_le _, rfl, y_ ⟨rfl, fun y hy => by cases hy⟩, HN⟩
 case round =>
  obtain ⟨k, dn, out, rfl, hk, rfl, HP, HF⟩ := hrel
  by_cases hks : k < r.l.length
  ·have hRr := HR.out.ext HF.out.2
   rcases HR.out.row.form with ⟨_, h2⟩ | ⟨g, cap', h2, _, _, _⟩
   ·rw [h2] at hks; exact absurd hks (Nat.not_lt_zero _)
   injection h2 with h2 _ h3
   subst h2 h3
   have c0 := hRr.c.1
   have n0 := hRr.row.at_ k hks 0 (by omega)
   have m0 := (HB.out.ext HF.out.2).cell 0
   dsimp only [fcs, List.getElem?_cons_zero] at n0 m0
   rw [Nat.add_zero] at n0
   have hne := hn _ (List.getElem_mem hks)
   have HRr := y_ hRr
   have hlen := HP.out.len
   clear hRr
   have htk : r.l.take (k + 1) = r.l.take k ++ [r.l[k]] := List.take_succ_eq_append_getElem hks
   have HTK := y_ htk
   clear htk
   cases dn with
   | true =>
     have HP2 : Hid (PutI f r.l (k + 1) true (out ++ [r.l[k]])) := y_ (by
      obtain ⟨h1, h2⟩ := HP.out
      refine ⟨?_, ?_⟩
      ·rw [HTK.out, ins_above f _ _ h2, ← h1]
      ·rw [HTK.out]
       obtain ⟨y, hy, hy2⟩ := h2
       exact ⟨y, List.mem_append_left _ hy, hy2⟩)
     go_wp2_with fail
     go_quiet (fail)
     have HF6 := y_ (HF.out.later (Reg.Ext.drewN wr nq))
     generalize wr.drewN nq = w6 at HF6 ⊢
     have c0 := (HR.out.ext HF6.out.2).c.1
     go_upto_region 9 with (fail)
     refine wp_region_lit ?_
     iterate 21 go_step
     refine wpList_file rfl _ rfl g (k * 3) rfl r.l[k] ((HR.out.ext HF6.out.2).row.range k hks) ?_
     simp only [z_1, z_2, z_3, z_4, z_5, z_b, z_6, z_7, z_8, z_9, z_0]
     refine one_file rfl _ rfl r.l[k] rfl _ ?_
     simp only [z_1, z_2, z_3, z_4, z_5, z_b, z_6, z_7, z_8, z_9, z_0]
     refine FOw.push rfl _ _ rfl w5 _ out r.l[k] rfl _ _ (HF6.out.later (Reg.Ext.alloc _ _)) rfl (Blk.new _ _ _) (by have := hlen; simp at this ⊢; omega) ?_
     intro v3 w3 hf3
     simp only [z_1, z_2, z_3, z_4, z_5, z_b, z_6, z_7, z_8, z_9, z_0]
     have F3 := y_ hf3
     clear hf3
     go_wp2_with fail
     go_roundw
     case rel => exact ⟨k + 1, true, _, by go_num, by omega, rfl, HP2, F3⟩
     case measure => simp [intOf]; omega
   | false =>
     have hout : out = r.l.take k := HP.out.1
     by_cases hgt : r.l[k].name < f.name
     ·have HP2 : Hid (PutI f r.l (k + 1) false (out ++ [r.l[k]])) := y_ (by
       obtain ⟨h1, h2⟩ := HP.out
       refine ⟨by rw [HTK.out, h1], fun y hy => ?_⟩
       rw [HTK.out] at hy
       rcases List.mem_append.1 hy with hy | hy
       ·exact h2 y hy
       ·rw [List.mem_singleton.1 hy]; exact hgt)
      have q1 : Op.bytesLess r.l[k].name f.name = true := (bytesLess_eq _ _).trans (decide_eq_true hgt)
      go_wp2_with fail
      go_quiet (fail)
      have HF6 := y_ (HF.out.later (Reg.Ext.drewN wr nq))
      generalize wr.drewN nq = w6 at HF6 ⊢
      have c0 := (HR.out.ext HF6.out.2).c.1
      go_upto_region 9 with (fail)
      refine wp_region_lit ?_
      iterate 21 go_step
      refine wpList_file rfl _ rfl g (k * 3) rfl r.l[k] ((HR.out.ext HF6.out.2).row.range k hks) ?_
      simp only [z_1, z_2, z_3, z_4, z_5, z_b, z_6, z_7, z_8, z_9, z_0]
      refine one_file rfl _ rfl r.l[k] rfl _ ?_
      simp only [z_1, z_2, z_3, z_4, z_5, z_b, z_6, z_7, z_8, z_9, z_0]
      refine FOw.push rfl _ _ rfl w5 _ out r.l[k] rfl _ _ (HF6.out.later (Reg.Ext.alloc _ _)) rfl (Blk.new _ _ _) (by have := hlen; simp at this ⊢; omega) ?_
      intro v3 w3 hf3
      simp only [z_1, z_2, z_3, z_4, z_5, z_b, z_6, z_7, z_8, z_9, z_0]
      have F3 := y_ hf3
      clear hf3
      go_wp2_with fail
      go_roundw
      case rel => exact ⟨k + 1, false, _, by go_num, by omega, rfl, HP2, F3⟩
      case measure => simp [intOf]; omega
     ·have HP2 : Hid (PutI f r.l (k + 1) true (out ++ [f] ++ [r.l[k]])) := y_ (by
       obtain ⟨h1, h2⟩ := HP.out
       refine ⟨?_, r.l[k], by rw [HTK.out]; exact List.mem_append_right _ (List.mem_singleton.2 rfl), hgt⟩
       rw [HTK.out, ins_here f _ hgt _ h2, h1, List.append_assoc]
       rfl)
      have hlk : out.length = k := by rw [hout, List.length_take]; omega
      have q1 : Op.bytesLess r.l[k].name f.name = false := (bytesLess_eq _ _).trans (decide_eq_false hgt)
      have q2 : (r.l[k].name == f.name) = false := beq_eq_false_iff_ne.2 hne
      go_wp2_with fail
      go_quiet (fail)
      have HF6 := y_ (HF.out.later (Reg.Ext.drewN wr nq))
      generalize wr.drewN nq = w6 at HF6 ⊢
      go_upto_region 7 with (fail)
      refine wp_region_lit ?_
      iterate 3 go_step
      refine wpList_file rfl _ rfl w.heap.size 0 rfl f (blk_range (HB.out.ext HF6.out.2)) ?_
      simp only [z_1, z_2, z_3, z_4, z_5, z_b, z_6, z_7, z_8, z_9, z_0]
      refine one_file rfl _ rfl f rfl _ ?_
      simp only [z_1, z_2, z_3, z_4, z_5, z_b, z_6, z_7, z_8, z_9, z_0]
      refine FOw.push rfl _ _ rfl w5 _ out f rfl _ _ (HF6.out.later (Reg.Ext.alloc _ _)) rfl (Blk.new _ _ _) (by omega) ?_
      intro v4 w4 hf4
      simp only [z_1, z_2, z_3, z_4, z_5, z_b, z_6, z_7, z_8, z_9, z_0]
      have F4 := y_ hf4
      clear hf4
      have c0 := (HR.out.ext F4.out.2).c.1
      have hl4 : (out ++ [f]).length ≤ 300 := by rw [List.length_append, hlk]; show k + 1 ≤ 300; omega
      go_upto_region 9 with (fail)
      refine wp_region_lit ?_
      iterate 21 go_step
      refine wpList_file rfl _ rfl g (k * 3) rfl r.l[k] ((HR.out.ext F4.out.2).row.range k hks) ?_
      simp only [z_1, z_2, z_3, z_4, z_5, z_b, z_6, z_7, z_8, z_9, z_0]
      refine one_file rfl _ rfl r.l[k] rfl _ ?_
      simp only [z_1, z_2, z_3, z_4, z_5, z_b, z_6, z_7, z_8, z_9, z_0]
      refine FOw.push rfl _ _ rfl w5 _ (out ++ [f]) r.l[k] rfl _ _ (F4.out.later (Reg.Ext.alloc _ _)) rfl (Blk.new _ _ _) (by have := hl4; simp at this ⊢; omega) ?_
      intro v3 w3 hf3
      simp only [z_1, z_2, z_3, z_4, z_5, z_b, z_6, z_7, z_8, z_9, z_0]
      have F3 := y_ hf3
      clear hf3
      go_wp2_with fail
      go_roundw
      case rel => exact ⟨k + 1, true, _, by go_num, by omega, rfl, HP2, F3⟩
      case measure => simp [intOf]; omega
  ·have hke : k = r.l.length := by omega
   subst hke
   have c0 := (HR.out.ext HF.out.2).c.1
   have hlen := HP.out.len
   cases dn with
   | true =>
     have HL2 : Hid (out = Nmd.ins F.name f r.l) := y_ (by have h1 := HP.out.1; rw [List.take_length] at h1; exact h1)
     obtain ⟨s1, s2, s3, s4⟩ := HR0.out.shut (HF.out.early HX5.out)
     obtain ⟨A3, cap3, hv3⟩ := HF.out.lv.len
     generalize List.length _ = n3 at hv3
     subst hv3
     have f0 := s1.blk.frozen 0
     have S2 := y_ s2
     have S3 := y_ s3
     have S4 := y_ s4
     clear s1 s2 s3 s4
     go_wp2_with fail
     go_end0
     exact ⟨rfl, _, by rw [← HL2.out]; exact S2.out, S3.out, S4.out⟩
   | false =>
     have HL2 : Hid (out ++ [f] = Nmd.ins F.name f r.l) := y_ (by
      obtain ⟨h1, h2⟩ := HP.out
      rw [List.take_length] at h1 h2
      rw [ins_below f _ h2, h1])
     go_upto_region 11 with (fail)
     refine wp_region_lit ?_
     iterate 3 go_step
     refine wpList_file rfl _ rfl w.heap.size 0 rfl f (blk_range (HB.out.ext HF.out.2)) ?_
     simp only [z_1, z_2, z_3, z_4, z_5, z_b, z_6, z_7, z_8, z_9, z_0]
     refine one_file rfl _ rfl f rfl _ ?_
     simp only [z_1, z_2, z_3, z_4, z_5, z_b, z_6, z_7, z_8, z_9, z_0]
     refine FOw.push rfl _ _ rfl w5 _ out f rfl _ _ (HF.out.later (Reg.Ext.alloc _ _)) rfl (Blk.new _ _ _) (by omega) ?_
     intro v4 w4 hf4
     simp only [z_1, z_2, z_3, z_4, z_5, z_b, z_6, z_7, z_8, z_9, z_0]
     have F4 := y_ hf4
     clear hf4
     obtain ⟨s1, s2, s3, s4⟩ := HR0.out.shut (F4.out.early HX5.out)
     obtain ⟨A3, cap3, hv3⟩ := F4.out.lv.len
     generalize List.length _ = n3 at hv3
     subst hv3
     have c0 := s1.c.1
     have f0 := s1.blk.frozen 0
     have S2 := y_ s2
     have S3 := y_ s3
     have S4 := y_ s4
     clear s1 s2 s3 s4
     go_wp2_with fail
     go_end0
     exact ⟨rfl, _, by rw [← HL2.out]; exact S2.out, S3.out, S4.out⟩
end Rk
end
end Go.Proofs.YtafeealbdpmdkaaGreatDoor
/- The document's disk beside the plain one: begin, Create, Delete. -/
namespace Go.Proofs.YtafeealbdpmdkaaGreatDoor
open Go Go.RowKit
namespace Rk
open Plk (F P H isName sum)
structure Sim (p : P) (r : R) : Prop where
 l : r.l = p.fs
 room : r.room = p.h.room
 ops : r.ops = p.h.ops
 off : r.off = p.h.off
 kind : r.kind = p.h.ak
 arm : p.h.ak ≠ 0 → r.at_ = p.h.af ∧ p.h.al = p.h.af + min (max r.more 0) 1099511627776
 pow : p.h.ak = 2 → p.h.ops < p.h.af
 at0 : 0 ≤ r.at_ ∧ r.at_ < 4611686018427387904
theorem Sim.begin {p : P} {r : R} (h : Sim p r) (h0 : 0 ≤ p.h.ops) (h1 : p.h.ops ≤ 1000) (n t : List UInt8) : (r.begin n t).1 = (p.h.begin [n, t]).1 ∧ Sim ⟨p.fs, (p.h.begin [n, t]).2⟩ (r.begin n t).2 := by
 obtain ⟨rl, room, ops, at_, kind, more, off⟩ := r
 obtain ⟨fs, ⟨room', used, ops', off', ak, af, al⟩⟩ := p
 obtain ⟨k1, k2, k3, k4, k5, k6, k7, k8⟩ := h
 dsimp only at k1 k2 k3 k4 k5 k6 k7 k8 h0 h1
 subst k1 k2 k3 k4 k5
 unfold R.begin H.begin
 dsimp only
 by_cases hb : isName n = false ∨ isName t = false
 ·have hb2 : ([n, t].any fun n => !isName n) = true := by
   rcases hb with h | h <;> simp [h]
  rw [if_pos hb, if_pos hb2]
  exact ⟨rfl, rfl, rfl, rfl, rfl, rfl, k6, k7, k8⟩
 ·have hb2 : ¬ ([n, t].any fun n => !isName n) = true := by
   intro h
   apply hb
   simpa using h
  rw [if_neg hb, if_neg hb2]
  cases off with
  | true =>
    rw [if_pos rfl, if_pos rfl]
    exact ⟨rfl, rfl, rfl, rfl, rfl, rfl, k6, k7, k8⟩
  | false =>
    rw [if_neg Bool.false_ne_true, if_neg Bool.false_ne_true]
    by_cases c1 : kind = 0
    ·rw [if_pos (.inl c1), if_pos (.inl c1)]
     exact ⟨rfl, rfl, rfl, rfl, rfl, rfl, fun e => absurd c1 e, fun e => by have e : kind = 2 := e; omega, k8⟩
    ·obtain ⟨a1, a2⟩ := k6 c1
     subst a1
     by_cases c2 : ops + 1 < at_
     ·rw [if_pos (.inr c2), if_pos (.inr (.inl c2))]
      exact ⟨rfl, rfl, rfl, rfl, rfl, rfl, k6, fun _ => c2, k8⟩
     ·rw [if_neg (by omega)]
      by_cases c3 : kind = 2
      ·have := k7 c3
       rw [if_pos c3, if_neg (by omega), if_pos c3]
       exact ⟨rfl, rfl, rfl, rfl, rfl, rfl, fun e => absurd rfl e, fun e => by have e : (0 : Int) = 2 := e; omega, k8⟩
      ·rw [if_neg c3]
       by_cases c4 : ops + 1 - at_ ≤ max more 0
       ·rw [if_pos c4, if_neg (by omega), if_neg c3]
        exact ⟨rfl, rfl, rfl, rfl, rfl, rfl, k6, fun e => absurd e c3, k8⟩
       ·rw [if_neg c4, if_pos (by omega)]
        exact ⟨rfl, rfl, rfl, rfl, rfl, rfl, k6, fun e => absurd e c3, k8⟩
theorem begin_two (s : H) (n : List UInt8) : s.begin [n, n] = s.begin [n] := by
 unfold H.begin
 have : ([n, n].any fun n => !isName n) = ([n].any fun n => !isName n) := by simp
 rw [this]
/-- what a reference's operation leaves -/
def RP (b : Nat) (w : World) (v val : Value) (p' : P) (e : Ending) (w' : World) : Prop := e = .returned val ∧ ∃ v' r', RD w' b v' r' ∧ Sim p' r' ∧ But b w w' ∧ Newer w v v'
structure Both (w : World) (b : Nat) (v : Value) (r : R) (p : P) : Prop where
 rd : RD w b v r
 sim : Sim p r
 good : Plk.Good p
 ops : p.h.ops ≤ 1000
theorem begin1 {w : World} {b : Nat} {v : Value} {r : R} {p : P} (h : Both w b v r p) (n : List UInt8) :
  Calls Tryz.prog 48 #[.pointer (some ⟨b, 0, none⟩), .agg #[.string ⟨n.toArray⟩, .string ⟨n.toArray⟩]] w fun e w' => e = .returned (.int .i64 (p.h.begin [n]).1) ∧ ∃ r', RD w' b v r' ∧ Sim ⟨p.fs, (p.h.begin [n]).2⟩ r' ∧ But b w w' := by
 have ho := h.ops
 have h0 := h.good.ops
 obtain ⟨e1, e2⟩ := h.sim.begin h0 ho n n
 rw [begin_two] at e1 e2
 refine (begin_any w b v r h.rd n n (by rw [h.sim.ops]; exact h0) (by rw [h.sim.ops]; omega) h.sim.at0.1 h.sim.at0.2).mono ?_
 rintro e w' ⟨rfl, h2, h3⟩
 exact ⟨by rw [e1], _, h2, e2, h3⟩
theorem begin2 {w : World} {b : Nat} {v : Value} {r : R} {p : P} (h : Both w b v r p) (n t : List UInt8) :
  Calls Tryz.prog 48 #[.pointer (some ⟨b, 0, none⟩), .agg #[.string ⟨n.toArray⟩, .string ⟨t.toArray⟩]] w fun e w' => e = .returned (.int .i64 (p.h.begin [n, t]).1) ∧ ∃ r', RD w' b v r' ∧ Sim ⟨p.fs, (p.h.begin [n, t]).2⟩ r' ∧ But b w w' := by
 have ho := h.ops
 have h0 := h.good.ops
 obtain ⟨e1, e2⟩ := h.sim.begin h0 ho n t
 refine (begin_any w b v r h.rd n t (by rw [h.sim.ops]; exact h0) (by rw [h.sim.ops]; omega) h.sim.at0.1 h.sim.at0.2).mono ?_
 rintro e w' ⟨rfl, h2, h3⟩
 exact ⟨by rw [e1], _, h2, e2, h3⟩
/-- the place of a name, and what the plain disk does there -/
theorem place_get {fs : List F} (hu : Nmd.Up F.name fs) (n : List UInt8) : (Nmd.get F.name n fs = none ∧ plV fs n = -1) ∨ ∃ k f, ∃ hk : k < fs.length, fs[k] = f ∧ Nmd.get F.name n fs = some f ∧ plV fs n = (k : Int) ∧ fs.take k ++ fs.drop (k + 1) = Nmd.del F.name n fs ∧ ∀ x : F, x.name = f.name → fs.set k x = Nmd.upd F.name x fs := by
 cases hp : place fs n with
 | none =>
   refine .inl ⟨?_, by unfold plV; rw [hp]⟩
   unfold place at hp
   rw [List.findIdx?_eq_none_iff] at hp
   exact Nmd.get_none_of fun y hy e => by have := hp y hy; simp [e] at this
 | some k =>
   unfold place at hp
   obtain ⟨hk, h1, h2⟩ := List.findIdx?_eq_some_iff_getElem.1 hp
   have h1 : fs[k].name = n := by simpa using h1
   have hpv : plV fs n = (k : Int) := by unfold plV place; rw [hp]
   have hg : Nmd.get F.name n fs = some fs[k] := by
    cases hg : Nmd.get F.name n fs with
    | none => exact absurd h1 (Nmd.get_none hg _ (List.getElem_mem hk))
    | some y => rw [hu.same y (Nmd.get_mem hg).1 _ (List.getElem_mem hk) ((Nmd.get_mem hg).2.trans h1.symm)]
   refine .inr ⟨k, fs[k], hk, rfl, hg, hpv, ?_, fun x hx => ?_⟩
   ·have hd : ∀ j (hj : j < fs.length), j ≠ k → fs[j].name ≠ n := fun j hj hjk e => by
     have hp2 := List.pairwise_iff_getElem.1 hu.ne
     rcases Nat.lt_or_gt_of_ne hjk with h | h
     ·exact hp2 j k hj hk h (e.trans h1.symm)
     ·exact hp2 k j hk hj h (h1.trans e.symm)
    have key : ∀ l : List F, (∀ y ∈ l, y.name ≠ n) → l.filter (fun y => !(y.name == n)) = l := fun l hl => List.filter_eq_self.2 fun y hy => by
     rw [beq_eq_false_iff_ne.2 (hl y hy)]; rfl
    unfold Nmd.del
    conv => rhs; rw [← List.take_append_drop k fs, List.drop_eq_getElem_cons hk]
    rw [List.filter_append, List.filter_cons, if_neg (by simp [h1]), key, key]
    ·intro y hy
     obtain ⟨j, hj, rfl⟩ := List.mem_iff_getElem.1 hy
     rw [List.getElem_drop]
     exact hd _ _ (by omega)
    ·intro y hy
     obtain ⟨j, hj, rfl⟩ := List.mem_iff_getElem.1 hy
     rw [List.length_take] at hj
     rw [List.getElem_take]
     exact hd _ _ (by omega)
   ·have hx : x.name = fs[k].name := hx
    have hne := List.pairwise_iff_getElem.1 hu.ne
    unfold Nmd.upd
    apply List.ext_getElem
    ·rw [List.length_set, List.length_map]
    ·intro j hj1 hj2
     rw [List.length_set] at hj1
     rw [List.getElem_set, List.getElem_map]
     by_cases hjk : k = j
     ·subst hjk
      rw [if_pos rfl, if_pos hx.symm]
     ·have hnx : ¬ fs[j].name = x.name := fun e => by
       have e := e.trans hx
       rcases Nat.lt_or_gt_of_ne hjk with h | h
       ·exact hne k j hk hj1 h e.symm
       ·exact hne j k hj1 hk h e
      rw [if_neg hjk, if_neg hnx]
theorem Both.placed {w : World} {b : Nat} {v : Value} {r : R} {fs : List F} (h : RD w b v r) (hl : r.l = fs) (hc : fs.length ≤ 200) (n : List UInt8) :
  Calls Tryz.prog 38 #[.pointer (some ⟨b, 0, none⟩), .string ⟨n.toArray⟩] w fun e w' => e = .returned (.int .i64 (plV fs n)) ∧ w' = w := by
 subst hl
 exact place_any w b v r h n hc
theorem Sim.with_ {p : P} {r : R} (h : Sim p r) (fs : List F) (u : Int) : Sim ⟨fs, { p.h with used := u }⟩ { r with l := fs } := ⟨rfl, h.room, h.ops, h.off, h.kind, h.arm, h.pow, h.at0⟩
set_option maxRecDepth 100000 in
set_option maxHeartbeats 1000000 in
theorem create_ref {w : World} {b : Nat} {v : Value} {r : R} {p : P} (h : Both w b v r p) (n : List UInt8) :
  Calls Tryz.prog 40 #[.pointer (some ⟨b, 0, none⟩), .string ⟨n.toArray⟩] w (RP b w v (.int .i64 (p.create n).1) (p.create n).2) := by
 have hb := begin1 h n
 obtain ⟨A, cap, hv⟩ := h.rd.row.len
 rw [h.sim.l] at hv
 subst hv
 have hu := h.good.up
 have hcn := h.good.cnt
 obtain ⟨fs, s⟩ := p
 dsimp only at *
 generalize hres : P.create ⟨fs, s⟩ n = res
 unfold P.create at hres
 dsimp only at hres
 generalize s.begin [n] = sb at hb hres
 obtain ⟨er, s1⟩ := sb
 dsimp only at hb hres
 have hrk := y_ hres
 clear hres h
 by_cases he : er = 0
 ·subst he
  have hrs := hrk.out
  rw [if_neg (fun h => h rfl)] at hrs
  rcases place_get hu n with ⟨hg, hpv⟩ | ⟨k, f, hk, hf, hg, hpv, hd, hx⟩
  ·rw [hg, if_neg (by decide)] at hrs
   by_cases h2 : 200 ≤ fs.length
   ·rw [if_pos h2] at hrs
    subst hrs
    go_enter Tryz.func40, Tryz.ntmps40
    go_wp2_with (first
     | (go_at_call 48; refine hb.mono ?_; rintro e w1 ⟨rfl, r1, hR1, hS1, hB1⟩; have hpl := Both.placed hR1 hS1.l hcn n; rw [hpv] at hpl; have c0 := hR1.c.1)
     | (go_at_call 38; refine hpl.mono ?_; rintro e _ ⟨rfl, rfl⟩))
    go_ret
    exact ⟨rfl, _, r1, hR1, hS1, hB1, Newer.refl _ _⟩
   ·rw [if_neg h2] at hrs
    subst hrs
    have h2 : fs.length < 200 := by omega
    have hnn := Nmd.get_none hg
    go_enter Tryz.func40, Tryz.ntmps40
    go_wp2_with (first
     | (go_at_call 48; refine hb.mono ?_; rintro e w1 ⟨rfl, r1, hR1, hS1, hB1⟩; have hpl := Both.placed hR1 hS1.l hcn n; rw [hpv] at hpl; have c0 := hR1.c.1; have HL := y_ hS1.l)
     | (go_at_call 38; refine hpl.mono ?_; rintro e _ ⟨rfl, rfl⟩)
     | (go_at_call 66; refine (put_any _ b _ r1 hR1 ⟨n, [], 0⟩ (by rw [HL.out]; exact hnn) (by rw [HL.out]; exact hcn)).mono ?_; rintro e w2 ⟨rfl, v2, hR2, hB2, hN2⟩))
    go_ret
    refine ⟨rfl, v2, _, hR2, ?_, hB1.trans hB2, (Newer.refl _ _).trans hN2 hB1.size⟩
    rw [HL.out]
    exact hS1.with_ _ _
  ·rw [hg, if_pos (show (some f).isSome = true from rfl)] at hrs
   subst hrs
   go_enter Tryz.func40, Tryz.ntmps40
   go_wp2_with (first
    | (go_at_call 48; refine hb.mono ?_; rintro e w1 ⟨rfl, r1, hR1, hS1, hB1⟩; have hpl := Both.placed hR1 hS1.l hcn n; rw [hpv] at hpl)
    | (go_at_call 38; refine hpl.mono ?_; rintro e _ ⟨rfl, rfl⟩))
   go_ret
   exact ⟨rfl, _, r1, hR1, hS1, hB1, Newer.refl _ _⟩
 ·have hrs := hrk.out
  rw [if_pos he] at hrs
  subst hrs
  have he' : (er == 0) = false := beq_eq_false_iff_ne.2 he
  go_enter Tryz.func40, Tryz.ntmps40
  go_wp2_with (go_at_call 48; refine hb.mono ?_; rintro e w1 ⟨rfl, r1, hR1, hS1, hB1⟩)
  go_ret
  exact ⟨rfl, _, r1, hR1, hS1, hB1, Newer.refl _ _⟩
end Rk
end Go.Proofs.YtafeealbdpmdkaaGreatDoor
/- The document's disk beside the plain one: Delete, Sync, Append. -/
namespace Go.Proofs.YtafeealbdpmdkaaGreatDoor
section
open Go Go.RowKit
namespace Rk
open Plk (F P H isName sum)
theorem ba_append (l t : List UInt8) : (⟨l.toArray⟩ : ByteArray) ++ (⟨t.toArray⟩ : ByteArray) = ⟨(l ++ t).toArray⟩ := by
 apply ByteArray.ext
 simp [ByteArray.data_append]
/-- P.find, with begin's answer in hand -/
theorem find_of {fs : List F} {s s1 : H} {n : List UInt8} {er : Int} (hb : s.begin [n] = (er, s1)) : P.find ⟨fs, s⟩ n = if er ≠ 0 then (er, s1, none) else match Nmd.get F.name n fs with
 | none => (7, s1, none)
 | some f => (0, s1, some f) := by
 unfold P.find
 dsimp only
 rw [hb]
 cases Nmd.get F.name n fs <;> rfl
set_option maxRecDepth 100000 in
set_option maxHeartbeats 1000000 in
theorem delete_ref {w : World} {b : Nat} {v : Value} {r : R} {p : P} (h : Both w b v r p) (n : List UInt8) :
  Calls Tryz.prog 39 #[.pointer (some ⟨b, 0, none⟩), .string ⟨n.toArray⟩] w (RP b w v (.int .i64 (p.delete n).1) (p.delete n).2) := by
 have hb := begin1 h n
 obtain ⟨A, cap, hv⟩ := h.rd.row.len
 rw [h.sim.l] at hv
 subst hv
 have hu := h.good.up
 have hcn := h.good.cnt
 have hgood := y_ h.good
 have hsr := y_ h.sim
 obtain ⟨fs, s⟩ := p
 dsimp only at *
 generalize hres : P.delete ⟨fs, s⟩ n = res
 unfold P.delete at hres
 generalize hsb : s.begin [n] = sb at hb
 obtain ⟨er, s1⟩ := sb
 rw [find_of hsb] at hres
 dsimp only at hb hres
 have hrk := y_ hres
 clear hres h hsb
 by_cases he : er = 0
 ·subst he
  have hrs := hrk.out
  rw [if_neg (fun h => h rfl)] at hrs
  rcases place_get hu n with ⟨hg, hpv⟩ | ⟨k, f, hk, hf, hg, hpv, hd, hx⟩
  ·rw [hg] at hrs
   dsimp only at hrs
   subst hrs
   go_enter Tryz.func39, Tryz.ntmps39
   go_wp2_with (first
    | (go_at_call 48; refine hb.mono ?_; rintro e w1 ⟨rfl, r1, hR1, hS1, hB1⟩; have hpl := Both.placed hR1 hS1.l hcn n; rw [hpv] at hpl)
    | (go_at_call 38; refine hpl.mono ?_; rintro e _ ⟨rfl, rfl⟩))
   go_ret
   exact ⟨rfl, _, r1, hR1, hS1, hB1, Newer.refl _ _⟩
  ·rw [hg] at hrs
   dsimp only at hrs
   subst hrs
   go_enter Tryz.func39, Tryz.ntmps39
   go_wp2_with (first
    | (go_at_call 48; refine hb.mono ?_; rintro e w1 ⟨rfl, r1, hR1, hS1, hB1⟩; have hpl := Both.placed hR1 hS1.l hcn n; rw [hpv] at hpl; have HL := y_ hS1.l)
    | (go_at_call 38; refine hpl.mono ?_; rintro e _ ⟨rfl, rfl⟩)
    | (go_at_call 65; refine (drop_any _ b _ r1 hR1 k (by rw [HL.out]; exact hk) (by rw [HL.out]; exact hcn)).mono ?_; rintro e w2 ⟨rfl, v2, hR2, hB2, hN2⟩))
   go_ret
   refine ⟨rfl, v2, _, hR2, ?_, hB1.trans hB2, (Newer.refl _ _).trans hN2 hB1.size⟩
   rw [HL.out, hd]
   exact hS1.with_ _ _
 ·have hrs := hrk.out
  rw [if_pos he] at hrs
  dsimp only at hrs
  subst hrs
  have he' : (er == 0) = false := beq_eq_false_iff_ne.2 he
  go_enter Tryz.func39, Tryz.ntmps39
  go_wp2_with (go_at_call 48; refine hb.mono ?_; rintro e w1 ⟨rfl, r1, hR1, hS1, hB1⟩)
  go_ret
  exact ⟨rfl, _, r1, hR1, hS1, hB1, Newer.refl _ _⟩
end Rk
end
section
open Go Go.RowKit
namespace Rk
open Plk (F P H isName sum)
theorem RD.later {w w' : World} {b : Nat} {v : Value} {r : R} (h : RD w b v r) (hx : Reg.Ext w w') : RD w' b v r := h.ext hx
set_option maxRecDepth 100000 in
set_option maxHeartbeats 1000000 in
theorem sync_ref {w : World} {b : Nat} {v : Value} {r : R} {p : P} (h : Both w b v r p) (n : List UInt8) :
  Calls Tryz.prog 42 #[.pointer (some ⟨b, 0, none⟩), .string ⟨n.toArray⟩] w (RP b w v (.int .i64 (p.sync n).1) (p.sync n).2) := by
 have hb := begin1 h n
 obtain ⟨A, cap, hv⟩ := h.rd.row.len
 rw [h.sim.l] at hv
 subst hv
 have hu := h.good.up
 have hcn := h.good.cnt
 have hgood := y_ h.good
 have hsr := y_ h.sim
 obtain ⟨fs, s⟩ := p
 dsimp only at *
 generalize hres : P.sync ⟨fs, s⟩ n = res
 unfold P.sync at hres
 generalize hsb : s.begin [n] = sb at hb
 obtain ⟨er, s1⟩ := sb
 rw [find_of hsb] at hres
 dsimp only at hb hres
 have hrk := y_ hres
 clear hres h hsb
 by_cases he : er = 0
 ·subst he
  have hrs := hrk.out
  rw [if_neg (fun h => h rfl)] at hrs
  rcases place_get hu n with ⟨hg, hpv⟩ | ⟨k, f, hk, hf, hg, hpv, hd, hx⟩
  ·rw [hg] at hrs
   dsimp only at hrs
   subst hrs
   go_enter Tryz.func42, Tryz.ntmps42
   go_wp2_with (first
    | (go_at_call 48; refine hb.mono ?_; rintro e w1 ⟨rfl, r1, hR1, hS1, hB1⟩; have hpl := Both.placed hR1 hS1.l hcn n; rw [hpv] at hpl)
    | (go_at_call 38; refine hpl.mono ?_; rintro e _ ⟨rfl, rfl⟩))
   go_ret
   exact ⟨rfl, _, r1, hR1, hS1, hB1, Newer.refl _ _⟩
  ·rw [hg] at hrs
   dsimp only at hrs
   subst hrs
   have hll := y_ (show f.l.length ≤ 4194304 by
    have h1 := Plk.len_sum (show f ∈ fs by rw [← hf]; exact List.getElem_mem hk)
    have h2 := hgood.out.used
    have h3 := hgood.out.room
    dsimp only at h2 h3
    omega)
   go_enter Tryz.func42, Tryz.ntmps42
   go_upto_region 7 with (first
    | (go_at_call 48; refine hb.mono ?_; rintro e w1 ⟨rfl, r1, hR1, hS1, hB1⟩; have hpl := Both.placed hR1 hS1.l hcn n; rw [hpv] at hpl; have c0 := hR1.c.1; have HL := y_ hS1.l)
    | (go_at_call 38; refine hpl.mono ?_; rintro e w2 ⟨rfl, e2⟩; subst e2))
   have hrow : LV w2 (.slice A fs.length cap) fs := by
    have := hR1.row
    rw [HL.out] at this
    exact this
   rcases hrow.form with ⟨_, h2⟩ | ⟨g, cap', h2, _, _, _⟩
   ·rw [h2] at hk; exact absurd hk (Nat.not_lt_zero _)
   injection h2 with h2 h2b h3
   clear h2b
   subst h2 h3
   have hrg := hrow.range k hk
   rw [hf] at hrg
   refine wp_region_lit ?_
   iterate 18 go_step
   refine wpList_file rfl _ rfl g (k * 3) rfl f hrg ?_
   simp only [z_1, z_2, z_3, z_4, z_5, z_b, z_6, z_7, z_8, z_9, z_0]
   iterate 3 go_step
   have hbf := Blk.new w2 65 #[.string ⟨#[]⟩, .string ⟨#[]⟩, .int .i64 0]
   refine wpList_stfile rfl _ _ rfl (w2).heap.size 0 f rfl rfl (hbf.there 3 (Nat.le_refl _)) ?_
   simp only [z_1, z_2, z_3, z_4, z_5, z_b, z_6, z_7, z_8, z_9, z_0]
   clear hbf
   obtain ⟨hb8, hx8⟩ := newfile w2 f #[.string ⟨#[]⟩, .string ⟨#[]⟩, .int .i64 0] rfl
   generalize hw8 : ((w2).alloc (Obj.cells #[.string ⟨#[]⟩, .string ⟨#[]⟩, .int .i64 0] 65)).setCells (w2).heap.size 0 (fcs f) = w8 at *
   clear hw8
   have k1 := hb8.cell 1
   have k2 := hb8.cell 2
   have fz := hb8.frozen 2
   dsimp only [fcs, List.getElem?_cons_zero, List.getElem?_cons_succ] at k1 k2
   have hz := bz f.l
   have hb9 : Blk (w8.setCell ⟨w2.heap.size, 2, none⟩ (.int .i64 (f.l.length : Int))) w2.heap.size 65 (fcs ⟨f.name, f.l, f.l.length⟩) := hb8.set_ 2 _
   have hx9 : Reg.Ext w2 (w8.setCell ⟨w2.heap.size, 2, none⟩ (.int .i64 (f.l.length : Int))) := hx8.trans_but (But.set_ w2.heap.size w8 2 _) (Nat.le_refl _)
   have HB9 := y_ hb9
   have HX9 := y_ hx9
   clear hb9 hx9 hb8 hx8
   go_upto_region 9 with (fail)
   generalize w8.setCell ⟨w2.heap.size, 2, none⟩ (.int .i64 (f.l.length : Int)) = w9 at *
   refine wp_region_lit ?_
   iterate 6 go_step
   refine wpList_file rfl _ rfl w2.heap.size 0 rfl ⟨f.name, f.l, f.l.length⟩ (blk_range HB9.out) ?_
   simp only [z_1, z_2, z_3, z_4, z_5, z_b, z_6, z_7, z_8, z_9, z_0]
   go_wp2_with (go_at_call 46; refine (turn_any _ b _ r1 (hR1.ext HX9.out) k ⟨f.name, f.l, f.l.length⟩ (by rw [HL.out]; exact hk) (by rw [HL.out]; exact hcn)).mono ?_; rintro e w5 ⟨rfl, v5, hR5, hB5, hN5⟩)
   go_ret
   refine ⟨rfl, v5, _, hR5, ?_, (hB1.trans (But.of_ext HX9.out)).trans hB5, (Newer.refl _ _).trans hN5 (Nat.le_trans hB1.size HX9.out.size)⟩
   rw [HL.out, hx ⟨f.name, f.l, f.l.length⟩ rfl]
   exact hS1.with_ _ _
 ·have hrs := hrk.out
  rw [if_pos he] at hrs
  dsimp only at hrs
  subst hrs
  have he' : (er == 0) = false := beq_eq_false_iff_ne.2 he
  go_enter Tryz.func42, Tryz.ntmps42
  go_wp2_with (go_at_call 48; refine hb.mono ?_; rintro e w1 ⟨rfl, r1, hR1, hS1, hB1⟩)
  go_ret
  exact ⟨rfl, _, r1, hR1, hS1, hB1, Newer.refl _ _⟩
end Rk
end
section
open Go Go.RowKit
namespace Rk
open Plk (F P H isName sum)
set_option maxRecDepth 100000 in
set_option maxHeartbeats 400000 in
theorem append_ref {w : World} {b : Nat} {v : Value} {r : R} {p : P} (h : Both w b v r p) (n t : List UInt8) (ht : t.length ≤ 4294967296) :
  Calls Tryz.prog 20 #[.pointer (some ⟨b, 0, none⟩), .string ⟨n.toArray⟩, .string ⟨t.toArray⟩] w (RP b w v (.int .i64 (p.append n t).1) (p.append n t).2) := by
 have hb := begin1 h n
 obtain ⟨A, cap, hv⟩ := h.rd.row.len
 rw [h.sim.l] at hv
 subst hv
 have hu := h.good.up
 have hcn := h.good.cnt
 have hgood := y_ h.good
 have hsr := y_ h.sim
 obtain ⟨fs, s⟩ := p
 dsimp only at *
 have hkp := Plk.begin_keep s [n]
 generalize hres : P.append ⟨fs, s⟩ n t = res
 unfold P.append at hres
 generalize hsb : s.begin [n] = sb at hb hkp
 obtain ⟨er, s1⟩ := sb
 rw [find_of hsb] at hres
 dsimp only at hb hres hkp
 have hrk := y_ hres
 have HKP := y_ hkp
 clear hres h hsb hkp
 by_cases he : er = 0
 ·subst he
  have hrs := hrk.out
  rw [if_neg (fun h => h rfl)] at hrs
  rcases place_get hu n with ⟨hg, hpv⟩ | ⟨k, f, hk, hf, hg, hpv, hd, hx⟩
  ·rw [hg] at hrs
   dsimp only at hrs
   subst hrs
   clear hrk
   go_enter Tryz.func20, Tryz.ntmps20
   go_wp2_with (first
    | (go_at_call 48; refine hb.mono ?_; rintro e w1 ⟨rfl, r1, hR1, hS1, hB1⟩; have hpl := Both.placed hR1 hS1.l hcn n; rw [hpv] at hpl)
    | (go_at_call 38; refine hpl.mono ?_; rintro e _ ⟨rfl, rfl⟩))
   go_ret
   exact ⟨rfl, _, r1, hR1, hS1, hB1, Newer.refl _ _⟩
  ·rw [hg] at hrs
   dsimp only at hrs
   have hll : f.l.length ≤ 4194304 := by
    have h1 := Plk.len_sum (show f ∈ fs by rw [← hf]; exact List.getElem_mem hk)
    have h2 := hgood.out.used
    have h3 := hgood.out.room
    dsimp only at h2 h3
    omega
   have hus := hgood.out.used
   have hro := hgood.out.room
   dsimp only at hus hro
   have hsm : sum fs ≤ 4194304 := by omega
   have hu0 : 0 ≤ s.used := by omega
   have HUS := y_ hus
   obtain ⟨hr1, hr2⟩ := hro
   have hz1 := bz f.l
   have hz2 := bz t
   clear hus hrk
   obtain ⟨full, hfull⟩ : ∃ full, decide (s.room - s.used < (t.length : Int)) = full := ⟨_, rfl⟩
   have HFL := y_ hfull
   have HRS := y_ hrs
   clear hrs
   go_enter Tryz.func20, Tryz.ntmps20
   go_upto_region 7 with (first
    | (go_at_call 48; refine hb.mono ?_; rintro e w1 ⟨rfl, r1, hR1, hS1, hB1⟩; have hpl := Both.placed hR1 hS1.l hcn n; rw [hpv] at hpl; have c0 := hR1.c.1; have HL := y_ hS1.l)
    | (go_at_call 38; refine hpl.mono ?_; rintro e w2 ⟨rfl, e2⟩; subst e2))
   have hrow : LV w2 (.slice A fs.length cap) fs := by
    have := hR1.row
    rw [HL.out] at this
    exact this
   rcases hrow.form with ⟨_, h2⟩ | ⟨g, cap', h2, _, _, _⟩
   ·rw [h2] at hk; exact absurd hk (Nat.not_lt_zero _)
   injection h2 with h2 h2b h3
   clear h2b
   subst h2 h3
   have hrg := hrow.range k hk
   rw [hf] at hrg
   have HC1 : Hid (∀ w', Reg.Ext w2 w' → w'.cell? ⟨b, 1, none⟩ = some (.int .i64 s.room)) := y_ fun w' hx => by
    have := (hR1.ext hx).c.2.1
    rw [hS1.room] at this
    rw [this]
    exact congrArg some (congrArg (Value.int .i64) HKP.out.1)
   have HU : Hid (∀ w', Reg.Ext w2 w' → Calls Tryz.prog 49 #[.pointer (some ⟨b, 0, none⟩)] w' fun e w3 => e = .returned (.int .i64 s.used) ∧ w3 = w') := y_ fun w' hx => by
    have := used_any w' b _ r1 (hR1.ext hx) (by rw [HL.out]; exact hcn) (by rw [HL.out]; exact hsm)
    rw [HL.out, ← HUS.out] at this
    exact this
   have HXX := y_ hx
   have HHF := y_ hf
   clear hx hd hf hg hpv hu hpl hrow hcn hsm
   have hdk : decide ((k : Int) < 0) = false := decide_eq_false (by omega)
   simp only [hdk]
   clear hdk
   apply Reg.wp_tab Reg.Ext (by kernel_rfl) (by kernel_rfl) Reg.Ext.refl (fun _ _ _ => Reg.Ext.trans) (Reg.Ext.drew _)
   case' h =>
    intro O
    repeat (first
     | (apply Reg.TW.move_ Reg.Ext.refl _ rfl rfl
        ·simp only [z_1, z_2, z_3, z_4, z_5, z_b, z_6, z_7, z_8, z_9, z_0]
         rfl)
     | (apply Reg.TW.assign_ Reg.Ext.refl _ rfl rfl
        ·simp only [z_1, z_2, z_3, z_4, z_5, z_b, z_6, z_7, z_8, z_9, z_0]
         rfl)
     | (apply Reg.TW.skip_ rfl
        ·simp only [z_1, z_2, z_3, z_4, z_5, z_b, z_6, z_7, z_8, z_9, z_0]
         rfl)
     | (apply Reg.TW.pure_ rfl
        ·intro w1 hw1 hf K hK
         simp only [z_1, z_3, z_4, z_5] at hK
         have HK := y_ hK
         clear hf hK
         have c1 := HC1.out _ hw1
         unfold Reg.One; dsimp only
         go_wp2_with fail
         exact HK.out _ (Reg.Ext.refl _)
        ·simp only [z_1, z_2, z_3, z_4, z_5, z_b, z_6, z_7, z_8, z_9, z_0]
         rfl))
    apply Reg.TW.call_ (c := .int .i64 s.used) (fun _ => True) rfl (fun _ _ _ h => h)
    ·intro w1 hw1 hf K hK
     simp only [z_1, z_3, z_4, z_5] at hK
     have HK := y_ hK
     clear hK
     unfold Reg.One; dsimp only
     go_wp2_with fail
     refine (HU.out _ hw1).mono ?_
     rintro e w' ⟨rfl, rfl⟩
     go_wp2_with fail
     exact HK.out _ (Reg.Ext.refl _) trivial
    ·simp only [z_1, z_2, z_3, z_4, z_5, z_b, z_6, z_7, z_8, z_9, z_0]
     rfl
    repeat (first
     | (apply Reg.TW.move_ Reg.Ext.refl _ rfl rfl
        ·simp only [z_1, z_2, z_3, z_4, z_5, z_b, z_6, z_7, z_8, z_9, z_0]
         rfl)
     | (apply Reg.TW.assign_ Reg.Ext.refl _ rfl rfl
        ·simp only [z_1, z_2, z_3, z_4, z_5, z_b, z_6, z_7, z_8, z_9, z_0]
         rfl)
     | (apply Reg.TW.skip_ rfl
        ·simp only [z_1, z_2, z_3, z_4, z_5, z_b, z_6, z_7, z_8, z_9, z_0]
         rfl)
     | (apply Reg.TW.pure_ rfl
        ·intro w1 hw1 hf K hK
         simp only [z_1, z_3, z_4, z_5] at hK
         have HK := y_ hK
         clear hf hK
         have c1 := HC1.out _ hw1
         unfold Reg.One; dsimp only
         go_wp2_with fail
         exact HK.out _ (Reg.Ext.refl _)
        ·simp only [z_1, z_2, z_3, z_4, z_5, z_b, z_6, z_7, z_8, z_9, z_0]
         rfl))
    refine Reg.TW.nil_ ?_
    intro wa hwa _
    try simp only [hfull]
    cases full with
    | true =>
      have hrs := HRS.out
      rw [if_pos (of_decide_eq_true HFL.out)] at hrs
      subst hrs
      go_wp2_with fail
      go_ret
      exact ⟨rfl, _, r1, hR1.ext hwa, hS1, hB1.trans (But.of_ext hwa), Newer.refl _ _⟩
    | false =>
      have hrs := HRS.out
      rw [if_neg (of_decide_eq_false HFL.out)] at hrs
      subst hrs
      have hRa := hR1.ext hwa
      have c0 := hRa.c.1
      have hrg : wa.rangeAt g (k * 3) (fcs f) := fun i v hv => hwa.at_ (hrg i v hv)
      go_upto_region 9 with (fail)
      have hf := HHF.out
      refine wp_region_lit ?_
      iterate 18 go_step
      refine wpList_file rfl _ rfl g (k * 3) rfl f hrg ?_
      simp only [z_1, z_2, z_3, z_4, z_5, z_b, z_6, z_7, z_8, z_9, z_0]
      iterate 3 go_step
      have hbf := Blk.new wa 65 #[.string ⟨#[]⟩, .string ⟨#[]⟩, .int .i64 0]
      refine wpList_stfile rfl _ _ rfl (wa).heap.size 0 f rfl rfl (hbf.there 3 (Nat.le_refl _)) ?_
      simp only [z_1, z_2, z_3, z_4, z_5, z_b, z_6, z_7, z_8, z_9, z_0]
      clear hbf
      obtain ⟨hb8, hx8⟩ := newfile wa f #[.string ⟨#[]⟩, .string ⟨#[]⟩, .int .i64 0] rfl
      generalize hw8 : ((wa).alloc (Obj.cells #[.string ⟨#[]⟩, .string ⟨#[]⟩, .int .i64 0] 65)).setCells (wa).heap.size 0 (fcs f) = w8 at *
      clear hw8
      have k1 := hb8.cell 1
      have fz := hb8.frozen 1
      dsimp only [fcs, List.getElem?_cons_zero, List.getElem?_cons_succ] at k1
      have hz1 := bz f.l
      have hb9 : Blk (w8.setCell ⟨wa.heap.size, 1, none⟩ (.string ((⟨f.l.toArray⟩ : ByteArray) ++ (⟨t.toArray⟩ : ByteArray)))) wa.heap.size 65 (fcs ⟨f.name, f.l ++ t, f.safe⟩) := by
       rw [ba_append]
       exact hb8.set_ 1 _
      have hx9 : Reg.Ext wa (w8.setCell ⟨wa.heap.size, 1, none⟩ (.string ((⟨f.l.toArray⟩ : ByteArray) ++ (⟨t.toArray⟩ : ByteArray)))) := hx8.trans_but (But.set_ wa.heap.size w8 1 _) (Nat.le_refl _)
      have HB9 := y_ hb9
      have HX9 := y_ hx9
      clear hb9 hx9 hb8 hx8
      go_upto_region 11 with (fail)
      generalize w8.setCell ⟨wa.heap.size, 1, none⟩ (.string ((⟨f.l.toArray⟩ : ByteArray) ++ (⟨t.toArray⟩ : ByteArray))) = w9 at *
      refine wp_region_lit ?_
      iterate 6 go_step
      refine wpList_file rfl _ rfl wa.heap.size 0 rfl ⟨f.name, f.l ++ t, f.safe⟩ (blk_range HB9.out) ?_
      simp only [z_1, z_2, z_3, z_4, z_5, z_b, z_6, z_7, z_8, z_9, z_0]
      have hkk := hk
      go_wp2_with (go_at_call 46; refine (turn_any _ b _ r1 (hRa.ext HX9.out) k ⟨f.name, f.l ++ t, f.safe⟩ (by rw [HL.out]; exact hkk) (by rw [HL.out]; exact hgood.out.cnt)).mono ?_; rintro e w5 ⟨rfl, v5, hR5, hB5, hN5⟩)
      go_ret
      refine ⟨rfl, v5, _, hR5, ?_, ((hB1.trans (But.of_ext hwa)).trans (But.of_ext HX9.out)).trans hB5, (Newer.refl _ _).trans hN5 (Nat.le_trans (Nat.le_trans hB1.size hwa.size) HX9.out.size)⟩
      rw [HL.out, HXX.out ⟨f.name, f.l ++ t, f.safe⟩ rfl]
      exact hS1.with_ _ _
   all_goals rfl
 ·have hrs := hrk.out
  rw [if_pos he] at hrs
  dsimp only at hrs
  subst hrs
  have he' : (er == 0) = false := beq_eq_false_iff_ne.2 he
  go_enter Tryz.func20, Tryz.ntmps20
  go_wp2_with (go_at_call 48; refine hb.mono ?_; rintro e w1 ⟨rfl, r1, hR1, hS1, hB1⟩)
  go_ret
  exact ⟨rfl, _, r1, hR1, hS1, hB1, Newer.refl _ _⟩
end Rk
end
end Go.Proofs.YtafeealbdpmdkaaGreatDoor

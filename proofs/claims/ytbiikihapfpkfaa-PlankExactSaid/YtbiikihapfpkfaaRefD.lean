/- The document's disk: how it lies in memory. -/
import Derived.Test.YtbiikihapfpkfaaPlkR
import Derived.Test.YtbiikihapfpkfaaOwn
import Derived.Laws.OwnMore
set_option linter.unusedSimpArgs false
set_option linter.unusedVariables false
set_option linter.unusedSectionVars false
namespace Go.Proofs.Ytbiikihapfpkfaa
open Go Go.RowKit
theorem Try.fileUnd : Try.prog.underlying 59 = some (.struct (Try.prog.fieldsOf 59)) := by kernel_rfl
theorem Try.fileSize : (Try.prog.info? 59).map (·.size) = some 3 := by kernel_rfl
theorem Try.fileInfo : (Try.prog.info? 59).map (fun i => (i.zero, i.size, i.bytes)) = some (some (.agg #[.string ⟨#[]⟩, .string ⟨#[]⟩, .int .i64 0]), 3, 40) := by kernel_rfl
theorem fileInfo_of : ∃ i, Try.prog.info? 59 = some i ∧ i.zero = some (.agg #[.string ⟨#[]⟩, .string ⟨#[]⟩, .int .i64 0]) ∧ i.size = 3 ∧ i.bytes = 40 := by
  obtain ⟨i, hi, h⟩ := Option.map_eq_some_iff.1 Try.fileInfo
  simp only [Prod.mk.injEq] at h
  exact ⟨i, hi, h.1, h.2.1, h.2.2⟩
namespace Rk
open Plk (F P H)
def fcs (f : F) : List Value := [.string ⟨f.name.toArray⟩, .string ⟨f.l.toArray⟩, .int .i64 (f.safe : Int)]
def fval (f : F) : Value := .agg (fcs f).toArray
def lcs (fs : List F) : List Value := fs.flatMap fcs
theorem lcs_len (fs : List F) : (lcs fs).length = fs.length * 3 := by
  induction fs with
  | nil => rfl
  | cons f fs ih => simp only [lcs, List.flatMap_cons, List.length_append, List.length_cons, fcs, List.length_nil] at *; omega
theorem lcs_append (a b : List F) : lcs (a ++ b) = lcs a ++ lcs b := by simp [lcs]
theorem lcs_cons (f : F) (fs : List F) : lcs (f :: fs) = fcs f ++ lcs fs := rfl
theorem lcs_drop (fs : List F) (k : Nat) : (lcs fs).drop (k * 3) = lcs (fs.drop k) := by
  induction fs generalizing k with
  | nil => simp [lcs]
  | cons f fs ih =>
    cases k with
    | zero => rw [Nat.zero_mul]; rfl
    | succ k =>
      rw [lcs_cons, List.drop_succ_cons, ← ih k, show (k + 1) * 3 = (fcs f).length + k * 3 by simp [fcs]; omega, ← List.drop_drop, List.drop_left]
theorem lcs_take (fs : List F) (k : Nat) : (lcs fs).take (k * 3) = lcs (fs.take k) := by
  induction fs generalizing k with
  | nil => simp [lcs]
  | cons f fs ih =>
    cases k with
    | zero => rw [Nat.zero_mul]; rfl
    | succ k =>
      rw [lcs_cons, List.take_succ_cons, lcs_cons, ← ih k, show (k + 1) * 3 = (fcs f).length + k * 3 by simp [fcs]; omega, List.take_length_add_append]
theorem lcs_at (fs : List F) (k : Nat) (hk : k < fs.length) (i : Nat) (hi : i < 3) : (lcs fs)[k * 3 + i]? = (fcs fs[k])[i]? := by
  have h := lcs_drop fs k
  rw [List.drop_eq_getElem_cons hk, lcs_cons] at h
  have h2 := congrArg (fun l => l[i]?) h
  simp only [List.getElem?_drop] at h2
  rw [h2, List.getElem?_append_left (by simp [fcs]; omega)]
/-- the document's disk, plainly -/
structure R where
  l : List F
  room : Int
  ops : Int
  at_ : Int
  kind : Int
  more : Int
  off : Bool
def R.cells (r : R) (v : Value) : List Value := [v, .int .i64 r.room, .int .i64 r.ops, .int .i64 r.at_, .int .i64 r.kind, .int .i64 r.more, .bool r.off]
/-- a slice of files in a block of its own -/
def LV (w : World) (v : Value) (fs : List F) : Prop := w.ownsRow 0 59 3 v fs.length (lcs fs)
structure RD (w : World) (b : Nat) (v : Value) (r : R) : Prop where
  blk : Blk w b 57 (r.cells v)
  row : LV w v r.l
  away : v.ownBlock ≠ some b
/-- the slice's block is the old one or a new one -/
def Newer (w : World) (v v' : Value) : Prop := v'.ownBlock = v.ownBlock ∨ ∀ g, v'.ownBlock = some g → w.heap.size ≤ g
theorem Newer.refl (w : World) (v : Value) : Newer w v v := .inl rfl
theorem Newer.trans {w w1 : World} {v v1 v2 : Value} (h : Newer w v v1) (h1 : Newer w1 v1 v2) (hs : w.heap.size ≤ w1.heap.size) : Newer w v v2 := by
  rcases h1 with h1 | h1
  · rcases h with h | h
    · exact .inl (h1.trans h)
    · exact .inr fun g hg => h g (by rw [← h1]; exact hg)
  · exact .inr fun g hg => Nat.le_trans hs (h1 g hg)
theorem RD.but {w w' : World} {b : Nat} {v : Value} {r r' : R} (h : RD w b v r) (hb : But b w w') (hk : Blk w' b 57 (r'.cells v)) (hl : r'.l = r.l) : RD w' b v r' :=
  ⟨hk, by rw [hl]; exact h.row.kept hb (.inr h.away), h.away⟩
theorem RD.ext {w w' : World} {b : Nat} {v : Value} {r : R} (h : RD w b v r) (hx : Reg.Ext w w') : RD w' b v r :=
  ⟨h.blk.ext hx, own_ext h.row hx, h.away⟩
theorem RD.set_ {w : World} {b : Nat} {v : Value} {r r' : R} (h : RD w b v r) (i : Nat) (u : Value) (hs : (r.cells v).set i u = r'.cells v) (hl : r'.l = r.l) : RD (w.setCell ⟨b, i, none⟩ u) b v r' :=
  h.but (But.set_ b w i u) (by rw [← hs]; exact h.blk.set_ i u) hl
/-- another slice of files -/
theorem RD.turn {w1 : World} {b : Nat} {v v' : Value} {r : R} (h : RD w1 b v r) (fs : List F) (hr : LV w1 v' fs) (ha : v'.ownBlock ≠ some b) : RD (w1.setCell ⟨b, 0, none⟩ v') b v' { r with l := fs } :=
  ⟨h.blk.set_ 0 v', hr.kept (But.set_ b w1 0 v') (.inr ha), ha⟩
theorem RD.c {w : World} {b : Nat} {v : Value} {r : R} (h : RD w b v r) : w.cell? ⟨b, 0, none⟩ = some v ∧ w.cell? ⟨b, 1, none⟩ = some (.int .i64 r.room) ∧ w.cell? ⟨b, 2, none⟩ = some (.int .i64 r.ops) ∧ w.cell? ⟨b, 3, none⟩ = some (.int .i64 r.at_) ∧
    w.cell? ⟨b, 4, none⟩ = some (.int .i64 r.kind) ∧ w.cell? ⟨b, 5, none⟩ = some (.int .i64 r.more) ∧ w.cell? ⟨b, 6, none⟩ = some (.bool r.off) :=
  ⟨h.blk.cell 0, h.blk.cell 1, h.blk.cell 2, h.blk.cell 3, h.blk.cell 4, h.blk.cell 5, h.blk.cell 6⟩
theorem LV.form {w : World} {v : Value} {fs : List F} (h : LV w v fs) : (v = .slice none 0 0 ∧ fs = []) ∨ ∃ g cap, v = .slice (some ⟨g, 0, none⟩) fs.length cap ∧ g < w.heap.size ∧ fs.length ≤ cap ∧ cap ≤ maxLen := by
  rcases h.2 with ⟨rfl, hn⟩ | ⟨g, cap, cur, rfl, _, hc, h1, h2, _⟩
  · exact .inl ⟨rfl, List.eq_nil_of_length_eq_zero hn⟩
  · exact .inr ⟨g, cap, rfl, (Array.getElem?_eq_some_iff.1 hc).1, h1, h2⟩
theorem LV.len {w : World} {v : Value} {fs : List F} (h : LV w v fs) : ∃ A cap, v = .slice A fs.length cap := by
  rcases h.form with ⟨rfl, rfl⟩ | ⟨g, cap, rfl, _⟩
  · exact ⟨none, 0, rfl⟩
  · exact ⟨_, cap, rfl⟩
theorem LV.at_ {w : World} {g cap : Nat} {fs : List F} (h : LV w (.slice (some ⟨g, 0, none⟩) fs.length cap) fs) (k : Nat) (hk : k < fs.length) (i : Nat) (hi : i < 3) : w.cell? ⟨g, k * 3 + i, none⟩ = (fcs fs[k])[i]? := by
  rw [World.ownsRow.cellAt h (k * 3 + i) (by omega), lcs_at fs k hk i hi]
def new (room : Int) : R := ⟨[], min (max room 0) 4194304, 0, 0, 0, 0, false⟩
theorem new_at (n : Int) (W : World) : RD (W.alloc (.cells #[.slice none 0 0, .int .i64 n, .int .i64 0, .int .i64 0, .int .i64 0, .int .i64 0, .bool false] 57)) W.heap.size (.slice none 0 0) ⟨[], n, 0, 0, 0, 0, false⟩ :=
  ⟨Blk.new W _ _, World.ownsRow_nil _ _ _ _, by simp [Value.ownBlock]⟩
theorem new_any (room : Int) (W : World) : Calls Try.prog 27 #[.int .i64 room] W fun e w' => ∃ b v, e = .returned (.pointer (some ⟨b, 0, none⟩)) ∧ RD w' b v (new room) ∧ v = .slice none 0 0 ∧ W.heap.size ≤ b ∧ Reg.Ext W w' := by
  have fin : ∀ n, n = min (max room 0) 4194304 → ∃ b v, Ending.returned (.pointer (some ⟨W.heap.size, 0, none⟩)) = .returned (.pointer (some ⟨b, 0, none⟩)) ∧ RD (W.alloc (.cells #[.slice none 0 0, .int .i64 n, .int .i64 0, .int .i64 0, .int .i64 0, .int .i64 0, .bool false] 57)) b v (new room) ∧ v = .slice none 0 0 ∧ W.heap.size ≤ b ∧ Reg.Ext W (W.alloc (.cells #[.slice none 0 0, .int .i64 n, .int .i64 0, .int .i64 0, .int .i64 0, .int .i64 0, .bool false] 57)) := by
    intro n hn
    refine ⟨_, _, rfl, ?_, rfl, Nat.le_refl _, Reg.Ext.alloc _ _⟩
    unfold new
    rw [← hn]
    exact new_at n W
  go_enter Try.func27, Try.ntmps27
  go_wp2
  all_goals (go_ret; refine fin _ ?_; omega)
def place (fs : List F) (n : List UInt8) : Option Nat := fs.findIdx? fun f => decide (f.name = n)
def plV (fs : List F) (n : List UInt8) : Int := match place fs n with
  | none => -1
  | some k => (k : Int)
end Rk
end Go.Proofs.Ytbiikihapfpkfaa

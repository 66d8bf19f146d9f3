/- Made by merge.py from: BytesEq SlipPlain SlipEq SlipGood SlipRow SlipOnly SlipGood2. -/
import Derived.Test.YtafeealbdpmdkaaGreatDoorWords
import Derived.ChangeKeysEq
import Derived.Laws.StructEq
import Derived.KernelRfl
import Derived.Test.YtafeealbdpmdkaaGreatDoorRows
import Derived.Test.YtafeealbdpmdkaaGreatDoorReg
import Derived.Test.YtafeealbdpmdkaaGreatDoorBlk
import Derived.Laws.ResultCell
import Derived.WalkKit
import Derived.WalkSpells
import Derived.WalkLawsBesides
import Derived.Great.Walk
import Derived.BigQuiet
import Derived.BigRegion
import Derived.Deep.DeepCutAuto
import Derived.Deep.WholeRow
import Derived.Lib.Hide
import Derived.Deep.MidRow
set_option linter.unusedSimpArgs false
set_option linter.unusedVariables false
set_option linter.unusedSectionVars false
set_option maxRecDepth 100000
/- Two arrays of bytes are compared. No program in sight. -/
open Go.Act renaming put → z_1, eval → z_2
open List renaming setIfInBounds_toArray → z_3, set_cons_zero → z_4, set_cons_succ → z_5, getElem?_toArray → z_7, getElem?_cons_succ → z_8, getElem?_cons_zero → z_9
open Array renaming getD_eq_getD_getElem? → z_6
open Option renaming getD_some → z_0
open Go.Lib renaming hid → y_
open List renaming size_toArray → z_a
open Nat renaming reduceAdd → z_b
open List renaming toList_toArray → z_c
-- squeezed
namespace Go.Proofs.YtafeealbdpmdkaaGreatDoor
open Go Go.RowKit
section
variable {P : Program} (w : World)
theorem run_eqItems_bytes (d : Nat) {e : TypeId} (he : P.underlying e = some (.int .u8)) (hc : P.cellsOf e = 1) : ∀ (m k : Nat) (a b : List UInt8), a.length = k + m → b.length = k + m →
  (Op.eqItems (d + 1) e (P.cellsOf e) (a.map byteV).toArray (b.map byteV).toArray (List.range' k m)).run P w = .ok (a.drop k == b.drop k) w
 | 0, k, a, b, ha, hb => by
   rw [List.drop_of_length_le (by omega), List.drop_of_length_le (by omega)]
   simp [Op.eqItems]
 | m + 1, k, a, b, ha, hb => by
   have hp : P.plainKey e = true := by simp [Program.plainKey, he]
   have pa := run_part_plain (P := P) w hp (xs := (a.map byteV).toArray) (off := k) (v := byteV (a[k]'(by omega))) (by simp [show k < a.length by omega])
   have pb := run_part_plain (P := P) w hp (xs := (b.map byteV).toArray) (off := k) (v := byteV (b[k]'(by omega))) (by simp [show k < b.length by omega])
   have ih := run_eqItems_bytes d he hc m (k + 1) a b (by omega) (by omega)
   have da : a.drop k = a[k]'(by omega) :: a.drop (k + 1) := List.drop_eq_getElem_cons (by omega)
   have db : b.drop k = b[k]'(by omega) :: b.drop (k + 1) := List.drop_eq_getElem_cons (by omega)
   have hq : (Op.equalIn (d + 1) e (byteV (a[k]'(by omega))) (byteV (b[k]'(by omega)))).run P w = .ok (a[k]'(by omega) == b[k]'(by omega)) w := by
    unfold byteV
    rw [run_equalIn_int w d e .u8 .u8 _ _ he]
    congr 1
    rw [Bool.eq_iff_iff, beq_iff_eq, beq_iff_eq]
    constructor
    ·intro h; exact UInt8.toNat_inj.1 (by omega)
    ·intro h; rw [h]
   rw [hc] at ih
   rw [List.range'_succ, da, db]
   simp only [Op.eqItems, Sem.run_bind, hc, Nat.mul_one, pa, pb, hq, Result.andThen_ok]
   rw [List.cons_beq_cons]
   cases hh : (a[k]'(by omega) == b[k]'(by omega))
   ·simp
   ·simpa using ih
theorem run_equal_bytes (d : Nat) {t e : TypeId} {n : Nat} {i : TypeInfo} (ht : P.underlying t = some (.array n e)) (hi : P.info? e = some i) (he : P.underlying e = some (.int .u8)) (hc : P.cellsOf e = 1) (a b : List UInt8) (ha : a.length = n) (hb : b.length = n) :
  (Op.equalIn (d + 2) t (.agg (a.map byteV).toArray) (.agg (b.map byteV).toArray)).run P w = .ok (a == b) w := by
 rw [run_equalIn_array w (d + 1) _ _ ht hi, List.range_eq_range']
 have := run_eqItems_bytes (P := P) w d he hc n 0 a b (by omega) (by omega)
 simpa using this
end
end Go.Proofs.YtafeealbdpmdkaaGreatDoor
/- Slips as Lean data; which fields a kind has. -/
namespace Go.Proofs.YtafeealbdpmdkaaGreatDoor
open Go Go.RowKit
namespace Slp
structure S where
 k : Int
 repo : ByteArray
 tag : ByteArray
 dig : List UInt8
 typ : ByteArray
 size : Int
 at_ : Int
structure F where
 names : Bool
 digest : Bool
 thing : Bool
 at_ : Bool
def zeros : List UInt8 := List.replicate 32 0
def S.cells (x : S) : List Value := .int .i64 x.k :: .string x.repo :: .string x.tag :: (x.dig.map byteV ++ [.string x.typ, .int .i64 x.size, .int .i64 x.at_])
def F.cells (f : F) : List Value := [.bool f.names, .bool f.digest, .bool f.thing, .bool f.at_]
def noStr : ByteArray := ⟨#[]⟩
def S.none : S := ⟨0, noStr, noStr, zeros, noStr, 0, 0⟩
def flds (k : Int) : F := if k = 1 then ⟨true, true, true, true⟩ else if k = 2 then ⟨true, false, false, true⟩ else if k = 3 then ⟨true, false, false, false⟩ else if k = 4 then ⟨false, true, true, false⟩
 else if k = 5 then ⟨false, true, false, false⟩ else if k = 6 then ⟨false, true, false, false⟩ else ⟨false, false, false, false⟩
def known (k : Int) : Bool := decide (1 ≤ k ∧ k ≤ 6)
def S.only (x : S) (f : F) : S := ⟨x.k, if f.names then x.repo else noStr, if f.names then x.tag else noStr, if f.digest then x.dig else zeros, if f.thing then x.typ else noStr, if f.thing then x.size else 0, if f.at_ then x.at_ else 0⟩
def S.same (x y : S) : Bool := x.k == y.k && x.repo.toList == y.repo.toList && x.tag.toList == y.tag.toList && x.dig == y.dig && x.typ.toList == y.typ.toList && x.size == y.size && x.at_ == y.at_
theorem cells_length (x : S) (h : x.dig.length = 32) : x.cells.length = 38 := by simp [S.cells, h]
end Slp
end Go.Proofs.YtafeealbdpmdkaaGreatDoor
/- Two slips are compared. -/
namespace Go.Proofs.YtafeealbdpmdkaaGreatDoor
open Go Go.RowKit
namespace Slp
theorem fieldsS : (Tryz.prog.fieldsOf 39).toList.map (fun f => (decide (f.name ≠ "_"), f.type, f.offset)) = [(true, 3, 0), (true, 9, 1), (true, 9, 2), (true, 37, 3), (true, 9, 35), (true, 3, 36), (true, 3, 37)] := by kernel_rfl
theorem undS : Tryz.prog.underlying 39 = some (.struct (Tryz.prog.fieldsOf 39)) := by kernel_rfl
theorem stood : Tryz.prog.stoodInHeld 39 = false := by kernel_rfl
def eqL (d : Nat) (xs ys : Array Value) : List (Bool × TypeId × Nat) → Sem Bool
 | [] => pure true
 | (b, t, o) :: r =>
   if b = true then do
    let a ← part t xs o
    let b ← part t ys o
    let q ← Op.equalIn d t a b
    if (!q) = true then pure false else eqL d xs ys r
   else eqL d xs ys r
theorem eqFields_eqL (d : Nat) (xs ys : Array Value) : ∀ fs : List Field, Op.eqFields d xs ys fs = eqL d xs ys (fs.map fun f => (decide (f.name ≠ "_"), f.type, f.offset))
 | [] => rfl
 | f :: fs => by
   simp only [Op.eqFields, eqL, List.map_cons, eqFields_eqL d xs ys fs, decide_eq_true_eq]
theorem cellsE : Tryz.prog.cellsOf 5 = 1 := by kernel_rfl
theorem info_byte' : ∃ i, Tryz.prog.info? 5 = some i := by
 cases h : Tryz.prog.info? 5 with
 | none => have : (Tryz.prog.info? 5).isSome = true := by kernel_rfl
           rw [h] at this; cases this
 | some i => exact ⟨i, rfl⟩
theorem equal_dig {l m : List UInt8} (hl : l.length = 32) (hm : m.length = 32) (d : Nat) (w : World) : (Op.equalIn (d + 2) 37 (.agg (l.map byteV).toArray) (.agg (m.map byteV).toArray)).run Tryz.prog w = .ok (l == m) w := by
 obtain ⟨i, hi⟩ := info_byte'
 exact run_equal_bytes w d Tryz.underlying37 hi Tryz.underlying5 cellsE _ _ hl hm
theorem part_dig (x : S) (hx : x.dig.length = 32) (w : World) : (part 37 x.cells.toArray 3).run Tryz.prog w = .ok (.agg (x.dig.map byteV).toArray) w := by
 have hz : (Go.sizeOf 37).run Tryz.prog w = .ok 32 w := by as_aux_lemma => kernel_rfl
 have ha : (isAgg 37).run Tryz.prog w = .ok true w := by as_aux_lemma => kernel_rfl
 have he : x.cells.toArray.extract 3 (3 + 32) = (x.dig.map byteV).toArray := by
  rw [List.extract_toArray]
  refine congrArg List.toArray ?_
  rw [List.extract_eq_take_drop]
  have : (x.cells.drop 3) = x.dig.map byteV ++ [.string x.typ, .int .i64 x.size, .int .i64 x.at_] := rfl
  rw [this]
  have : 3 + 32 - 3 = (x.dig.map byteV).length := by rw [List.length_map, hx]
  rw [this, List.take_left]
 unfold part
 simp only [Sem.run_bind, ha, Result.andThen_ok, if_true, hz, Sem.run_pure, he]
theorem part_at (x : S) (hx : x.dig.length = 32) (w : World) :
  (part 3 x.cells.toArray 0).run Tryz.prog w = .ok (.int .i64 x.k) w ∧ (part 9 x.cells.toArray 1).run Tryz.prog w = .ok (.string x.repo) w ∧ (part 9 x.cells.toArray 2).run Tryz.prog w = .ok (.string x.tag) w ∧
  (part 9 x.cells.toArray 35).run Tryz.prog w = .ok (.string x.typ) w ∧ (part 3 x.cells.toArray 36).run Tryz.prog w = .ok (.int .i64 x.size) w ∧ (part 3 x.cells.toArray 37).run Tryz.prog w = .ok (.int .i64 x.at_) w := by
 have hs : Tryz.prog.plainKey 9 = true := by kernel_rfl
 have hi : Tryz.prog.plainKey 3 = true := by kernel_rfl
 have tl : ∀ j, x.cells[35 + j]? = [Value.string x.typ, .int .i64 x.size, .int .i64 x.at_][j]? := fun j => by
  show (Value.int .i64 x.k :: .string x.repo :: .string x.tag :: (x.dig.map byteV ++ [.string x.typ, .int .i64 x.size, .int .i64 x.at_]))[35 + j]? = _
  rw [show 35 + j = (32 + j) + 1 + 1 + 1 by omega, List.getElem?_cons_succ, List.getElem?_cons_succ, List.getElem?_cons_succ, List.getElem?_append_right (by rw [List.length_map, hx]; omega), List.length_map, hx, Nat.add_sub_cancel_left]
 refine ⟨run_part_plain w hi rfl, run_part_plain w hs rfl, run_part_plain w hs rfl, run_part_plain w hs ?_, run_part_plain w hi ?_, run_part_plain w hi ?_⟩
 ·rw [List.getElem?_toArray]; exact tl 0
 ·rw [List.getElem?_toArray]; exact tl 1
 ·rw [List.getElem?_toArray]; exact tl 2
theorem eqL_cons {d : Nat} {xs ys : Array Value} {t o : Nat} {r : List (Bool × TypeId × Nat)} {a b : Value} {q : Bool} {w : World} (ha : (part t xs o).run Tryz.prog w = .ok a w) (hb : (part t ys o).run Tryz.prog w = .ok b w)
  (hq : (Op.equalIn d t a b).run Tryz.prog w = .ok q w) : (eqL d xs ys ((true, t, o) :: r)).run Tryz.prog w = if q = true then (eqL d xs ys r).run Tryz.prog w else .ok false w := by
 simp only [eqL, if_true, Sem.run_bind, ha, hb, hq, Result.andThen_ok]
 cases q <;> simp
theorem equal_slip (x y : S) (hx : x.dig.length = 32) (hy : y.dig.length = 32) (w : World) :
  (Op.equalIn 10000 39 (.agg x.cells.toArray) (.agg y.cells.toArray)).run Tryz.prog w = .ok (x.same y) w := by
 rw [run_equalIn_struct w 9999 _ _ _ undS stood, eqFields_eqL, fieldsS]
 obtain ⟨x0, x1, x2, x3, x4, x5⟩ := part_at x hx w
 obtain ⟨y0, y1, y2, y3, y4, y5⟩ := part_at y hy w
 have xd := part_dig x hx w
 have yd := part_dig y hy w
 have ed := equal_dig hx hy 9997 w
 have ei : ∀ a b : Int, (Op.equalIn 9999 3 (.int .i64 a) (.int .i64 b)).run Tryz.prog w = .ok (a == b) w := fun a b => run_equalIn_int w 9998 _ _ _ a b Tryz.underlying3
 have es : ∀ a b : ByteArray, (Op.equalIn 9999 9 (.string a) (.string b)).run Tryz.prog w = .ok (a.toList == b.toList) w := fun a b => run_equalIn_string w 9998 _ a b Tryz.underlying9
 rw [eqL_cons x0 y0 (ei _ _), eqL_cons x1 y1 (es _ _), eqL_cons x2 y2 (es _ _), eqL_cons xd yd ed, eqL_cons x3 y3 (es _ _), eqL_cons x4 y4 (ei _ _), eqL_cons x5 y5 (ei _ _)]
 have e0 : (eqL 9999 x.cells.toArray y.cells.toArray []).run Tryz.prog w = .ok true w := rfl
 rw [e0]
 unfold S.same
 cases x.k == y.k <;> cases x.repo.toList == y.repo.toList <;> cases x.tag.toList == y.tag.toList <;> cases x.dig == y.dig <;> cases x.typ.toList == y.typ.toList <;> cases x.size == y.size <;> cases x.at_ == y.at_ <;> rfl
end Slp
end Go.Proofs.YtafeealbdpmdkaaGreatDoor
/- The walks of package slip: of, within, only, Good. -/
namespace Go.Proofs.YtafeealbdpmdkaaGreatDoor
open Go.RowKit
namespace Slp
theorem results_row2 {P : Program} {fn : Func} {p u : Tmp} {ty : TypeId} (h : fn.results = #[.cell p ty, .tmp u]) (tmps : Array Value) (w : World) (g : Nat) (t : TypeId) (cs : Array Value) (fr : Nat × Nat) (d : TypeDesc)
  (hp : tmps.getD p undef = .pointer (some ⟨g, 0, none⟩)) (hg : w.heap[g]? = some (.cells cs t fr))
  (hu : P.underlying ty = some d) (hd : (match d with | .struct _ | .array _ _ => true | _ => false) = true) (hi : (P.info? ty).map (·.size) = some cs.size) :
  (results fn tmps).run P w = .ok (.tuple #[.agg cs, tmps.getD u undef]) w := by
 rw [results_cell_tmp h, hp]
 simp [asAddr, run_loadVar_row w g t ty cs fr d hg hu hd hi]
theorem within_any (n lo hi : Int) (w : World) : Calls Tryz.prog 93 #[.int .i64 n, .int .i64 lo, .int .i64 hi] w fun e w' => e = .returned (.bool (decide (lo ≤ n) && decide (n ≤ hi))) ∧ w = w' := by
 by_cases h1 : lo ≤ n
 ·have d1 : decide (lo ≤ n) = true := by simp [h1]
  by_cases h2 : n ≤ hi
  ·have d2 : decide (n ≤ hi) = true := by simp [h2]
   go_enter Tryz.func93, Tryz.ntmps93
   go_wp2
   go_ret
   exact ⟨by simp [h1, h2], rfl⟩
  ·have d2 : decide (n ≤ hi) = false := by simp [h2]
   go_enter Tryz.func93, Tryz.ntmps93
   go_wp2
   go_ret
   exact ⟨by simp [h1, h2], rfl⟩
 ·have d1 : decide (lo ≤ n) = false := by simp [h1]
  go_enter Tryz.func93, Tryz.ntmps93
  go_wp2
  go_ret
  exact ⟨by simp [h1], rfl⟩
theorem und47 : Tryz.prog.underlying 114 = some (.struct (Tryz.prog.fieldsOf 114)) := by kernel_rfl
theorem size47 : (Tryz.prog.info? 114).map (·.size) = some 4 := by kernel_rfl
set_option maxHeartbeats 2000000 in
theorem of_any (k : Int) (w : World) : Calls Tryz.prog 70 #[.int .i64 k] w fun e w' => e = .returned (.tuple #[.agg (flds k).cells.toArray, .bool (known k)]) ∧ Reg.Ext w w' := by
 by_cases h1 : k = 1
 ·subst h1
  go_enter Tryz.func70, Tryz.ntmps70
  go_wp2
  exact bodyPost_ret (results_row2 rfl _ _ w.heap.size 114 #[.bool true, .bool true, .bool true, .bool true] (0, 0) _ rfl (heap_alloc_new w _) und47 rfl size47) rfl ⟨rfl, Reg.Ext.alloc _ _⟩
 by_cases h2 : k = 2
 ·subst h2
  go_enter Tryz.func70, Tryz.ntmps70
  go_wp2
  exact bodyPost_ret (results_row2 rfl _ _ w.heap.size 114 #[.bool true, .bool false, .bool false, .bool true] (0, 0) _ rfl (heap_alloc_new w _) und47 rfl size47) rfl ⟨rfl, Reg.Ext.alloc _ _⟩
 by_cases h3 : k = 3
 ·subst h3
  go_enter Tryz.func70, Tryz.ntmps70
  go_wp2
  exact bodyPost_ret (results_row2 rfl _ _ w.heap.size 114 #[.bool true, .bool false, .bool false, .bool false] (0, 0) _ rfl (heap_alloc_new w _) und47 rfl size47) rfl ⟨rfl, Reg.Ext.alloc _ _⟩
 by_cases h4 : k = 4
 ·subst h4
  go_enter Tryz.func70, Tryz.ntmps70
  go_wp2
  exact bodyPost_ret (results_row2 rfl _ _ w.heap.size 114 #[.bool false, .bool true, .bool true, .bool false] (0, 0) _ rfl (heap_alloc_new w _) und47 rfl size47) rfl ⟨rfl, Reg.Ext.alloc _ _⟩
 by_cases h5 : k = 5
 ·subst h5
  go_enter Tryz.func70, Tryz.ntmps70
  go_wp2
  exact bodyPost_ret (results_row2 rfl _ _ w.heap.size 114 #[.bool false, .bool true, .bool false, .bool false] (0, 0) _ rfl (heap_alloc_new w _) und47 rfl size47) rfl ⟨rfl, Reg.Ext.alloc _ _⟩
 by_cases h6 : k = 6
 ·subst h6
  go_enter Tryz.func70, Tryz.ntmps70
  go_wp2
  exact bodyPost_ret (results_row2 rfl _ _ w.heap.size 114 #[.bool false, .bool true, .bool false, .bool false] (0, 0) _ rfl (heap_alloc_new w _) und47 rfl size47) rfl ⟨rfl, Reg.Ext.alloc _ _⟩
 have hf : flds k = ⟨false, false, false, false⟩ := by unfold flds; rw [if_neg h1, if_neg h2, if_neg h3, if_neg h4, if_neg h5, if_neg h6]
 have hk : known k = false := by unfold known; rw [decide_eq_false_iff_not]; omega
 have d1 : (k == 1) = false := by simp [h1]
 have d2 : (k == 2) = false := by simp [h2]
 have d3 : (k == 3) = false := by simp [h3]
 have d4 : (k == 4) = false := by simp [h4]
 have d5 : (k == 5) = false := by simp [h5]
 have d6 : (k == 6) = false := by simp [h6]
 have HV := y_ (show (Value.tuple #[.agg (flds k).cells.toArray, .bool (known k)]) = .tuple #[.agg #[.bool false, .bool false, .bool false, .bool false], .bool false] by rw [hf, hk]; rfl)
 clear hf hk h1 h2 h3 h4 h5 h6
 go_enter Tryz.func70, Tryz.ntmps70
 go_wp2
 exact bodyPost_ret (results_row2 rfl _ _ w.heap.size 114 #[.bool false, .bool false, .bool false, .bool false] (0, 0) _ rfl (heap_alloc_new w _) und47 rfl size47) rfl ⟨by rw [HV.out]; rfl, Reg.Ext.alloc _ _⟩
end Slp
end Go.Proofs.YtafeealbdpmdkaaGreatDoor
/- A slip in memory: its cells, one by one; stores into them. -/
namespace Go.Proofs.YtafeealbdpmdkaaGreatDoor
open Go.RowKit
namespace Slp
def tailS (x : S) : List Value := [.string x.typ, .int .i64 x.size, .int .i64 x.at_]
theorem cells_eq (x : S) : x.cells = [.int .i64 x.k, .string x.repo, .string x.tag] ++ x.dig.map byteV ++ tailS x := rfl
theorem cells_tail (x : S) (hx : x.dig.length = 32) (j : Nat) : x.cells[35 + j]? = (tailS x)[j]? := by
 rw [cells_eq, List.getElem?_append_right (by simp [hx])]
 congr 1
 simp [hx]
theorem at35 (x : S) (hx : x.dig.length = 32) : x.cells[35]? = some (.string x.typ) := cells_tail x hx 0
theorem at36 (x : S) (hx : x.dig.length = 32) : x.cells[36]? = some (.int .i64 x.size) := cells_tail x hx 1
theorem at37 (x : S) (hx : x.dig.length = 32) : x.cells[37]? = some (.int .i64 x.at_) := cells_tail x hx 2
theorem set_tail (x : S) (hx : x.dig.length = 32) (j : Nat) (v : Value) : x.cells.set (35 + j) v = [.int .i64 x.k, .string x.repo, .string x.tag] ++ x.dig.map byteV ++ (tailS x).set j v := by
 rw [cells_eq, List.set_append_right _ _ (by simp [hx])]
 congr 2
 simp [hx]
theorem set35 (x : S) (hx : x.dig.length = 32) (t : ByteArray) : x.cells.set 35 (.string t) = ({ x with typ := t } : S).cells := set_tail x hx 0 _
theorem set36 (x : S) (hx : x.dig.length = 32) (n : Int) : x.cells.set 36 (.int .i64 n) = ({ x with size := n } : S).cells := set_tail x hx 1 _
theorem set37 (x : S) (hx : x.dig.length = 32) (n : Int) : x.cells.set 37 (.int .i64 n) = ({ x with at_ := n } : S).cells := set_tail x hx 2 _
theorem set1 (x : S) (t : ByteArray) : x.cells.set 1 (.string t) = ({ x with repo := t } : S).cells := rfl
theorem set2 (x : S) (t : ByteArray) : x.cells.set 2 (.string t) = ({ x with tag := t } : S).cells := rfl
theorem oneS (x : S) : ∀ v ∈ x.cells, v.oneCell' = true := by
 intro v hv
 rw [cells_eq] at hv
 simp only [List.mem_append, List.mem_cons, List.not_mem_nil, or_false, tailS, List.mem_map] at hv
 rcases hv with ((rfl | rfl | rfl) | ⟨c, _, rfl⟩) | rfl | rfl | rfl <;> rfl
theorem range_dig {w : World} {g : Nat} {T : TypeId} {x : S} (h : Blk w g T x.cells) : w.rangeAt g 3 (x.dig.map byteV) := by
 intro j v hv
 rw [h.cell, cells_eq, List.append_assoc, List.getElem?_append_right (by simp)]
 rw [show 3 + j - [Value.int .i64 x.k, .string x.repo, .string x.tag].length = j by simp]
 rw [List.getElem?_append_left (by exact (List.getElem?_eq_some_iff.1 hv).1)]
 exact hv
theorem there_dig {w : World} {g : Nat} {T : TypeId} {x : S} (h : Blk w g T x.cells) (hx : x.dig.length = 32) : w.there g 3 32 := fun j hj => by
 refine ⟨?_, h.frozen _⟩
 rw [h.cellAt (by rw [cells_length x hx]; omega)]
 rfl
theorem put_dig {w : World} {g : Nat} {T : TypeId} {x : S} (h : Blk w g T x.cells) (m : List UInt8) (hm : m.length = x.dig.length) : Blk (w.setCells g 3 (m.map byteV)) g T ({ x with dig := m } : S).cells :=
 Blk.setCells_ (g := g) (t := T) (m.map byteV) [.int .i64 x.k, .string x.repo, .string x.tag] (x.dig.map byteV) (tailS x) (by simp [hm]) h
theorem z38 : (#[Value.int .i64 0, .string ⟨#[]⟩, .string ⟨#[]⟩, Value.int .u8 0, Value.int .u8 0, Value.int .u8 0, Value.int .u8 0, Value.int .u8 0, Value.int .u8 0, Value.int .u8 0, Value.int .u8 0, Value.int .u8 0, Value.int .u8 0, Value.int .u8 0, Value.int .u8 0, Value.int .u8 0, Value.int .u8 0, Value.int .u8 0, Value.int .u8 0, Value.int .u8 0, Value.int .u8 0, Value.int .u8 0, Value.int .u8 0, Value.int .u8 0, Value.int .u8 0, Value.int .u8 0, Value.int .u8 0, Value.int .u8 0, Value.int .u8 0, Value.int .u8 0, Value.int .u8 0, Value.int .u8 0, Value.int .u8 0, Value.int .u8 0, Value.int .u8 0, .string ⟨#[]⟩, Value.int .i64 0, Value.int .i64 0] : Array Value) = S.none.cells.toArray := by rfl
theorem size38 : (Tryz.prog.info? 39).map (·.size) = some 38 := by kernel_rfl
theorem boxS (w : World) (x : S) : Blk (w.alloc (Obj.cells x.cells.toArray 39)) w.heap.size 39 x.cells := by
 have := Blk.new w 39 x.cells.toArray
 simpa using this
theorem none_dig : S.none.dig.length = 32 := by simp [S.none, zeros]
theorem wpList_val {P : Program} {ops : Array Oper} {rest : List Oper} {o : Oper} {a : Act} {w : World} {Q : Exit → Act → World → Prop} (hgd : o.guard = none) (v : Value)
  (hr : (execOp a.eval o).run P w = .ok (.value v) w) (hk : wpList P ops Q rest (a.put o.dst v) w) : wpList P ops Q (o :: rest) a w :=
 wpList_plain hgd fun K hK => by unfold Oper.wp; rw [hr]; exact hK _ _ hk
end Slp
end Go.Proofs.YtafeealbdpmdkaaGreatDoor
/- The walk of slip.only. -/
namespace Go.Proofs.YtafeealbdpmdkaaGreatDoor
open Go.RowKit
namespace Slp
set_option maxRecDepth 100000 in
set_option maxHeartbeats 4000000 in
theorem only_any (x : S) (f : F) (hx : x.dig.length = 32) (hf : f = ⟨true, true, true, true⟩ ∨ f = ⟨true, false, false, true⟩ ∨ f = ⟨true, false, false, false⟩ ∨ f = ⟨false, true, true, false⟩ ∨ f = ⟨false, true, false, false⟩) (w : World) :
  Calls Tryz.prog 92 #[.agg x.cells.toArray, .agg f.cells.toArray] w fun e w' => e = .returned (.agg (x.only f).cells.toArray) ∧ Reg.Ext w w' := by
 have hb2 := boxS w x
 have hx2 := Reg.Ext.alloc w (Obj.cells x.cells.toArray 39)
 have hs2 : (w.alloc (Obj.cells x.cells.toArray 39)).heap.size = w.heap.size + 1 := Array.size_push _
 go_enter Tryz.func92, Tryz.ntmps92
 go_upto_region 1 with (fail)
 generalize w.alloc (Obj.cells x.cells.toArray 39) = w2 at *
 have hb3 : Blk (w2.alloc (Obj.cells f.cells.toArray 114)) w2.heap.size 114 f.cells := by
  have := Blk.new w2 114 f.cells.toArray
  simpa using this
 have hx3 := Reg.Ext.alloc w2 (Obj.cells f.cells.toArray 114)
 have hs3 : (w2.alloc (Obj.cells f.cells.toArray 114)).heap.size = w2.heap.size + 1 := Array.size_push _
 generalize w2.alloc (Obj.cells f.cells.toArray 114) = w3 at *
 rw [z38]
 have hb4 := boxS w3 S.none
 have hx4 := Reg.Ext.alloc w3 (Obj.cells S.none.cells.toArray 39)
 have hs4 : (w3.alloc (Obj.cells S.none.cells.toArray 39)).heap.size = w3.heap.size + 1 := Array.size_push _
 generalize w3.alloc (Obj.cells S.none.cells.toArray 39) = w4 at *
 rw [hs2] at hb3 hs3
 rw [hs3] at hb4 hs4
 have t0 : w4.cell? ⟨w.heap.size, 0, none⟩ = some (.int .i64 x.k) := ((hb2.ext hx3).ext hx4).cell 0
 refine wp_region_lit ?_
 iterate 6 go_step
 refine wpList_val rfl (.agg ({ S.none with k := x.k } : S).cells.toArray) (by as_aux_lemma => kernel_rfl) ?_
 simp only [z_1, z_2, z_3, z_4, z_5, z_b, z_6, z_7, z_8, z_9, z_0]
 iterate 3 go_step
 rw [z38]
 have hb5 := boxS w4 S.none
 have hx5 := Reg.Ext.alloc w4 (Obj.cells S.none.cells.toArray 39)
 generalize w4.alloc (Obj.cells S.none.cells.toArray 39) = w5 at *
 rw [hs4] at hb5
 have H2 := y_ (((hb2.ext hx3).ext hx4).ext hx5)
 have H3 := y_ ((hb3.ext hx4).ext hx5)
 have H4 := y_ (hb4.ext hx5)
 have X := y_ (((hx2.trans hx3).trans hx4).trans hx5)
 clear hb2 hx2 hs2 hb3 hx3 hs3 hb4 hx4 hs4 hx5 t0
 generalize hg2 : w.heap.size = g2 at *
 generalize hg3 : g2 + 1 = g3 at *
 generalize hg4 : g3 + 1 = g4 at *
 generalize hg5 : g4 + 1 = g5 at *
 have l2 : w.heap.size ≤ g2 := by omega
 have l4 : w.heap.size ≤ g4 := by omega
 have l5 : w.heap.size ≤ g5 := by omega
 have l25 : g2 < g5 := by omega
 have l35 : g3 < g5 := by omega
 have l45 : g4 < g5 := by omega
 clear hg2 hg3 hg4 hg5
 have hyl : ({ S.none with k := x.k } : S).dig.length = 32 := none_dig
 refine wpList_store_mid rfl 39 _ _ rfl g5 0 ((({ S.none with k := x.k } : S)).cells).toArray rfl ?_ (hb5.there _ (by rw [z_a, cells_length _ hyl, cells_length _ none_dig]; exact Nat.le_refl _)) (by rw [z_a, cells_length _ hyl]; exact size38) (all_oneCell_toArray (oneS _)) ?_
 ·rfl
 simp only [z_c]
 simp only [z_1, z_2, z_3, z_4, z_5, z_b, z_6, z_7, z_8, z_9, z_0]
 have HY := y_ (hb5.setAll ({ S.none with k := x.k } : S).cells (by rw [cells_length _ hyl, cells_length _ none_dig]))
 have H2 := y_ (H2.out.but (But.setCells g5 ({ S.none with k := x.k } : S).cells 0 w5) (by omega))
 have H3 := y_ (H3.out.but (But.setCells g5 ({ S.none with k := x.k } : S).cells 0 w5) (by omega))
 have H4 := y_ (H4.out.but (But.setCells g5 ({ S.none with k := x.k } : S).cells 0 w5) (by omega))
 have X := y_ (X.out.trans_but (But.setCells g5 ({ S.none with k := x.k } : S).cells 0 w5) l5)
 generalize w5.setCells g5 0 ({ S.none with k := x.k } : S).cells = w6 at *
 clear hb5 hyl
 have HU : Hid (But g5 w6 w6) := But.refl _ _
 obtain ⟨wi, hwi⟩ : ∃ wi, wi = w6 := ⟨_, rfl⟩
 rw [← hwi]
 rw [← hwi] at HY
 have HU : Hid (But g5 w6 wi) := by rw [hwi]; exact HU
 clear hwi
 rcases hf with rfl | rfl | rfl | rfl | rfl
 ·have HY : Hid (Blk wi g5 39 (((⟨x.k, noStr, noStr, zeros, noStr, 0, 0⟩ : S)).cells)) := HY.out
  have hX := H2.out.but HU.out (by omega)
  have hF := H3.out.but HU.out (by omega)
  have p0 : wi.cell? ⟨g3, 0, none⟩ = some (.bool true) := hF.cell 0
  have p1 : wi.cell? ⟨g3, 1, none⟩ = some (.bool true) := hF.cell 1
  have p2 : wi.cell? ⟨g3, 2, none⟩ = some (.bool true) := hF.cell 2
  have p3 : wi.cell? ⟨g3, 3, none⟩ = some (.bool true) := hF.cell 3
  have q1 : wi.cell? ⟨g2, 1, none⟩ = some (.string x.repo) := hX.cell 1
  have q2 : wi.cell? ⟨g2, 2, none⟩ = some (.string x.tag) := hX.cell 2
  have r1 : wi.cell? ⟨g5, 1, none⟩ = some (.string noStr) := HY.out.cell 1
  have r2 : wi.cell? ⟨g5, 2, none⟩ = some (.string noStr) := HY.out.cell 2
  have f1 := HY.out.frozen 1
  have f2 := HY.out.frozen 2
  have hs := (HY.out.set_ 1 (.string x.repo)).set_ 2 (.string x.tag)
  rw [set1, set2] at hs
  have HS := y_ hs.drew
  have HB := y_ (((HU.out.trans (But.set_ g5 wi 1 (.string x.repo))).trans (But.set_ g5 _ 2 (.string x.tag))).trans (But.of_ext (Reg.Ext.drew _)))
  clear hX hF hs HU HY
  go_wp2_with fail
  go_region
  clear p0 p1 p2 p3 q1 q2 r1 r2 f1 f2
  generalize ((wi.setCell ⟨g5, 1, none⟩ (Value.string x.repo)).setCell ⟨g5, 2, none⟩ (Value.string x.tag)).drew = wi at *
  have HY := HS
  have HU := HB
  clear HS HB
  have HY : Hid (Blk wi g5 39 (((⟨x.k, x.repo, x.tag, zeros, noStr, 0, 0⟩ : S)).cells)) := HY.out
  have hyl : ((⟨x.k, x.repo, x.tag, zeros, noStr, 0, 0⟩ : S)).dig.length = 32 := by first | exact hx | exact none_dig
  have hX := H2.out.but HU.out (by omega)
  have hF := H3.out.but HU.out (by omega)
  have p0 : wi.cell? ⟨g3, 0, none⟩ = some (.bool true) := hF.cell 0
  have p1 : wi.cell? ⟨g3, 1, none⟩ = some (.bool true) := hF.cell 1
  have p2 : wi.cell? ⟨g3, 2, none⟩ = some (.bool true) := hF.cell 2
  have p3 : wi.cell? ⟨g3, 3, none⟩ = some (.bool true) := hF.cell 3
  go_upto_region 5 with (fail)
  refine wp_region_lit ?_
  iterate 3 go_step
  refine wpList_load_mid rfl 37 _ rfl g2 3 rfl (x.dig.map byteV) _ (range_dig hX) Tryz.underlying37 rfl (by rw [List.length_map, hx]; kernel_rfl) ?_
  simp only [z_1, z_2, z_3, z_4, z_5, z_b, z_6, z_7, z_8, z_9, z_0]
  iterate 3 go_step
  have hyo := HY.out
  refine wpList_store_mid rfl 37 _ _ rfl g5 3 (x.dig.map byteV).toArray rfl rfl (by rw [z_a, List.length_map, hx]; exact there_dig hyo hyl) (by rw [z_a, List.length_map, hx]; kernel_rfl) (all_oneCell_toArray fun v hv => by
   obtain ⟨c, _, rfl⟩ := List.mem_map.1 hv
   rfl) ?_
  simp only [z_c]
  simp only [z_1, z_2, z_3, z_4, z_5, z_b, z_6, z_7, z_8, z_9, z_0]
  have HYn := y_ (put_dig hyo x.dig (hx.trans hyl.symm))
  have HUn := y_ (HU.out.trans (But.setCells g5 (x.dig.map byteV) 3 wi))
  clear hX hF hyl hyo HU HY p0 p1 p2 p3
  generalize wi.setCells g5 3 (x.dig.map byteV) = wi at *
  have HY := HYn
  have HU := HUn
  clear HYn HUn
  have HY : Hid (Blk wi g5 39 (((⟨x.k, x.repo, x.tag, x.dig, noStr, 0, 0⟩ : S)).cells)) := HY.out
  have hyl : ((⟨x.k, x.repo, x.tag, x.dig, noStr, 0, 0⟩ : S)).dig.length = 32 := by first | exact hx | exact none_dig
  have hX := H2.out.but HU.out (by omega)
  have hF := H3.out.but HU.out (by omega)
  have p0 : wi.cell? ⟨g3, 0, none⟩ = some (.bool true) := hF.cell 0
  have p1 : wi.cell? ⟨g3, 1, none⟩ = some (.bool true) := hF.cell 1
  have p2 : wi.cell? ⟨g3, 2, none⟩ = some (.bool true) := hF.cell 2
  have p3 : wi.cell? ⟨g3, 3, none⟩ = some (.bool true) := hF.cell 3
  have q1 : wi.cell? ⟨g2, 35, none⟩ = some (.string x.typ) := by rw [hX.cell, at35 x hx]
  have q2 : wi.cell? ⟨g2, 36, none⟩ = some (.int .i64 x.size) := by rw [hX.cell, at36 x hx]
  have r1 : wi.cell? ⟨g5, 35, none⟩ = some (.string noStr) := by rw [HY.out.cell, at35 ((⟨x.k, x.repo, x.tag, x.dig, noStr, 0, 0⟩ : S)) hyl]
  have r2 : wi.cell? ⟨g5, 36, none⟩ = some (.int .i64 0) := by rw [HY.out.cell, at36 ((⟨x.k, x.repo, x.tag, x.dig, noStr, 0, 0⟩ : S)) hyl]
  have f1 := HY.out.frozen 35
  have f2 := HY.out.frozen 36
  have hs0 := HY.out.set_ 35 (.string x.typ)
  rw [set35 ((⟨x.k, x.repo, x.tag, x.dig, noStr, 0, 0⟩ : S)) hyl] at hs0
  have hs := hs0.set_ 36 (.int .i64 x.size)
  rw [set36 ({ ((⟨x.k, x.repo, x.tag, x.dig, noStr, 0, 0⟩ : S)) with typ := x.typ } : S) hyl] at hs
  clear hs0 hyl
  have HS := y_ hs.drew
  have HB := y_ (((HU.out.trans (But.set_ g5 wi 35 (.string x.typ))).trans (But.set_ g5 _ 36 (.int .i64 x.size))).trans (But.of_ext (Reg.Ext.drew _)))
  clear hX hF hs HU HY
  go_wp2_with fail
  go_region
  clear p0 p1 p2 p3 q1 q2 r1 r2 f1 f2
  generalize ((wi.setCell ⟨g5, 35, none⟩ (Value.string x.typ)).setCell ⟨g5, 36, none⟩ (Value.int .i64 x.size)).drew = wi at *
  have HY := HS
  have HU := HB
  clear HS HB
  have HY : Hid (Blk wi g5 39 (((⟨x.k, x.repo, x.tag, x.dig, x.typ, x.size, 0⟩ : S)).cells)) := HY.out
  have hyl : ((⟨x.k, x.repo, x.tag, x.dig, x.typ, x.size, 0⟩ : S)).dig.length = 32 := by first | exact hx | exact none_dig
  have hX := H2.out.but HU.out (by omega)
  have hF := H3.out.but HU.out (by omega)
  have p0 : wi.cell? ⟨g3, 0, none⟩ = some (.bool true) := hF.cell 0
  have p1 : wi.cell? ⟨g3, 1, none⟩ = some (.bool true) := hF.cell 1
  have p2 : wi.cell? ⟨g3, 2, none⟩ = some (.bool true) := hF.cell 2
  have p3 : wi.cell? ⟨g3, 3, none⟩ = some (.bool true) := hF.cell 3
  have q1 : wi.cell? ⟨g2, 37, none⟩ = some (.int .i64 x.at_) := by rw [hX.cell, at37 x hx]
  have r1 : wi.cell? ⟨g5, 37, none⟩ = some (.int .i64 0) := by rw [HY.out.cell, at37 ((⟨x.k, x.repo, x.tag, x.dig, x.typ, x.size, 0⟩ : S)) hyl]
  have f1 := HY.out.frozen 37
  have hs := HY.out.set_ 37 (.int .i64 x.at_)
  rw [set37 ((⟨x.k, x.repo, x.tag, x.dig, x.typ, x.size, 0⟩ : S)) hyl] at hs
  clear hyl
  have HS := y_ hs
  have HB := y_ (HU.out.trans (But.set_ g5 wi 37 (.int .i64 x.at_)))
  clear hX hF hs HU HY
  go_upto_region 10 with (fail)
  clear p0 p1 p2 p3 q1 r1 f1
  generalize wi.setCell ⟨g5, 37, none⟩ (Value.int .i64 x.at_) = wi at *
  have HY := HS
  have HU := HB
  clear HS HB
  have hyo : Blk wi g5 39 (((⟨x.k, x.repo, x.tag, x.dig, x.typ, x.size, x.at_⟩ : S)).cells) := HY.out
  have h4 := H4.out.but HU.out (by omega)
  have XX := X.out.trans_but HU.out l5
  have hyl : ((⟨x.k, x.repo, x.tag, x.dig, x.typ, x.size, x.at_⟩ : S)).dig.length = 32 := by first | exact hx | exact none_dig
  refine wp_region_lit ?_
  refine wpList_load_row rfl 39 _ rfl g5 rfl 39 (((⟨x.k, x.repo, x.tag, x.dig, x.typ, x.size, x.at_⟩ : S)).cells).toArray (0, 0) _ hyo Tryz.underlying39 rfl (by rw [z_a, cells_length ((⟨x.k, x.repo, x.tag, x.dig, x.typ, x.size, x.at_⟩ : S)) hyl]; exact size38) ?_
  simp only [z_1, z_2, z_3, z_4, z_5, z_b, z_6, z_7, z_8, z_9, z_0]
  refine wpList_store_mid rfl 39 _ _ rfl g4 0 (((⟨x.k, x.repo, x.tag, x.dig, x.typ, x.size, x.at_⟩ : S)).cells).toArray rfl rfl (h4.there _ (by rw [z_a, cells_length ((⟨x.k, x.repo, x.tag, x.dig, x.typ, x.size, x.at_⟩ : S)) hyl, cells_length _ none_dig]; exact Nat.le_refl _)) (by rw [z_a, cells_length ((⟨x.k, x.repo, x.tag, x.dig, x.typ, x.size, x.at_⟩ : S)) hyl]; exact size38) (all_oneCell_toArray (oneS _)) ?_
  simp only [z_c]
  simp only [z_1, z_2, z_3, z_4, z_5, z_b, z_6, z_7, z_8, z_9, z_0]
  have HN := y_ (h4.setAll (((⟨x.k, x.repo, x.tag, x.dig, x.typ, x.size, x.at_⟩ : S)).cells) (by rw [cells_length ((⟨x.k, x.repo, x.tag, x.dig, x.typ, x.size, x.at_⟩ : S)) hyl, cells_length _ none_dig]))
  have XN := y_ (XX.trans_but (But.setCells g4 (((⟨x.k, x.repo, x.tag, x.dig, x.typ, x.size, x.at_⟩ : S)).cells) 0 wi) l4)
  generalize wi.setCells g4 0 (((⟨x.k, x.repo, x.tag, x.dig, x.typ, x.size, x.at_⟩ : S)).cells) = wn at *
  clear hyo h4 XX
  go_wp2_with fail
  exact bodyPost_ret (results_cell_row rfl _ _ g4 39 (((⟨x.k, x.repo, x.tag, x.dig, x.typ, x.size, x.at_⟩ : S)).cells).toArray (0, 0) _ rfl HN.out Tryz.underlying39 rfl (by rw [z_a, cells_length ((⟨x.k, x.repo, x.tag, x.dig, x.typ, x.size, x.at_⟩ : S)) hyl]; exact size38)) rfl ⟨rfl, XN.out⟩
 ·have HY : Hid (Blk wi g5 39 (((⟨x.k, noStr, noStr, zeros, noStr, 0, 0⟩ : S)).cells)) := HY.out
  have hX := H2.out.but HU.out (by omega)
  have hF := H3.out.but HU.out (by omega)
  have p0 : wi.cell? ⟨g3, 0, none⟩ = some (.bool true) := hF.cell 0
  have p1 : wi.cell? ⟨g3, 1, none⟩ = some (.bool false) := hF.cell 1
  have p2 : wi.cell? ⟨g3, 2, none⟩ = some (.bool false) := hF.cell 2
  have p3 : wi.cell? ⟨g3, 3, none⟩ = some (.bool true) := hF.cell 3
  have q1 : wi.cell? ⟨g2, 1, none⟩ = some (.string x.repo) := hX.cell 1
  have q2 : wi.cell? ⟨g2, 2, none⟩ = some (.string x.tag) := hX.cell 2
  have r1 : wi.cell? ⟨g5, 1, none⟩ = some (.string noStr) := HY.out.cell 1
  have r2 : wi.cell? ⟨g5, 2, none⟩ = some (.string noStr) := HY.out.cell 2
  have f1 := HY.out.frozen 1
  have f2 := HY.out.frozen 2
  have hs := (HY.out.set_ 1 (.string x.repo)).set_ 2 (.string x.tag)
  rw [set1, set2] at hs
  have HS := y_ hs.drew
  have HB := y_ (((HU.out.trans (But.set_ g5 wi 1 (.string x.repo))).trans (But.set_ g5 _ 2 (.string x.tag))).trans (But.of_ext (Reg.Ext.drew _)))
  clear hX hF hs HU HY
  go_wp2_with fail
  go_region
  clear p0 p1 p2 p3 q1 q2 r1 r2 f1 f2
  generalize ((wi.setCell ⟨g5, 1, none⟩ (Value.string x.repo)).setCell ⟨g5, 2, none⟩ (Value.string x.tag)).drew = wi at *
  have HY := HS
  have HU := HB
  clear HS HB
  have HY : Hid (Blk wi g5 39 (((⟨x.k, x.repo, x.tag, zeros, noStr, 0, 0⟩ : S)).cells)) := HY.out
  have hyl : ((⟨x.k, x.repo, x.tag, zeros, noStr, 0, 0⟩ : S)).dig.length = 32 := by first | exact hx | exact none_dig
  have hX := H2.out.but HU.out (by omega)
  have hF := H3.out.but HU.out (by omega)
  have p0 : wi.cell? ⟨g3, 0, none⟩ = some (.bool true) := hF.cell 0
  have p1 : wi.cell? ⟨g3, 1, none⟩ = some (.bool false) := hF.cell 1
  have p2 : wi.cell? ⟨g3, 2, none⟩ = some (.bool false) := hF.cell 2
  have p3 : wi.cell? ⟨g3, 3, none⟩ = some (.bool true) := hF.cell 3
  have q1 : wi.cell? ⟨g2, 37, none⟩ = some (.int .i64 x.at_) := by rw [hX.cell, at37 x hx]
  have r1 : wi.cell? ⟨g5, 37, none⟩ = some (.int .i64 0) := by rw [HY.out.cell, at37 ((⟨x.k, x.repo, x.tag, zeros, noStr, 0, 0⟩ : S)) hyl]
  have f1 := HY.out.frozen 37
  have hs := HY.out.set_ 37 (.int .i64 x.at_)
  rw [set37 ((⟨x.k, x.repo, x.tag, zeros, noStr, 0, 0⟩ : S)) hyl] at hs
  clear hyl
  have HS := y_ hs
  have HB := y_ (HU.out.trans (But.set_ g5 wi 37 (.int .i64 x.at_)))
  clear hX hF hs HU HY
  go_upto_region 10 with (fail)
  clear p0 p1 p2 p3 q1 r1 f1
  generalize wi.setCell ⟨g5, 37, none⟩ (Value.int .i64 x.at_) = wi at *
  have HY := HS
  have HU := HB
  clear HS HB
  have hyo : Blk wi g5 39 (((⟨x.k, x.repo, x.tag, zeros, noStr, 0, x.at_⟩ : S)).cells) := HY.out
  have h4 := H4.out.but HU.out (by omega)
  have XX := X.out.trans_but HU.out l5
  have hyl : ((⟨x.k, x.repo, x.tag, zeros, noStr, 0, x.at_⟩ : S)).dig.length = 32 := by first | exact hx | exact none_dig
  refine wp_region_lit ?_
  refine wpList_load_row rfl 39 _ rfl g5 rfl 39 (((⟨x.k, x.repo, x.tag, zeros, noStr, 0, x.at_⟩ : S)).cells).toArray (0, 0) _ hyo Tryz.underlying39 rfl (by rw [z_a, cells_length ((⟨x.k, x.repo, x.tag, zeros, noStr, 0, x.at_⟩ : S)) hyl]; exact size38) ?_
  simp only [z_1, z_2, z_3, z_4, z_5, z_b, z_6, z_7, z_8, z_9, z_0]
  refine wpList_store_mid rfl 39 _ _ rfl g4 0 (((⟨x.k, x.repo, x.tag, zeros, noStr, 0, x.at_⟩ : S)).cells).toArray rfl rfl (h4.there _ (by rw [z_a, cells_length ((⟨x.k, x.repo, x.tag, zeros, noStr, 0, x.at_⟩ : S)) hyl, cells_length _ none_dig]; exact Nat.le_refl _)) (by rw [z_a, cells_length ((⟨x.k, x.repo, x.tag, zeros, noStr, 0, x.at_⟩ : S)) hyl]; exact size38) (all_oneCell_toArray (oneS _)) ?_
  simp only [z_c]
  simp only [z_1, z_2, z_3, z_4, z_5, z_b, z_6, z_7, z_8, z_9, z_0]
  have HN := y_ (h4.setAll (((⟨x.k, x.repo, x.tag, zeros, noStr, 0, x.at_⟩ : S)).cells) (by rw [cells_length ((⟨x.k, x.repo, x.tag, zeros, noStr, 0, x.at_⟩ : S)) hyl, cells_length _ none_dig]))
  have XN := y_ (XX.trans_but (But.setCells g4 (((⟨x.k, x.repo, x.tag, zeros, noStr, 0, x.at_⟩ : S)).cells) 0 wi) l4)
  generalize wi.setCells g4 0 (((⟨x.k, x.repo, x.tag, zeros, noStr, 0, x.at_⟩ : S)).cells) = wn at *
  clear hyo h4 XX
  go_wp2_with fail
  exact bodyPost_ret (results_cell_row rfl _ _ g4 39 (((⟨x.k, x.repo, x.tag, zeros, noStr, 0, x.at_⟩ : S)).cells).toArray (0, 0) _ rfl HN.out Tryz.underlying39 rfl (by rw [z_a, cells_length ((⟨x.k, x.repo, x.tag, zeros, noStr, 0, x.at_⟩ : S)) hyl]; exact size38)) rfl ⟨rfl, XN.out⟩
 ·have HY : Hid (Blk wi g5 39 (((⟨x.k, noStr, noStr, zeros, noStr, 0, 0⟩ : S)).cells)) := HY.out
  have hX := H2.out.but HU.out (by omega)
  have hF := H3.out.but HU.out (by omega)
  have p0 : wi.cell? ⟨g3, 0, none⟩ = some (.bool true) := hF.cell 0
  have p1 : wi.cell? ⟨g3, 1, none⟩ = some (.bool false) := hF.cell 1
  have p2 : wi.cell? ⟨g3, 2, none⟩ = some (.bool false) := hF.cell 2
  have p3 : wi.cell? ⟨g3, 3, none⟩ = some (.bool false) := hF.cell 3
  have q1 : wi.cell? ⟨g2, 1, none⟩ = some (.string x.repo) := hX.cell 1
  have q2 : wi.cell? ⟨g2, 2, none⟩ = some (.string x.tag) := hX.cell 2
  have r1 : wi.cell? ⟨g5, 1, none⟩ = some (.string noStr) := HY.out.cell 1
  have r2 : wi.cell? ⟨g5, 2, none⟩ = some (.string noStr) := HY.out.cell 2
  have f1 := HY.out.frozen 1
  have f2 := HY.out.frozen 2
  have hs := (HY.out.set_ 1 (.string x.repo)).set_ 2 (.string x.tag)
  rw [set1, set2] at hs
  have HS := y_ hs.drew
  have HB := y_ (((HU.out.trans (But.set_ g5 wi 1 (.string x.repo))).trans (But.set_ g5 _ 2 (.string x.tag))).trans (But.of_ext (Reg.Ext.drew _)))
  clear hX hF hs HU HY
  go_wp2_with fail
  go_region
  clear p0 p1 p2 p3 q1 q2 r1 r2 f1 f2
  generalize ((wi.setCell ⟨g5, 1, none⟩ (Value.string x.repo)).setCell ⟨g5, 2, none⟩ (Value.string x.tag)).drew = wi at *
  have HY := HS
  have HU := HB
  clear HS HB
  have hX := H2.out.but HU.out (by omega)
  have hF := H3.out.but HU.out (by omega)
  have p0 : wi.cell? ⟨g3, 0, none⟩ = some (.bool true) := hF.cell 0
  have p1 : wi.cell? ⟨g3, 1, none⟩ = some (.bool false) := hF.cell 1
  have p2 : wi.cell? ⟨g3, 2, none⟩ = some (.bool false) := hF.cell 2
  have p3 : wi.cell? ⟨g3, 3, none⟩ = some (.bool false) := hF.cell 3
  clear hX hF
  go_upto_region 10 with (fail)
  clear p0 p1 p2 p3
  have hyo : Blk wi g5 39 (((⟨x.k, x.repo, x.tag, zeros, noStr, 0, 0⟩ : S)).cells) := HY.out
  have h4 := H4.out.but HU.out (by omega)
  have XX := X.out.trans_but HU.out l5
  have hyl : ((⟨x.k, x.repo, x.tag, zeros, noStr, 0, 0⟩ : S)).dig.length = 32 := by first | exact hx | exact none_dig
  refine wp_region_lit ?_
  refine wpList_load_row rfl 39 _ rfl g5 rfl 39 (((⟨x.k, x.repo, x.tag, zeros, noStr, 0, 0⟩ : S)).cells).toArray (0, 0) _ hyo Tryz.underlying39 rfl (by rw [z_a, cells_length ((⟨x.k, x.repo, x.tag, zeros, noStr, 0, 0⟩ : S)) hyl]; exact size38) ?_
  simp only [z_1, z_2, z_3, z_4, z_5, z_b, z_6, z_7, z_8, z_9, z_0]
  refine wpList_store_mid rfl 39 _ _ rfl g4 0 (((⟨x.k, x.repo, x.tag, zeros, noStr, 0, 0⟩ : S)).cells).toArray rfl rfl (h4.there _ (by rw [z_a, cells_length ((⟨x.k, x.repo, x.tag, zeros, noStr, 0, 0⟩ : S)) hyl, cells_length _ none_dig]; exact Nat.le_refl _)) (by rw [z_a, cells_length ((⟨x.k, x.repo, x.tag, zeros, noStr, 0, 0⟩ : S)) hyl]; exact size38) (all_oneCell_toArray (oneS _)) ?_
  simp only [z_c]
  simp only [z_1, z_2, z_3, z_4, z_5, z_b, z_6, z_7, z_8, z_9, z_0]
  have HN := y_ (h4.setAll (((⟨x.k, x.repo, x.tag, zeros, noStr, 0, 0⟩ : S)).cells) (by rw [cells_length ((⟨x.k, x.repo, x.tag, zeros, noStr, 0, 0⟩ : S)) hyl, cells_length _ none_dig]))
  have XN := y_ (XX.trans_but (But.setCells g4 (((⟨x.k, x.repo, x.tag, zeros, noStr, 0, 0⟩ : S)).cells) 0 wi) l4)
  generalize wi.setCells g4 0 (((⟨x.k, x.repo, x.tag, zeros, noStr, 0, 0⟩ : S)).cells) = wn at *
  clear hyo h4 XX
  go_wp2_with fail
  exact bodyPost_ret (results_cell_row rfl _ _ g4 39 (((⟨x.k, x.repo, x.tag, zeros, noStr, 0, 0⟩ : S)).cells).toArray (0, 0) _ rfl HN.out Tryz.underlying39 rfl (by rw [z_a, cells_length ((⟨x.k, x.repo, x.tag, zeros, noStr, 0, 0⟩ : S)) hyl]; exact size38)) rfl ⟨rfl, XN.out⟩
 ·have HY : Hid (Blk wi g5 39 (((⟨x.k, noStr, noStr, zeros, noStr, 0, 0⟩ : S)).cells)) := HY.out
  have hyl : ((⟨x.k, noStr, noStr, zeros, noStr, 0, 0⟩ : S)).dig.length = 32 := by first | exact hx | exact none_dig
  have hX := H2.out.but HU.out (by omega)
  have hF := H3.out.but HU.out (by omega)
  have p0 : wi.cell? ⟨g3, 0, none⟩ = some (.bool false) := hF.cell 0
  have p1 : wi.cell? ⟨g3, 1, none⟩ = some (.bool true) := hF.cell 1
  have p2 : wi.cell? ⟨g3, 2, none⟩ = some (.bool true) := hF.cell 2
  have p3 : wi.cell? ⟨g3, 3, none⟩ = some (.bool false) := hF.cell 3
  go_upto_region 5 with (fail)
  refine wp_region_lit ?_
  iterate 3 go_step
  refine wpList_load_mid rfl 37 _ rfl g2 3 rfl (x.dig.map byteV) _ (range_dig hX) Tryz.underlying37 rfl (by rw [List.length_map, hx]; kernel_rfl) ?_
  simp only [z_1, z_2, z_3, z_4, z_5, z_b, z_6, z_7, z_8, z_9, z_0]
  iterate 3 go_step
  have hyo := HY.out
  refine wpList_store_mid rfl 37 _ _ rfl g5 3 (x.dig.map byteV).toArray rfl rfl (by rw [z_a, List.length_map, hx]; exact there_dig hyo hyl) (by rw [z_a, List.length_map, hx]; kernel_rfl) (all_oneCell_toArray fun v hv => by
   obtain ⟨c, _, rfl⟩ := List.mem_map.1 hv
   rfl) ?_
  simp only [z_c]
  simp only [z_1, z_2, z_3, z_4, z_5, z_b, z_6, z_7, z_8, z_9, z_0]
  have HYn := y_ (put_dig hyo x.dig (hx.trans hyl.symm))
  have HUn := y_ (HU.out.trans (But.setCells g5 (x.dig.map byteV) 3 wi))
  clear hX hF hyl hyo HU HY p0 p1 p2 p3
  generalize wi.setCells g5 3 (x.dig.map byteV) = wi at *
  have HY := HYn
  have HU := HUn
  clear HYn HUn
  have HY : Hid (Blk wi g5 39 (((⟨x.k, noStr, noStr, x.dig, noStr, 0, 0⟩ : S)).cells)) := HY.out
  have hyl : ((⟨x.k, noStr, noStr, x.dig, noStr, 0, 0⟩ : S)).dig.length = 32 := by first | exact hx | exact none_dig
  have hX := H2.out.but HU.out (by omega)
  have hF := H3.out.but HU.out (by omega)
  have p0 : wi.cell? ⟨g3, 0, none⟩ = some (.bool false) := hF.cell 0
  have p1 : wi.cell? ⟨g3, 1, none⟩ = some (.bool true) := hF.cell 1
  have p2 : wi.cell? ⟨g3, 2, none⟩ = some (.bool true) := hF.cell 2
  have p3 : wi.cell? ⟨g3, 3, none⟩ = some (.bool false) := hF.cell 3
  have q1 : wi.cell? ⟨g2, 35, none⟩ = some (.string x.typ) := by rw [hX.cell, at35 x hx]
  have q2 : wi.cell? ⟨g2, 36, none⟩ = some (.int .i64 x.size) := by rw [hX.cell, at36 x hx]
  have r1 : wi.cell? ⟨g5, 35, none⟩ = some (.string noStr) := by rw [HY.out.cell, at35 ((⟨x.k, noStr, noStr, x.dig, noStr, 0, 0⟩ : S)) hyl]
  have r2 : wi.cell? ⟨g5, 36, none⟩ = some (.int .i64 0) := by rw [HY.out.cell, at36 ((⟨x.k, noStr, noStr, x.dig, noStr, 0, 0⟩ : S)) hyl]
  have f1 := HY.out.frozen 35
  have f2 := HY.out.frozen 36
  have hs0 := HY.out.set_ 35 (.string x.typ)
  rw [set35 ((⟨x.k, noStr, noStr, x.dig, noStr, 0, 0⟩ : S)) hyl] at hs0
  have hs := hs0.set_ 36 (.int .i64 x.size)
  rw [set36 ({ ((⟨x.k, noStr, noStr, x.dig, noStr, 0, 0⟩ : S)) with typ := x.typ } : S) hyl] at hs
  clear hs0 hyl
  have HS := y_ hs.drew
  have HB := y_ (((HU.out.trans (But.set_ g5 wi 35 (.string x.typ))).trans (But.set_ g5 _ 36 (.int .i64 x.size))).trans (But.of_ext (Reg.Ext.drew _)))
  clear hX hF hs HU HY
  go_wp2_with fail
  go_region
  clear p0 p1 p2 p3 q1 q2 r1 r2 f1 f2
  generalize ((wi.setCell ⟨g5, 35, none⟩ (Value.string x.typ)).setCell ⟨g5, 36, none⟩ (Value.int .i64 x.size)).drew = wi at *
  have HY := HS
  have HU := HB
  clear HS HB
  have hX := H2.out.but HU.out (by omega)
  have hF := H3.out.but HU.out (by omega)
  have p0 : wi.cell? ⟨g3, 0, none⟩ = some (.bool false) := hF.cell 0
  have p1 : wi.cell? ⟨g3, 1, none⟩ = some (.bool true) := hF.cell 1
  have p2 : wi.cell? ⟨g3, 2, none⟩ = some (.bool true) := hF.cell 2
  have p3 : wi.cell? ⟨g3, 3, none⟩ = some (.bool false) := hF.cell 3
  clear hX hF
  go_upto_region 10 with (fail)
  clear p0 p1 p2 p3
  have hyo : Blk wi g5 39 (((⟨x.k, noStr, noStr, x.dig, x.typ, x.size, 0⟩ : S)).cells) := HY.out
  have h4 := H4.out.but HU.out (by omega)
  have XX := X.out.trans_but HU.out l5
  have hyl : ((⟨x.k, noStr, noStr, x.dig, x.typ, x.size, 0⟩ : S)).dig.length = 32 := by first | exact hx | exact none_dig
  refine wp_region_lit ?_
  refine wpList_load_row rfl 39 _ rfl g5 rfl 39 (((⟨x.k, noStr, noStr, x.dig, x.typ, x.size, 0⟩ : S)).cells).toArray (0, 0) _ hyo Tryz.underlying39 rfl (by rw [z_a, cells_length ((⟨x.k, noStr, noStr, x.dig, x.typ, x.size, 0⟩ : S)) hyl]; exact size38) ?_
  simp only [z_1, z_2, z_3, z_4, z_5, z_b, z_6, z_7, z_8, z_9, z_0]
  refine wpList_store_mid rfl 39 _ _ rfl g4 0 (((⟨x.k, noStr, noStr, x.dig, x.typ, x.size, 0⟩ : S)).cells).toArray rfl rfl (h4.there _ (by rw [z_a, cells_length ((⟨x.k, noStr, noStr, x.dig, x.typ, x.size, 0⟩ : S)) hyl, cells_length _ none_dig]; exact Nat.le_refl _)) (by rw [z_a, cells_length ((⟨x.k, noStr, noStr, x.dig, x.typ, x.size, 0⟩ : S)) hyl]; exact size38) (all_oneCell_toArray (oneS _)) ?_
  simp only [z_c]
  simp only [z_1, z_2, z_3, z_4, z_5, z_b, z_6, z_7, z_8, z_9, z_0]
  have HN := y_ (h4.setAll (((⟨x.k, noStr, noStr, x.dig, x.typ, x.size, 0⟩ : S)).cells) (by rw [cells_length ((⟨x.k, noStr, noStr, x.dig, x.typ, x.size, 0⟩ : S)) hyl, cells_length _ none_dig]))
  have XN := y_ (XX.trans_but (But.setCells g4 (((⟨x.k, noStr, noStr, x.dig, x.typ, x.size, 0⟩ : S)).cells) 0 wi) l4)
  generalize wi.setCells g4 0 (((⟨x.k, noStr, noStr, x.dig, x.typ, x.size, 0⟩ : S)).cells) = wn at *
  clear hyo h4 XX
  go_wp2_with fail
  exact bodyPost_ret (results_cell_row rfl _ _ g4 39 (((⟨x.k, noStr, noStr, x.dig, x.typ, x.size, 0⟩ : S)).cells).toArray (0, 0) _ rfl HN.out Tryz.underlying39 rfl (by rw [z_a, cells_length ((⟨x.k, noStr, noStr, x.dig, x.typ, x.size, 0⟩ : S)) hyl]; exact size38)) rfl ⟨rfl, XN.out⟩
 ·have HY : Hid (Blk wi g5 39 (((⟨x.k, noStr, noStr, zeros, noStr, 0, 0⟩ : S)).cells)) := HY.out
  have hyl : ((⟨x.k, noStr, noStr, zeros, noStr, 0, 0⟩ : S)).dig.length = 32 := by first | exact hx | exact none_dig
  have hX := H2.out.but HU.out (by omega)
  have hF := H3.out.but HU.out (by omega)
  have p0 : wi.cell? ⟨g3, 0, none⟩ = some (.bool false) := hF.cell 0
  have p1 : wi.cell? ⟨g3, 1, none⟩ = some (.bool true) := hF.cell 1
  have p2 : wi.cell? ⟨g3, 2, none⟩ = some (.bool false) := hF.cell 2
  have p3 : wi.cell? ⟨g3, 3, none⟩ = some (.bool false) := hF.cell 3
  go_upto_region 5 with (fail)
  refine wp_region_lit ?_
  iterate 3 go_step
  refine wpList_load_mid rfl 37 _ rfl g2 3 rfl (x.dig.map byteV) _ (range_dig hX) Tryz.underlying37 rfl (by rw [List.length_map, hx]; kernel_rfl) ?_
  simp only [z_1, z_2, z_3, z_4, z_5, z_b, z_6, z_7, z_8, z_9, z_0]
  iterate 3 go_step
  have hyo := HY.out
  refine wpList_store_mid rfl 37 _ _ rfl g5 3 (x.dig.map byteV).toArray rfl rfl (by rw [z_a, List.length_map, hx]; exact there_dig hyo hyl) (by rw [z_a, List.length_map, hx]; kernel_rfl) (all_oneCell_toArray fun v hv => by
   obtain ⟨c, _, rfl⟩ := List.mem_map.1 hv
   rfl) ?_
  simp only [z_c]
  simp only [z_1, z_2, z_3, z_4, z_5, z_b, z_6, z_7, z_8, z_9, z_0]
  have HYn := y_ (put_dig hyo x.dig (hx.trans hyl.symm))
  have HUn := y_ (HU.out.trans (But.setCells g5 (x.dig.map byteV) 3 wi))
  clear hX hF hyl hyo HU HY p0 p1 p2 p3
  generalize wi.setCells g5 3 (x.dig.map byteV) = wi at *
  have HY := HYn
  have HU := HUn
  clear HYn HUn
  have hX := H2.out.but HU.out (by omega)
  have hF := H3.out.but HU.out (by omega)
  have p0 : wi.cell? ⟨g3, 0, none⟩ = some (.bool false) := hF.cell 0
  have p1 : wi.cell? ⟨g3, 1, none⟩ = some (.bool true) := hF.cell 1
  have p2 : wi.cell? ⟨g3, 2, none⟩ = some (.bool false) := hF.cell 2
  have p3 : wi.cell? ⟨g3, 3, none⟩ = some (.bool false) := hF.cell 3
  clear hX hF
  go_upto_region 10 with (fail)
  clear p0 p1 p2 p3
  have hyo : Blk wi g5 39 (((⟨x.k, noStr, noStr, x.dig, noStr, 0, 0⟩ : S)).cells) := HY.out
  have h4 := H4.out.but HU.out (by omega)
  have XX := X.out.trans_but HU.out l5
  have hyl : ((⟨x.k, noStr, noStr, x.dig, noStr, 0, 0⟩ : S)).dig.length = 32 := by first | exact hx | exact none_dig
  refine wp_region_lit ?_
  refine wpList_load_row rfl 39 _ rfl g5 rfl 39 (((⟨x.k, noStr, noStr, x.dig, noStr, 0, 0⟩ : S)).cells).toArray (0, 0) _ hyo Tryz.underlying39 rfl (by rw [z_a, cells_length ((⟨x.k, noStr, noStr, x.dig, noStr, 0, 0⟩ : S)) hyl]; exact size38) ?_
  simp only [z_1, z_2, z_3, z_4, z_5, z_b, z_6, z_7, z_8, z_9, z_0]
  refine wpList_store_mid rfl 39 _ _ rfl g4 0 (((⟨x.k, noStr, noStr, x.dig, noStr, 0, 0⟩ : S)).cells).toArray rfl rfl (h4.there _ (by rw [z_a, cells_length ((⟨x.k, noStr, noStr, x.dig, noStr, 0, 0⟩ : S)) hyl, cells_length _ none_dig]; exact Nat.le_refl _)) (by rw [z_a, cells_length ((⟨x.k, noStr, noStr, x.dig, noStr, 0, 0⟩ : S)) hyl]; exact size38) (all_oneCell_toArray (oneS _)) ?_
  simp only [z_c]
  simp only [z_1, z_2, z_3, z_4, z_5, z_b, z_6, z_7, z_8, z_9, z_0]
  have HN := y_ (h4.setAll (((⟨x.k, noStr, noStr, x.dig, noStr, 0, 0⟩ : S)).cells) (by rw [cells_length ((⟨x.k, noStr, noStr, x.dig, noStr, 0, 0⟩ : S)) hyl, cells_length _ none_dig]))
  have XN := y_ (XX.trans_but (But.setCells g4 (((⟨x.k, noStr, noStr, x.dig, noStr, 0, 0⟩ : S)).cells) 0 wi) l4)
  generalize wi.setCells g4 0 (((⟨x.k, noStr, noStr, x.dig, noStr, 0, 0⟩ : S)).cells) = wn at *
  clear hyo h4 XX
  go_wp2_with fail
  exact bodyPost_ret (results_cell_row rfl _ _ g4 39 (((⟨x.k, noStr, noStr, x.dig, noStr, 0, 0⟩ : S)).cells).toArray (0, 0) _ rfl HN.out Tryz.underlying39 rfl (by rw [z_a, cells_length ((⟨x.k, noStr, noStr, x.dig, noStr, 0, 0⟩ : S)) hyl]; exact size38)) rfl ⟨rfl, XN.out⟩
end Slp
end Go.Proofs.YtafeealbdpmdkaaGreatDoor
/- The walk of slip.Good. -/
namespace Go.Proofs.YtafeealbdpmdkaaGreatDoor
open Go.RowKit
namespace Slp
def names128 (x : S) : Bool := decide (1 ≤ x.repo.size ∧ x.repo.size ≤ 128) && decide (1 ≤ x.tag.size ∧ x.tag.size ≤ 128)
def bounds (x : S) : Bool := decide (x.typ.size ≤ 100) && (decide (0 ≤ x.size ∧ x.size ≤ 1048576) && decide (0 ≤ x.at_ ∧ x.at_ ≤ 1099511627776))
def good (x : S) : Bool := known x.k && (x.same (x.only (flds x.k)) && ((!(flds x.k).names || names128 x) && bounds x))
theorem names_eq (x : S) : names128 x = ((decide ((1 : Int) ≤ (x.repo.size : Int)) && decide ((x.repo.size : Int) ≤ 128)) && (decide ((1 : Int) ≤ (x.tag.size : Int)) && decide ((x.tag.size : Int) ≤ 128))) := by
 unfold names128
 rw [Bool.eq_iff_iff]
 simp only [Bool.and_eq_true, decide_eq_true_eq]
 omega
theorem bounds_eq (x : S) : bounds x = (decide ((x.typ.size : Int) ≤ 100) && ((decide ((0 : Int) ≤ x.size) && decide (x.size ≤ 1048576)) && (decide ((0 : Int) ≤ x.at_) && decide (x.at_ ≤ 1099511627776)))) := by
 unfold bounds
 rw [Bool.eq_iff_iff]
 simp only [Bool.and_eq_true, decide_eq_true_eq]
 omega
theorem flds_known {k : Int} (h : known k = true) : flds k = ⟨true, true, true, true⟩ ∨ flds k = ⟨true, false, false, true⟩ ∨ flds k = ⟨true, false, false, false⟩ ∨ flds k = ⟨false, true, true, false⟩ ∨ flds k = ⟨false, true, false, false⟩ := by
 unfold known at h
 rw [decide_eq_true_iff] at h
 rcases (by omega : k = 1 ∨ k = 2 ∨ k = 3 ∨ k = 4 ∨ k = 5 ∨ k = 6) with rfl | rfl | rfl | rfl | rfl | rfl <;> simp [flds]
theorem wpList_ldr {ops : Array Oper} {rest : List Oper} {o : Oper} {a : Act} {w : World} {Q : Exit → Act → World → Prop} (hw : Region.wanted o (yielded ops a.tmps) = true) (ty : TypeId) (x : Operand) (ho : o.op = .load ty x)
  (g : Nat) (hx : a.eval x = .pointer (some ⟨g, 0, none⟩)) (T : TypeId) (cs : List Value) (fs : Array Field) (h : Hid (Blk w g T cs)) (hu : Tryz.prog.underlying ty = some (.struct fs))
  (hi : (Tryz.prog.info? ty).map (·.size) = some cs.length) (hk : wpList Tryz.prog ops Q rest (a.put o.dst (.agg cs.toArray)) w) : wpList Tryz.prog ops Q (o :: rest) a w := by
 unfold wpList
 rw [if_pos hw]
 exact .inl (wp_load_row _ x ho g hx T cs.toArray (0, 0) _ h.out hu rfl (by rw [z_a]; exact hi) hk)
set_option maxRecDepth 100000 in
set_option maxHeartbeats 4000000 in
theorem good_any (x : S) (hx : x.dig.length = 32) (w : World) :
  Calls Tryz.prog 69 #[.agg x.cells.toArray] w fun e w' => e = .returned (.bool (good x)) ∧ Reg.Ext w w' := by
 have hb1 := boxS w x
 have hx1 := Reg.Ext.alloc w (Obj.cells x.cells.toArray 39)
 obtain ⟨f, hf⟩ : ∃ f, f = flds x.k := ⟨_, rfl⟩
 have HO := y_ (of_any x.k)
 rw [← hf] at HO
 have HG := y_ (show good x = (known x.k && (x.same (x.only f) && ((!f.names || names128 x) && bounds x))) by rw [hf]; rfl)
 have HFK := y_ (fun h : known x.k = true => flds_known h)
 rw [← hf] at HFK
 clear hf
 go_enter Tryz.func69, Tryz.ntmps69
 go_upto_region 1 with (fail)
 generalize w.alloc (Obj.cells x.cells.toArray 39) = w1 at *
 generalize hg1 : w.heap.size = g1 at *
 have c0 : w1.cell? ⟨g1, 0, none⟩ = some (.int .i64 x.k) := hb1.cell 0
 have H1 := y_ hb1
 have X := y_ hx1
 have l1 : w.heap.size ≤ g1 := by omega
 clear hb1 hx1 hg1
 go_wp2_with fail
 refine (HO.out w1).mono ?_
 rintro e w2 ⟨rfl, x2⟩
 have X2 := y_ (X.out.trans x2)
 have H1 := y_ (H1.out.ext x2)
 clear x2 X c0 HO
 obtain ⟨fn, fd, ft, fa⟩ := f
 rw [show (F.cells ⟨fn, fd, ft, fa⟩) = [.bool fn, .bool fd, .bool ft, .bool fa] from rfl]
 cases hkn : known x.k with
 | false =>
   have HV := y_ (show good x = false by rw [HG.out, hkn]; rfl)
   clear hkn
   go_wp2_with fail
   apply Reg.wp_tab Reg.Ext (by kernel_rfl) (by kernel_rfl) Reg.Ext.refl (fun _ _ _ => Reg.Ext.trans) (Reg.Ext.drew _)
   case h =>
    intro O
    repeat (first
     | (apply Reg.TW.move_ Reg.Ext.refl _ rfl rfl
        ·simp only [z_1, z_2, z_3, z_4, z_5, z_b, z_6, z_7, z_8, z_9, z_0]
         rfl)
     | (apply Reg.TW.assign_ Reg.Ext.refl _ rfl rfl
        ·simp only [z_1, z_2, z_3, z_4, z_5, z_b, z_6, z_7, z_8, z_9, z_0]
         rfl)
     | (apply Reg.TW.skip_ rfl
        ·simp only [z_1, z_2, z_3, z_4, z_5, z_b, z_6, z_7, z_8, z_9, z_0]
         rfl)
     | (apply Reg.TW.pure_ rfl
        ·intro w1 hw1 hf K hK
         simp only [z_1, z_3, z_4, z_5] at hK
         have HK := y_ hK
         clear hf hK
         unfold Reg.One; dsimp only
         go_wp2_with fail
         exact HK.out _ (Reg.Ext.refl _)
        ·simp only [z_1, z_2, z_3, z_4, z_5, z_b, z_6, z_7, z_8, z_9, z_0]
         rfl))
    refine Reg.TW.nil_ ?_
    intro wa hwa _
    have hwb := (X2.out.trans (Reg.Ext.alloc w2 _)).trans hwa
    have XB := y_ hwb
    clear hwa hwb
    go_wp2_with fail
    go_ret
    exact ⟨by rw [HV.out]; rfl, XB.out⟩
   case hlen => rfl
 | true =>
   have hfk := HFK.out hkn
   obtain ⟨sm, hsm⟩ : ∃ sm, sm = x.same (x.only ⟨fn, fd, ft, fa⟩) := ⟨_, rfl⟩
   have HON := y_ (only_any x ⟨fn, fd, ft, fa⟩ hx hfk)
   have hol : (x.only ⟨fn, fd, ft, fa⟩).dig.length = 32 := by
    simp only [S.only]
    split
    ·exact hx
    ·simp [zeros]
   have HE := y_ (equal_slip x (x.only ⟨fn, fd, ft, fa⟩) hx hol)
   rw [← hsm] at HE
   have HG2 := y_ (show good x = (sm && ((!fn || names128 x) && bounds x)) by rw [HG.out, hkn, ← hsm]; rfl)
   generalize x.only ⟨fn, fd, ft, fa⟩ = y at *
   clear hkn hfk hsm hol HFK HG
   go_wp2_with fail
   have hb3 : Blk (w2.alloc (Obj.cells #[Value.bool fn, Value.bool fd, Value.bool ft, Value.bool fa] 114)) w2.heap.size 114 (F.cells ⟨fn, fd, ft, fa⟩) := Blk.new w2 114 #[Value.bool fn, Value.bool fd, Value.bool ft, Value.bool fa]
   have hx3 := Reg.Ext.alloc w2 (Obj.cells #[Value.bool fn, Value.bool fd, Value.bool ft, Value.bool fa] 114)
   generalize w2.alloc (Obj.cells #[Value.bool fn, Value.bool fd, Value.bool ft, Value.bool fa] 114) = w3 at *
   generalize w2.heap.size = g3 at *
   have H3 := y_ hb3
   have H1 := y_ (H1.out.ext hx3)
   have X3 := y_ (X2.out.trans hx3)
   clear hb3 hx3 X2
   obtain ⟨f, hf⟩ : ∃ f, f = (⟨fn, fd, ft, fa⟩ : F) := ⟨_, rfl⟩
   rw [← hf] at HON H3
   have HFN : Hid (f.names = fn) := by rw [hf]; exact rfl
   have H30 : Hid ((F.cells f)[0]? = some (.bool fn)) := by rw [hf]; exact rfl
   clear hf
   cases sm with
   | false =>
     have HV := y_ (show good x = false by rw [HG2.out]; rfl)
     apply Reg.wp_tab Reg.Ext (by kernel_rfl) (by kernel_rfl) Reg.Ext.refl (fun _ _ _ => Reg.Ext.trans) (Reg.Ext.drew _)
     case h =>
      intro O
      repeat (first
       | (apply Reg.TW.move_ Reg.Ext.refl _ rfl rfl
          ·simp only [z_1, z_2, z_3, z_4, z_5, z_b, z_6, z_7, z_8, z_9, z_0]
           rfl)
       | (apply Reg.TW.assign_ Reg.Ext.refl _ rfl rfl
          ·simp only [z_1, z_2, z_3, z_4, z_5, z_b, z_6, z_7, z_8, z_9, z_0]
           rfl)
       | (apply Reg.TW.skip_ rfl
          ·simp only [z_1, z_2, z_3, z_4, z_5, z_b, z_6, z_7, z_8, z_9, z_0]
           rfl)
       | (apply Reg.TW.pure_ rfl
          ·intro w1 hw1 hf K hK
           simp only [z_1, z_3, z_4, z_5] at hK
           have HK := y_ hK
           clear hf hK
           unfold Reg.One; dsimp only
           go_wp2_with fail
           exact HK.out _ (Reg.Ext.refl _)
          ·simp only [z_1, z_2, z_3, z_4, z_5, z_b, z_6, z_7, z_8, z_9, z_0]
           rfl))
      apply Reg.TW.pure_ (c := .agg x.cells.toArray) rfl
      ·intro w1 hw1 hf K hK
       simp only [z_1, z_3, z_4, z_5] at hK
       have HK := y_ hK
       clear hK
       unfold Reg.One; dsimp only
       refine wpList_ldr rfl _ _ rfl g1 rfl _ _ _ (y_ (H1.out.ext hw1)) undS (by rw [cells_length x hx]; exact size38) ?_
       simp only [z_1, z_2, z_3, z_4, z_5, z_b, z_6, z_7, z_8, z_9, z_0]
       go_wp2_with fail
       exact HK.out _ (Reg.Ext.refl _)
      ·simp only [z_1, z_2, z_3, z_4, z_5, z_b, z_6, z_7, z_8, z_9, z_0]
       rfl
      apply Reg.TW.pure_ (c := .agg x.cells.toArray) rfl
      ·intro w1 hw1 hf K hK
       simp only [z_1, z_3, z_4, z_5] at hK
       have HK := y_ hK
       clear hK
       unfold Reg.One; dsimp only
       refine wpList_ldr rfl _ _ rfl g1 rfl _ _ _ (y_ (H1.out.ext hw1)) undS (by rw [cells_length x hx]; exact size38) ?_
       simp only [z_1, z_2, z_3, z_4, z_5, z_b, z_6, z_7, z_8, z_9, z_0]
       go_wp2_with fail
       exact HK.out _ (Reg.Ext.refl _)
      ·simp only [z_1, z_2, z_3, z_4, z_5, z_b, z_6, z_7, z_8, z_9, z_0]
       rfl
      apply Reg.TW.pure_ (c := .agg (F.cells f).toArray) rfl
      ·intro w1 hw1 hf K hK
       simp only [z_1, z_3, z_4, z_5] at hK
       have HK := y_ hK
       clear hK
       unfold Reg.One; dsimp only
       refine wpList_ldr rfl _ _ rfl g3 rfl _ _ _ (y_ (H3.out.ext hw1)) und47 size47 ?_
       simp only [z_1, z_2, z_3, z_4, z_5, z_b, z_6, z_7, z_8, z_9, z_0]
       go_wp2_with fail
       exact HK.out _ (Reg.Ext.refl _)
      ·simp only [z_1, z_2, z_3, z_4, z_5, z_b, z_6, z_7, z_8, z_9, z_0]
       rfl
      apply Reg.TW.call_ (c := .agg y.cells.toArray) (fun _ => True) rfl (fun _ _ _ h => h)
      ·intro w1 hw1 hf K hK
       simp only [z_1, z_3, z_4, z_5] at hK
       have HK := y_ hK
       clear hK
       unfold Reg.One; dsimp only
       go_wp2_with fail
       refine (HON.out _).mono ?_
       rintro e w' ⟨rfl, hx⟩
       go_wp2_with fail
       exact HK.out _ hx trivial
      ·simp only [z_1, z_2, z_3, z_4, z_5, z_b, z_6, z_7, z_8, z_9, z_0]
       rfl
      repeat (first
       | (apply Reg.TW.move_ Reg.Ext.refl _ rfl rfl
          ·simp only [z_1, z_2, z_3, z_4, z_5, z_b, z_6, z_7, z_8, z_9, z_0]
           rfl)
       | (apply Reg.TW.assign_ Reg.Ext.refl _ rfl rfl
          ·simp only [z_1, z_2, z_3, z_4, z_5, z_b, z_6, z_7, z_8, z_9, z_0]
           rfl)
       | (apply Reg.TW.skip_ rfl
          ·simp only [z_1, z_2, z_3, z_4, z_5, z_b, z_6, z_7, z_8, z_9, z_0]
           rfl)
       | (apply Reg.TW.pure_ rfl
          ·intro w1 hw1 hf K hK
           simp only [z_1, z_3, z_4, z_5] at hK
           have HK := y_ hK
           clear hf hK
           have q1 := HE.out
           unfold Reg.One; dsimp only
           go_wp2_with fail
           exact HK.out _ (Reg.Ext.refl _)
          ·simp only [z_1, z_2, z_3, z_4, z_5, z_b, z_6, z_7, z_8, z_9, z_0]
           rfl))
      refine Reg.TW.nil_ ?_
      intro wa hwa _
      have XB := y_ (X3.out.trans hwa)
      clear hwa
      go_wp2_with fail
      go_ret
      exact ⟨by rw [HV.out]; rfl, XB.out⟩
     case hlen => rfl
   | true =>
     apply Reg.wp_tab Reg.Ext (by kernel_rfl) (by kernel_rfl) Reg.Ext.refl (fun _ _ _ => Reg.Ext.trans) (Reg.Ext.drew _)
     case h =>
      intro O
      repeat (first
       | (apply Reg.TW.move_ Reg.Ext.refl _ rfl rfl
          ·simp only [z_1, z_2, z_3, z_4, z_5, z_b, z_6, z_7, z_8, z_9, z_0]
           rfl)
       | (apply Reg.TW.assign_ Reg.Ext.refl _ rfl rfl
          ·simp only [z_1, z_2, z_3, z_4, z_5, z_b, z_6, z_7, z_8, z_9, z_0]
           rfl)
       | (apply Reg.TW.skip_ rfl
          ·simp only [z_1, z_2, z_3, z_4, z_5, z_b, z_6, z_7, z_8, z_9, z_0]
           rfl)
       | (apply Reg.TW.pure_ rfl
          ·intro w1 hw1 hf K hK
           simp only [z_1, z_3, z_4, z_5] at hK
           have HK := y_ hK
           clear hf hK
           unfold Reg.One; dsimp only
           go_wp2_with fail
           exact HK.out _ (Reg.Ext.refl _)
          ·simp only [z_1, z_2, z_3, z_4, z_5, z_b, z_6, z_7, z_8, z_9, z_0]
           rfl))
      apply Reg.TW.pure_ (c := .agg x.cells.toArray) rfl
      ·intro w1 hw1 hf K hK
       simp only [z_1, z_3, z_4, z_5] at hK
       have HK := y_ hK
       clear hK
       unfold Reg.One; dsimp only
       refine wpList_ldr rfl _ _ rfl g1 rfl _ _ _ (y_ (H1.out.ext hw1)) undS (by rw [cells_length x hx]; exact size38) ?_
       simp only [z_1, z_2, z_3, z_4, z_5, z_b, z_6, z_7, z_8, z_9, z_0]
       go_wp2_with fail
       exact HK.out _ (Reg.Ext.refl _)
      ·simp only [z_1, z_2, z_3, z_4, z_5, z_b, z_6, z_7, z_8, z_9, z_0]
       rfl
      apply Reg.TW.pure_ (c := .agg x.cells.toArray) rfl
      ·intro w1 hw1 hf K hK
       simp only [z_1, z_3, z_4, z_5] at hK
       have HK := y_ hK
       clear hK
       unfold Reg.One; dsimp only
       refine wpList_ldr rfl _ _ rfl g1 rfl _ _ _ (y_ (H1.out.ext hw1)) undS (by rw [cells_length x hx]; exact size38) ?_
       simp only [z_1, z_2, z_3, z_4, z_5, z_b, z_6, z_7, z_8, z_9, z_0]
       go_wp2_with fail
       exact HK.out _ (Reg.Ext.refl _)
      ·simp only [z_1, z_2, z_3, z_4, z_5, z_b, z_6, z_7, z_8, z_9, z_0]
       rfl
      apply Reg.TW.pure_ (c := .agg (F.cells f).toArray) rfl
      ·intro w1 hw1 hf K hK
       simp only [z_1, z_3, z_4, z_5] at hK
       have HK := y_ hK
       clear hK
       unfold Reg.One; dsimp only
       refine wpList_ldr rfl _ _ rfl g3 rfl _ _ _ (y_ (H3.out.ext hw1)) und47 size47 ?_
       simp only [z_1, z_2, z_3, z_4, z_5, z_b, z_6, z_7, z_8, z_9, z_0]
       go_wp2_with fail
       exact HK.out _ (Reg.Ext.refl _)
      ·simp only [z_1, z_2, z_3, z_4, z_5, z_b, z_6, z_7, z_8, z_9, z_0]
       rfl
      apply Reg.TW.call_ (c := .agg y.cells.toArray) (fun _ => True) rfl (fun _ _ _ h => h)
      ·intro w1 hw1 hf K hK
       simp only [z_1, z_3, z_4, z_5] at hK
       have HK := y_ hK
       clear hK
       unfold Reg.One; dsimp only
       go_wp2_with fail
       refine (HON.out _).mono ?_
       rintro e w' ⟨rfl, hx⟩
       go_wp2_with fail
       exact HK.out _ hx trivial
      ·simp only [z_1, z_2, z_3, z_4, z_5, z_b, z_6, z_7, z_8, z_9, z_0]
       rfl
      repeat (first
       | (apply Reg.TW.move_ Reg.Ext.refl _ rfl rfl
          ·simp only [z_1, z_2, z_3, z_4, z_5, z_b, z_6, z_7, z_8, z_9, z_0]
           rfl)
       | (apply Reg.TW.assign_ Reg.Ext.refl _ rfl rfl
          ·simp only [z_1, z_2, z_3, z_4, z_5, z_b, z_6, z_7, z_8, z_9, z_0]
           rfl)
       | (apply Reg.TW.skip_ rfl
          ·simp only [z_1, z_2, z_3, z_4, z_5, z_b, z_6, z_7, z_8, z_9, z_0]
           rfl)
       | (apply Reg.TW.pure_ rfl
          ·intro w1 hw1 hf K hK
           simp only [z_1, z_3, z_4, z_5] at hK
           have HK := y_ hK
           clear hf hK
           have q1 := HE.out
           unfold Reg.One; dsimp only
           go_wp2_with fail
           exact HK.out _ (Reg.Ext.refl _)
          ·simp only [z_1, z_2, z_3, z_4, z_5, z_b, z_6, z_7, z_8, z_9, z_0]
           rfl))
      refine Reg.TW.nil_ ?_
      intro wa hwa _
      have XB := y_ (X3.out.trans hwa)
      have hX := H1.out.ext hwa
      have p0 : wa.cell? ⟨g3, 0, none⟩ = some (.bool fn) := by rw [(H3.out.ext hwa).cell]; exact H30.out
      have q1 : wa.cell? ⟨g1, 1, none⟩ = some (.string x.repo) := hX.cell 1
      have q2 : wa.cell? ⟨g1, 2, none⟩ = some (.string x.tag) := hX.cell 2
      have q35 : wa.cell? ⟨g1, 35, none⟩ = some (.string x.typ) := by rw [hX.cell, at35 x hx]
      have q36 : wa.cell? ⟨g1, 36, none⟩ = some (.int .i64 x.size) := by rw [hX.cell, at36 x hx]
      have q37 : wa.cell? ⟨g1, 37, none⟩ = some (.int .i64 x.at_) := by rw [hX.cell, at37 x hx]
      clear hwa hX H1 H3 H30 HON HE HFN X3
      obtain ⟨b1, hb1⟩ : ∃ b1, b1 = (decide ((1 : Int) ≤ (x.repo.size : Int)) && decide ((x.repo.size : Int) ≤ 128)) := ⟨_, rfl⟩
      obtain ⟨b2, hb2⟩ : ∃ b2, b2 = (decide ((1 : Int) ≤ (x.tag.size : Int)) && decide ((x.tag.size : Int) ≤ 128)) := ⟨_, rfl⟩
      obtain ⟨b3, hb3⟩ : ∃ b3, b3 = decide ((x.typ.size : Int) ≤ 100) := ⟨_, rfl⟩
      obtain ⟨b4, hb4⟩ : ∃ b4, b4 = (decide ((0 : Int) ≤ x.size) && decide (x.size ≤ 1048576)) := ⟨_, rfl⟩
      obtain ⟨b5, hb5⟩ : ∃ b5, b5 = (decide ((0 : Int) ≤ x.at_) && decide (x.at_ ≤ 1099511627776)) := ⟨_, rfl⟩
      have hn : names128 x = (b1 && b2) := by rw [hb1, hb2]; exact names_eq x
      have hbd : bounds x = (b3 && (b4 && b5)) := by rw [hb3, hb4, hb5]; exact bounds_eq x
      have HV := y_ (show good x = ((!fn || (b1 && b2)) && (b3 && (b4 && b5))) by rw [HG2.out, hn, hbd]; rfl)
      have W1 := y_ (fun w => (hb1 ▸ within_any (x.repo.size : Int) 1 128 w : Calls Tryz.prog 93 #[.int .i64 (x.repo.size : Int), .int .i64 1, .int .i64 128] w fun e w' => e = .returned (.bool b1) ∧ w = w'))
      have W2 := y_ (fun w => (hb2 ▸ within_any (x.tag.size : Int) 1 128 w : Calls Tryz.prog 93 #[.int .i64 (x.tag.size : Int), .int .i64 1, .int .i64 128] w fun e w' => e = .returned (.bool b2) ∧ w = w'))
      have W4 := y_ (fun w => (hb4 ▸ within_any x.size 0 1048576 w : Calls Tryz.prog 93 #[.int .i64 x.size, .int .i64 0, .int .i64 1048576] w fun e w' => e = .returned (.bool b4) ∧ w = w'))
      have W5 := y_ (fun w => (hb5 ▸ within_any x.at_ 0 1099511627776 w : Calls Tryz.prog 93 #[.int .i64 x.at_, .int .i64 0, .int .i64 1099511627776] w fun e w' => e = .returned (.bool b5) ∧ w = w'))
      have d3 := hb3.symm
      clear hn hbd HG2 hb1 hb2 hb3 hb4 hb5
      cases fn with
      | true =>
        go_wp2_with fail
        refine (W1.out _).mono ?_
        rintro e w' ⟨rfl, rfl⟩
        cases b1 with
        | false =>
          go_wp2_with fail
          go_ret
          exact ⟨by rw [HV.out]; rfl, XB.out⟩
        | true =>
          go_wp2_with fail
          refine (W2.out _).mono ?_
          rintro e w' ⟨rfl, rfl⟩
          cases b2 with
          | false =>
            go_wp2_with fail
            go_ret
            exact ⟨by rw [HV.out]; rfl, XB.out⟩
          | true =>
            cases b3 with
            | false =>
              go_wp2_with fail
              go_ret
              exact ⟨by rw [HV.out]; simp, XB.out⟩
            | true =>
              go_wp2_with fail
              refine (W4.out _).mono ?_
              rintro e w' ⟨rfl, rfl⟩
              cases b4 with
              | false =>
                go_wp2_with fail
                go_ret
                exact ⟨by rw [HV.out]; simp, XB.out⟩
              | true =>
                go_wp2_with fail
                refine (W5.out _).mono ?_
                rintro e w' ⟨rfl, rfl⟩
                go_wp2_with fail
                go_ret
                exact ⟨by rw [HV.out]; simp, XB.out⟩
      | false =>
        cases b3 with
        | false =>
          go_wp2_with fail
          go_ret
          exact ⟨by rw [HV.out]; simp, XB.out⟩
        | true =>
          go_wp2_with fail
          refine (W4.out _).mono ?_
          rintro e w' ⟨rfl, rfl⟩
          cases b4 with
          | false =>
            go_wp2_with fail
            go_ret
            exact ⟨by rw [HV.out]; simp, XB.out⟩
          | true =>
            go_wp2_with fail
            refine (W5.out _).mono ?_
            rintro e w' ⟨rfl, rfl⟩
            go_wp2_with fail
            go_ret
            exact ⟨by rw [HV.out]; simp, XB.out⟩
     case hlen => rfl
end Slp
end Go.Proofs.YtafeealbdpmdkaaGreatDoor

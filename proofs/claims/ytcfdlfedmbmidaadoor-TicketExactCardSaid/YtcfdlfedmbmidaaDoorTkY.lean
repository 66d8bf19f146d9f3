/- The answers that the document fixes by number; what the laws ask first. -/
import Derived.Test.YtcfdlfedmbmidaaDoorTkX
import Derived.Test.YtcfdlfedmbmidaaDoorTkR
import Derived.Test.YtcfdlfedmbmidaaDoorTkP
set_option linter.unusedSimpArgs false
set_option linter.unusedVariables false
set_option linter.unusedSectionVars false
namespace Go.Proofs.YtcfdlfedmbmidaaDoor
open Go Go.RowKit
theorem One.fill_two (cs ds z : Array Value) (size : Nat) (hc : cs.size = size) (hd : ds.size = size) (hz : z.size = 2 * size) :
    Instr.fill (fun i => some (i * size, size)) z [(0, .agg cs), (1, .agg ds)] = some (cs ++ ds) := by
  have hv : (Value.agg cs).cells = cs := rfl
  have hv2 : (Value.agg ds).cells = ds := rfl
  have h := fold_at 0 cs.toList [] z.toList 0 rfl (by simp [hc, hz]; omega)
  have h2 := fold_at size ds.toList cs.toList (z.toList.drop size) 0 (by simp [hc]) (by simp [hd, hz]; omega)
  simp only [List.nil_append, Array.toArray_toList, Array.length_toList, hc] at h
  simp only [Array.length_toList, hd] at h2
  have hl : (z.toList.drop size).drop size = [] := List.drop_of_length_le (by simp [hz]; omega)
  rw [hl, List.append_nil] at h2
  unfold Instr.fill
  simp only [hv, Nat.zero_mul]
  rw [if_neg (by simp [hc, hz]; try omega)]
  unfold Instr.fill
  simp only [hv2, Nat.one_mul]
  rw [← Array.foldl_toList, Array.toList_zipIdx, h]
  rw [if_neg (by simp [hc, hd, hz]; try omega)]
  unfold Instr.fill
  rw [← Array.foldl_toList, Array.toList_zipIdx, h2]
  simp
theorem One.run_two_rows {P : Program} (w : World) (t e : TypeId) (cs ds : Array Value) (i : TypeInfo) (z : Value) (ht : P.underlying t = some (.slice e)) (hi : P.info? e = some i) (hz : i.zero = some z) (hs : i.size = cs.size) (hs2 : ds.size = cs.size) (h0 : 0 < cs.size) (hm : cs.size ≤ 1000000) :
    (Instr.buildSlice t 2 #[(0, .agg cs), (1, .agg ds)]).run P w = .ok (.slice (some ⟨w.heap.size, 0, none⟩) 2 2) (w.alloc (.cells (cs ++ ds) e)) := by
  have hf := One.fill_two cs ds ((Array.range (2 * cs.size)).map (z.cells[· % z.cells.size]!)) cs.size rfl hs2 (by simp)
  have h1 : (sizeOf e).run P w = .ok cs.size w := by simp [sizeOf, run_typeInfo w hi, hs]
  have h2 : (zeroValue e).run P w = .ok z w := by simp [zeroValue, run_typeInfo w hi, hz]
  have h3 : ∀ cs, (newRow e cs).run P w = .ok ⟨w.heap.size, 0, none⟩ (w.alloc (.cells cs e)) := fun cs => by simp [newRow, go_sem]
  unfold Instr.buildSlice
  simp only [Sem.run_bind, run_underlying ht, Result.andThen_ok, h1]
  simp only [Sem.run_bind, Result.andThen_ok, if_neg (show ¬ 2 * cs.size > 2 ^ 24 by omega), if_neg (show ¬ 2 * cs.size = 0 by omega), h2, Sem.run_pure]
  rw [hf]
  simp only [Sem.run_bind, Result.andThen_ok, h3, Sem.run_pure]
namespace Tk
theorem exec_twoT (W : World) {ρ : Operand → Value} {o : Oper} (p q : Operand) (ho : o.op = .buildSlice 42 2 #[(0, p), (1, q)]) (x y : T) (hx : ρ p = .agg x.cells.toArray) (hy : ρ q = .agg y.cells.toArray) (hd : x.dig.length = 32) (he : y.dig.length = 32) :
    (execOp ρ o).run Tryd.prog W = .ok (.value (.slice (some ⟨W.heap.size, 0, none⟩) 2 2)) (W.alloc (.cells (flat [x, y]).toArray 25)) := by
  obtain ⟨i, hi, hz, hsz, hby⟩ := tkInfo_of
  have h := One.run_two_rows W 42 25 x.cells.toArray y.cells.toArray i _ Tryd.underlying42 hi hz (by rw [hsz, List.size_toArray, x.len hd]) (by rw [List.size_toArray, List.size_toArray, x.len hd, y.len he]) (by rw [List.size_toArray, x.len hd]; omega) (by rw [List.size_toArray, x.len hd]; omega)
  have ef : (x.cells.toArray ++ y.cells.toArray : Array Value) = (flat [x, y]).toArray := by simp [flat]
  rw [ef] at h
  unfold execOp
  rw [ho]
  simp only [List.map_toArray, List.map_cons, List.map_nil, hx, hy, Sem.run_bind, h, Result.andThen_ok, Sem.run_pure]
theorem LT.two (W : World) (x y : T) (hd : x.dig.length = 32) (he : y.dig.length = 32) : LT W.heap.size (W.alloc (.cells (flat [x, y]).toArray 25)) (.slice (some ⟨W.heap.size, 0, none⟩) 2 2) [x, y] := by
  have hl : (flat [x, y]).length = 76 := by simp [flat, x.len hd, y.len he]
  refine ⟨by rw [hl]; rfl, .inr ⟨W.heap.size, 2, (flat [x, y]).toArray, rfl, Nat.le_refl _, Blk.new W _ _, Nat.le_refl _, by unfold maxLen; omega, by rw [List.size_toArray, hl], ?_⟩⟩
  rw [List.toList_toArray] <;> exact List.take_of_length_le (by rw [hl]; exact Nat.le_refl _)
def xA : T := ⟨[97], [120], false, List.replicate 32 0, [], 0, 5⟩
def xB : T := ⟨[97], [121], true, 1 :: List.replicate 31 0, [], 0, 7⟩
def xC : T := ⟨[98], [120], false, List.replicate 32 0, [], 0, 9⟩
def kC : Cfg := ⟨[], 0, 0, 0, 0, 0, 0, 4621819117588971520, 0, 4636737291354636288, 0, 0, 0⟩
def zC : Cfg := ⟨[], 0, 0, 0, 0, 0, 0, 0, 0, 0, 0, 0, 0⟩
theorem goodA : goodT xA = true := by kernel_rfl
theorem goodB : goodT xB = true := by kernel_rfl
theorem goodC : goodT xC = true := by kernel_rfl
theorem putB : (⟨[], 2⟩ : P).put xB = (none, ⟨[xB], 2⟩) := by kernel_rfl
theorem putA : (⟨[xB], 2⟩ : P).put xA = (none, ⟨[xA, xB], 2⟩) := by kernel_rfl
theorem putC : (⟨[xA, xB], 2⟩ : P).put xC = (some xA, ⟨[xB, xC], 2⟩) := by kernel_rfl
theorem kfits : kC.fits := ⟨by decide, by decide, by decide⟩
theorem wi9 : FloatP.withinP 9 4621819117588971520 = true := by
  have := FloatP.within_ceil (m := 9) (b := 4621819117588971520) (by decide) (by kernel_rfl) (by decide)
  exact this.trans (by kernel_rfl)
theorem wi10 : FloatP.withinP 10 4621819117588971520 = false := by
  have := FloatP.within_ceil (m := 10) (b := 4621819117588971520) (by decide) (by kernel_rfl) (by decide)
  exact this.trans (by kernel_rfl)
theorem wi10h : FloatP.withinP 10 4636737291354636288 = true := by
  have := FloatP.within_ceil (m := 10) (b := 4636737291354636288) (by decide) (by kernel_rfl) (by decide)
  exact this.trans (by kernel_rfl)
theorem jud1 : judgeP xB true 16 kC true = 2 := by
  have h : judgeP xB true 16 kC true = if FloatP.withinP 9 4621819117588971520 = true then 2 else if FloatP.withinP 9 4636737291354636288 = true then 4 else 3 := by
    unfold judgeP
    rw [if_neg (by decide)]
    rfl
  rw [h, wi9]; rfl
theorem jud2 : judgeP xB true 17 kC true = 4 := by
  have h : judgeP xB true 17 kC true = if FloatP.withinP 10 4621819117588971520 = true then 2 else if true = true ∧ true = true ∧ FloatP.withinP 10 4636737291354636288 = true then 4 else 3 := by
    unfold judgeP
    rw [if_neg (by decide)]
    rfl
  rw [h, wi10, wi10h]; rfl
theorem jud3 : judgeP xB true 17 kC false = 3 := by
  have h : judgeP xB true 17 kC false = if FloatP.withinP 10 4621819117588971520 = true then 2 else if false = true ∧ true = true ∧ FloatP.withinP 10 4636737291354636288 = true then 4 else 3 := by
    unfold judgeP
    rw [if_neg (by decide)]
    rfl
  rw [h, wi10, wi10h]; rfl
theorem jud4 : judgeP xB false 7 kC false = 1 := rfl
/-- a block of a law's, not the table's -/
def Bo (w : World) (b : Nat) (v : Value) (g : Nat) (t : TypeId) (cs : List Value) : Prop := Blk w g t cs ∧ ¬ TO b v g
section
variable {w w' : World} {b g : Nat} {v v' : Value} {t : TypeId} {cs : List Value}
theorem Bo.ext (h : Bo w b v g t cs) (hx : Reg.Ext w w') : Bo w' b v g t cs := ⟨h.1.ext hx, h.2⟩
theorem Bo.turn (h : Bo w b v g t cs) (ht : TTurn b w v w' v') : Bo w' b v' g t cs :=
  ⟨(ht.kept g h.1.lt h.2).trans h.1, fun o => by rcases ht.own g o with h1 | h1; exact h.2 h1; have := h.1.lt; omega⟩
end
set_option maxRecDepth 100000 in
theorem great_any (x : T) (hx : x.dig.length = 32) (w : World) : Calls Tryd.prog 8 #[.agg x.cells.toArray] w fun e w' => (∃ q, e = .returned (.bool q)) ∧ Reg.Ext w w' := by
  have hb1 := boxT w x
  have hx1 := Reg.Ext.alloc w (Obj.cells x.cells.toArray 25)
  have c0 : (w.alloc (Obj.cells x.cells.toArray 25)).cell? ⟨w.heap.size, 0, none⟩ = some (.string ⟨x.repo.toArray⟩) := hb1.cell 0
  have c1 : (w.alloc (Obj.cells x.cells.toArray 25)).cell? ⟨w.heap.size, 1, none⟩ = some (.string ⟨x.tag.toArray⟩) := hb1.cell 1
  have c35 : (w.alloc (Obj.cells x.cells.toArray 25)).cell? ⟨w.heap.size, 35, none⟩ = some (.string ⟨x.typ.toArray⟩) := (hb1.cell 35).trans (x.tail hx 0)
  have HX := Lib.hid hx1
  clear hb1 hx1 hx
  go_enter Tryd.func8, Tryd.ntmps8
  go_upto_region 1 with (fail)
  generalize w.alloc (Obj.cells x.cells.toArray 25) = W at *
  generalize w.heap.size = g at *
  go_wp2_with fail
  go_ret
  exact ⟨⟨_, rfl⟩, HX.out⟩
end Tk
end Go.Proofs.YtcfdlfedmbmidaaDoor

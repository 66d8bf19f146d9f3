/- Keys in memory; what a key is in a map. -/
import Derived.Test.YtjkhfnfimicffaaPyB
import Derived.Laws.ResultCell
import Derived.KernelRfl
import Derived.Laws.Rows
import Derived.Deep.MidRow
import Derived.DeepKeys4
set_option linter.unusedSimpArgs false
set_option linter.unusedVariables false
set_option linter.unusedSectionVars false
namespace Go.Proofs.Ytjkhfnfimicffaa
open Go Go.RowKit
namespace Py
structure Ky.Fine (k : Ky) : Prop where
  dig : k.dig.length = 32
  lo : -9223372036854775808 ≤ k.kind
  hi : k.kind ≤ 9223372036854775807
  repo : k.repo.length ≤ maxLen
  tag : k.tag.length ≤ maxLen
theorem Ky.len (k : Ky) (h : k.dig.length = 32) : k.cells.length = 36 := by simp [Ky.cells, h]
theorem Ky.one (k : Ky) : ∀ v ∈ k.cells, v.oneCell' = true := by
  intro v hv
  unfold Ky.cells at hv
  simp only [List.mem_append, List.mem_cons, List.not_mem_nil, or_false, List.mem_map] at hv
  rcases hv with rfl | rfl | rfl | ⟨c, _, rfl⟩ | rfl <;> rfl
theorem undK : Try.prog.underlying 33 = some (.struct (Try.prog.fieldsOf 33)) := by kernel_rfl
theorem sizeK : (Try.prog.info? 33).map (·.size) = some 36 := by kernel_rfl
theorem cellsK : Try.prog.cellsOf 33 = 36 := by kernel_rfl
theorem typeK : Try.prog.keyType 33 = true := by kernel_rfl
theorem fieldsK : (Try.prog.fieldsOf 33).toList.map (fun f => (f.type, f.offset, Try.prog.cellsOf f.type)) = [(3, 0, 1), (9, 1, 1), (9, 2, 1), (31, 3, 32), (4, 35, 1)] := by kernel_rfl
theorem namesK : (Try.prog.fieldsOf 33).all (·.name != "_") = true := by kernel_rfl
theorem undDg : Try.prog.underlying 31 = some (.array 32 5) := by kernel_rfl
theorem cellsDg : Try.prog.cellsOf 31 = 32 := by kernel_rfl
theorem cellsU8 : Try.prog.cellsOf 5 = 1 := by kernel_rfl
theorem laidK : Maps.Keyed Try.prog 33 := Maps.Keyed.of_law (deep_law_laid (by kernel_rfl) (m := 3) (by omega) (of_decide_eq_true (by kernel_rfl)) (by kernel_rfl) (by kernel_rfl))
theorem mapM_some {α β : Type} (f : α → Option β) : ∀ l : List α, (∀ x ∈ l, ∃ y, f x = some y) → ∃ ys, l.mapM f = some ys
  | [], _ => ⟨[], rfl⟩
  | x :: r, h => by
    obtain ⟨y, hy⟩ := h x (List.mem_cons_self ..)
    obtain ⟨ys, hys⟩ := mapM_some f r fun z hz => h z (List.mem_cons_of_mem _ hz)
    exact ⟨y :: ys, by rw [List.mapM_cons, hy, hys]; rfl⟩
theorem lits_dig (d : Nat) (l : List UInt8) (hl : l.length = 32) : ∃ ls, Try.prog.keyLits (d + 2) 31 (l.map byteV) = some ls := by
  unfold Program.keyLits
  simp only [undDg, cellsDg, List.length_map, hl, if_true]
  obtain ⟨ys, hys⟩ := mapM_some (fun i => Try.prog.keyLits (d + 1) 5 (((l.map byteV).drop (i * Try.prog.cellsOf 5)).take (Try.prog.cellsOf 5))) (List.range 32) fun i hi => by
    have hi := List.mem_range.1 hi
    rw [cellsU8, Nat.mul_one, List.drop_eq_getElem_cons (by rw [List.length_map]; omega)]
    simp only [List.take_succ_cons, List.take_zero, List.getElem_map]
    have hb : ((l[i]'(by omega)).toNat : Int) ≤ 255 := by have := (l[i]'(by omega)).toNat_lt; omega
    refine ⟨[.int .u8 ((l[i]'(by omega)).toNat : Int)], ?_⟩
    have hw : (Lit.int .u8 ((l[i]'(by omega)).toNat : Int)).wf = true := by
      simp only [Lit.wf, Bool.and_eq_true, decide_eq_true_eq]
      exact ⟨by show (0 : Int) ≤ _; omega, by show _ ≤ (255 : Int); omega⟩
    unfold Program.keyLits byteV
    simp only [Try.underlying5, hw, and_self, if_true]
  exact ⟨ys.flatten, by rw [hys]; rfl⟩
theorem lit_int (d : Nat) (a : Int) (h : (Lit.int .i64 a).wf = true) : Try.prog.keyLits (d + 1) 3 [.int .i64 a] = some [.int .i64 a] := by
  unfold Program.keyLits
  simp only [Try.underlying3, h, and_self, if_true]
theorem lit_str (d : Nat) (a : List UInt8) (h : a.length ≤ maxLen) : Try.prog.keyLits (d + 1) 9 [.string ⟨a.toArray⟩] = some [.string a] := by
  unfold Program.keyLits
  have e : (⟨a.toArray⟩ : ByteArray).size = a.length := by show a.toArray.size = _; rw [List.size_toArray]
  simp only [Try.underlying9, e, h, if_true, List.toList_toArray]
theorem lit_bool (d : Nat) (b : Bool) : Try.prog.keyLits (d + 1) 4 [.bool b] = some [.bool b] := by
  unfold Program.keyLits
  simp only [Try.underlying4]
theorem cut3 (k : Ky) (h : k.dig.length = 32) : (k.cells.drop 3).take 32 = k.dig.map byteV := by
  have : k.cells.drop 3 = k.dig.map byteV ++ [.bool k.blob] := rfl
  rw [this, List.take_append_of_le_length (by rw [List.length_map]; omega), List.take_of_length_le (by rw [List.length_map]; omega)]
theorem cut35 (k : Ky) (h : k.dig.length = 32) : (k.cells.drop 35).take 1 = [.bool k.blob] := by
  have : k.cells.drop 35 = (k.dig.map byteV ++ [Value.bool k.blob]).drop 32 := rfl
  rw [this, List.drop_append_of_le_length (by rw [List.length_map]; omega), List.drop_of_length_le (by rw [List.length_map]; omega)]
  rfl
theorem Ky.ok (k : Ky) (h : k.Fine) : ∃ l, k.Ok l := by
  obtain ⟨ls, hls⟩ := lits_dig (Try.prog.types.size - 2) k.dig h.dig
  have hts : Try.prog.types.size - 2 + 2 = Try.prog.types.size := by kernel_rfl
  have hts1 : Try.prog.types.size - 1 + 1 = Try.prog.types.size := by kernel_rfl
  rw [hts] at hls
  have h0 := lit_int (Try.prog.types.size - 1) k.kind (by simp only [Lit.wf, Bool.and_eq_true, decide_eq_true_eq]; exact ⟨h.lo, h.hi⟩)
  have h1 := lit_str (Try.prog.types.size - 1) k.repo h.repo
  have h2 := lit_str (Try.prog.types.size - 1) k.tag h.tag
  have h4 := lit_bool (Try.prog.types.size - 1) k.blob
  rw [hts1] at h0 h1 h2 h4
  unfold Ky.Ok keyOf
  rw [undK]
  have hf : (Value.agg k.cells.toArray).formed Try.prog 33 = true := by
    unfold Value.formed
    simp only [undK]
    rw [List.size_toArray, k.len h.dig]
    kernel_rfl
  simp only [typeK, hf, Bool.and_self, if_true, Value.cells]
  unfold Program.keyLits
  simp only [undK, cellsK, k.len h.dig, namesK, and_self, if_true]
  have hm : (Try.prog.fieldsOf 33).toList.mapM (fun f => Try.prog.keyLits Try.prog.types.size f.type ((k.cells.drop f.offset).take (Try.prog.cellsOf f.type))) =
      ((Try.prog.fieldsOf 33).toList.map (fun f => (f.type, f.offset, Try.prog.cellsOf f.type))).mapM (fun q => Try.prog.keyLits Try.prog.types.size q.1 ((k.cells.drop q.2.1).take q.2.2)) := by
    rw [List.mapM_map]
    rfl
  rw [hm, fieldsK]
  refine ⟨.string (keyBytes [[.int .i64 k.kind], [.string k.repo], [.string k.tag], ls, [.bool k.blob]].flatten), ?_⟩
  have e0 : (k.cells.drop 0).take 1 = [.int .i64 k.kind] := rfl
  have e1 : (k.cells.drop 1).take 1 = [.string ⟨k.repo.toArray⟩] := rfl
  have e2 : (k.cells.drop 2).take 1 = [.string ⟨k.tag.toArray⟩] := rfl
  simp only [List.mapM_cons, List.mapM_nil, e0, e1, e2, cut3 k h.dig, cut35 k h.dig, h0, h1, h2, h4, hls]
  rfl
theorem Ky.cells_inj {a b : Ky} (ha : a.dig.length = 32) (hb : b.dig.length = 32) (h : a.cells = b.cells) : a = b := by
  obtain ⟨k, r, t, d, bl⟩ := a
  obtain ⟨k', r', t', d', bl'⟩ := b
  unfold Ky.cells at h
  simp only [List.cons.injEq, Value.int.injEq, true_and, Value.string.injEq] at h
  obtain ⟨h0, h1, h2, h3⟩ := h
  obtain ⟨h3, h4⟩ := List.append_inj h3 (by rw [List.length_map, List.length_map]; exact ha.trans hb.symm)
  have e1 : r = r' := by injection h1 with h1; simpa using h1
  have e2 : t = t' := by injection h2 with h2; simpa using h2
  have e3 : d = d' := by
    refine List.map_inj_right (fun x y h => ?_) |>.1 h3
    unfold byteV at h
    injection h with _ h
    exact UInt8.toNat_inj.1 (by omega)
  have e4 : bl = bl' := by simpa using h4
  rw [h0, e1, e2, e3, e4]
theorem Ky.Ok.inj {a b : Ky} {l : Lit} (ha : a.dig.length = 32) (hb : b.dig.length = 32) (h : a.Ok l) (h' : b.Ok l) : a = b := by
  have := laidK.inj h h'
  injection this with this
  exact Ky.cells_inj ha hb (by simpa using this)
section
variable {D : DataW Unit}
theorem Ky.Ok.lit {k : Ky} {l : Lit} (h : k.Ok l) : WideAt.IsKeyLit l := laidK.key h
theorem MapK.put {f : Ky → Option Int} (hD : MapK D f) (ht : Maps.Tidy D) {k : Ky} {l : Lit} (hk : k.dig.length = 32) (hl : k.Ok l) (v : Int) : MapK (D.put l (.lit (.int .i64 v))) (fun x => if x = k then some v else f x) := fun x lx hx hlx => by
  by_cases he : x = k
  · subst he
    have : lx = l := by have := hlx.symm.trans hl; injection this
    subst this
    dsimp only
    rw [if_pos rfl]
    exact ⟨Maps.atKey_put_same ht.isMap hl.lit _ _, Maps.has_put_same ht.isMap hl.lit _⟩
  · dsimp only
    rw [if_neg he]
    have hne : lx ≠ l := fun e => he (Ky.Ok.inj hx hk hlx (e ▸ hl))
    rw [Maps.atKey_put_other hne, Maps.has_put_other hne]
    exact hD x lx hx hlx
theorem MapK.del {f : Ky → Option Int} (hD : MapK D f) {k : Ky} {l : Lit} (hk : k.dig.length = 32) (hl : k.Ok l) : MapK (D.del l) (fun x => if x = k then none else f x) := fun x lx hx hlx => by
  by_cases he : x = k
  · subst he
    have : lx = l := by have := hlx.symm.trans hl; injection this
    subst this
    dsimp only
    rw [if_pos rfl]
    exact ⟨Maps.atKey_del_same _, Maps.has_del_same⟩
  · dsimp only
    rw [if_neg he]
    have hne : lx ≠ l := fun e => he (Ky.Ok.inj hx hk hlx (e ▸ hl))
    rw [Maps.atKey_del_other hne, Maps.has_del_other hne]
    exact hD x lx hx hlx
end
end Py
end Go.Proofs.Ytjkhfnfimicffaa

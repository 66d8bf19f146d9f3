/- A row of bytes that a file holds: out of append, out of []byte(s), cut shorter, written over. -/
import Derived.Test.YtbiikihapfpkfaaBufS
set_option linter.unusedSimpArgs false
set_option linter.unusedVariables false
set_option linter.unusedSectionVars false
namespace Go.Proofs.Ytbiikihapfpkfaa
open Go Go.RowKit
/-- v holds just these bytes; its block may bear a mark behind its row -/
def PRow (w : World) (v : Value) (l : List UInt8) : Prop := (v = .slice none 0 0 ∧ l = []) ∨ ∃ g cap cur fz, v = .slice (some ⟨g, 0, none⟩) l.length cap ∧ w.heap[g]? = some (.cells cur 5 fz) ∧
    (fz.2 = 0 ∨ cur.size ≤ fz.1) ∧ l.length ≤ cap ∧ cap ≤ maxLen ∧ cur.size = cap ∧ cur.toList.take l.length = l.map byteV
theorem PRow.nil_ (w : World) : PRow w (.slice none 0 0) [] := .inl ⟨rfl, rfl⟩
theorem PRow.form {w : World} {v : Value} {l : List UInt8} (h : PRow w v l) : ∃ A cap, v = .slice A l.length cap := by
  rcases h with ⟨rfl, rfl⟩ | ⟨g, cap, cur, fz, rfl, _⟩
  · exact ⟨none, 0, rfl⟩
  · exact ⟨_, cap, rfl⟩
theorem PRow.lt {w : World} {v : Value} {l : List UInt8} (h : PRow w v l) {g : Nat} (hg : v.ownBlock = some g) : g < w.heap.size := by
  rcases h with ⟨rfl, _⟩ | ⟨g', cap, cur, fz, rfl, hr, _⟩
  · cases hg
  · injection hg with hg
    subst hg
    exact (Array.getElem?_eq_some_iff.1 hr).1
theorem PRow.kept {w w' : World} {v : Value} {l : List UInt8} {r : Option Nat} (h : PRow w v l) (hg : w.grownBy w' r) (hne : v.ownBlock = none ∨ v.ownBlock ≠ r) : PRow w' v l := by
  rcases h with h | ⟨g, cap, cur, fz, rfl, hr, h⟩
  · exact .inl h
  · refine .inr ⟨g, cap, cur, fz, rfl, ?_, h⟩
    have hlt := (Array.getElem?_eq_some_iff.1 hr).1
    rw [hg.block g hlt (by rcases hne with h | h; cases h; exact h)]
    exact hr
theorem PRow.ext {w w' : World} {v : Value} {l : List UInt8} (h : PRow w v l) (hx : Reg.Ext w w') : PRow w' v l := by
  refine h.kept (r := none) ⟨hx.os, hx.tape, hx.output, hx.size, fun i hi _ => hx.block i hi⟩ ?_
  cases v.ownBlock with
  | none => exact .inl rfl
  | some k => exact .inr (by simp)
/-- []byte(s) -/
theorem PRow.of (s : ByteArray) (W : World) (hs : s.size ≤ 274877906944) : ∃ cap w1, (convert 9 67 (.string s)).run Try.prog W = .ok (.slice (some ⟨W.heap.size, 0, none⟩) s.size cap) w1 ∧
    PRow w1 (.slice (some ⟨W.heap.size, 0, none⟩) s.size cap) s.data.toList ∧ Reg.Ext W w1 := by
  refine ⟨_, _, bytes_of s W, .inr ⟨W.heap.size, _, _, _, by rw [len_data], heap_alloc_new W.drew _, .inr (Nat.le_refl _), ?_, ?_, ?_, ?_⟩, (Reg.Ext.drew W).trans (Reg.Ext.alloc _ _)⟩
  · rw [len_data]; exact grownCap_ge _ _ _ _
  · exact grownCap_le_maxLen _ _ _ _ (by unfold maxLen; omega)
  · have := grownCap_ge W s.size 0 5
    simp [bytesRow]
    have e : s.data.size = s.size := rfl
    omega
  · rw [len_data]
    apply List.ext_getElem?
    intro j
    rw [List.getElem?_take]
    by_cases hj : j < s.size
    · rw [if_pos hj, Array.getElem?_toList, bytesRow_at s _ j hj, List.getElem?_map]
      rw [show s.data.toList[j]? = s.data[j]? from Array.getElem?_toList, Array.getElem?_eq_getElem (show j < s.data.size from hj)]; rfl
    · rw [if_neg hj, List.getElem?_eq_none (by rw [List.length_map, len_data]; omega)]
theorem row_cell {w : World} {g : Nat} {cur : Array Value} {fz : Nat × Nat} {l : List UInt8} (hr : w.heap[g]? = some (.cells cur 5 fz)) (ht : cur.toList.take l.length = l.map byteV) (j : Nat) (hj : j < l.length) : w.cell? ⟨g, j, none⟩ = some (byteV l[j]) := by
  have e := congrArg (fun x => x[j]?) ht
  simp only [List.getElem?_take, List.getElem?_map] at e
  rw [if_pos hj, Array.getElem?_toList, List.getElem?_eq_getElem hj] at e
  unfold World.cell?
  rw [hr]
  exact e
/-- string(v) -/
theorem PRow.str {w : World} {v : Value} {l : List UInt8} (h : PRow w v l) : (convert 67 9 v).run Try.prog w = .ok (.string ⟨l.toArray⟩) w := by
  rcases h with ⟨rfl, rfl⟩ | ⟨g, cap, cur, fz, rfl, hr, _, _, _, _, ht⟩
  · exact Buf.str (Buf.nil_ w w (Reg.Ext.refl w))
  · refine conv_bytes w _ _ 5 Try.underlying67 Try.underlying5 Try.underlying9 g 0 l.length cap l rfl ?_
    intro j hj
    rw [Nat.zero_add]
    exact row_cell hr ht j hj
/-- v[:n] -/
theorem PRow.cut {w : World} {A : Option Addr} {cap : Nat} {l : List UInt8} (h : PRow w (.slice A l.length cap) l) (n : Nat) (hn : n ≤ l.length) : PRow w (.slice A n cap) (l.take n) := by
  have hl : (l.take n).length = n := by rw [List.length_take]; omega
  rcases h with ⟨h1, h2⟩ | ⟨g, cap', cur, fz, e, hr, h1, h2, h3, h4, ht⟩
  · injection h1 with e1 e2 e3
    subst h2
    have : n = 0 := by simpa using hn
    subst this e1 e3
    exact .inl ⟨rfl, rfl⟩
  · injection e with e1 e2 e3
    subst e1 e3
    refine .inr ⟨g, cap, cur, fz, by rw [hl], hr, h1, by omega, h3, h4, ?_⟩
    rw [hl, List.map_take, ← ht, List.take_take, Nat.min_eq_left hn]
theorem row_setCells (g : Nat) (t : TypeId) (fz : Nat × Nat) : ∀ (vs : List Value) (o : Nat) (cur : Array Value) (w : World), w.heap[g]? = some (.cells cur t fz) → o + vs.length ≤ cur.size →
    (w.setCells g o vs).heap[g]? = some (.cells (cur.toList.take o ++ vs ++ cur.toList.drop (o + vs.length)).toArray t fz)
  | [], o, cur, w, h, _ => by
    rw [List.append_nil, List.length_nil, Nat.add_zero, List.take_append_drop]
    exact h
  | v :: vs, o, cur, w, h, hl => by
    have h1 : (w.setCell ⟨g, o, none⟩ v).heap[g]? = some (.cells (cur.setIfInBounds o v) t fz) := by
      simp [World.setCell, Array.getElem?_modify, h]
    have hlo : o < cur.toList.length := by rw [Array.length_toList]; simp only [List.length_cons] at hl; omega
    have ih := row_setCells g t fz vs (o + 1) (cur.setIfInBounds o v) (w.setCell ⟨g, o, none⟩ v) h1 (by rw [Array.size_setIfInBounds]; simp only [List.length_cons] at hl; omega)
    have e : (cur.setIfInBounds o v).toList.take (o + 1) ++ vs ++ (cur.setIfInBounds o v).toList.drop (o + 1 + vs.length) = cur.toList.take o ++ (v :: vs) ++ cur.toList.drop (o + (v :: vs).length) := by
      rw [Array.toList_setIfInBounds, List.drop_set_of_lt (by omega), List.length_cons, show o + 1 + vs.length = o + (vs.length + 1) by omega]
      have : (cur.toList.set o v).take (o + 1) = cur.toList.take o ++ [v] := by
        rw [List.take_succ_eq_append_getElem (by rw [List.length_set]; exact hlo), List.getElem_set_self, List.take_set_of_le (Nat.le_refl _)]
      rw [this]
      simp
    rw [e] at ih
    exact ih
theorem str_cells (s : ByteArray) : Lib.strCells s = s.data.toList.map byteV := rfl
/-- append(v, s...) -/
theorem PRow.run_push {w : World} {v : Value} {l : List UInt8} (h : PRow w v l) (s : ByteArray) (ty : TypeId) (hl : l.length + s.size ≤ 1099511627776) :
    ∃ v' w', (Builtin.append_ #[67, 9] ty #[v, .string s]).run Try.prog w = .ok v' w' ∧ PRow w' v' (l ++ s.data.toList) ∧ w.grownBy w' v.ownBlock ∧ (v'.ownBlock = v.ownBlock ∨ ∃ g, v'.ownBlock = some g ∧ w.heap.size ≤ g) := by
  obtain ⟨i, hi, hz, hsz, hby⟩ := byteInfo_of
  have ht := Try.underlying67
  have hu := Try.underlying9
  rcases h with ⟨rfl, rfl⟩ | ⟨g, cap, cur, fz, rfl, hr, h1, h2, h3, h4, htk⟩
  · obtain ⟨v', w', e, ho, hg, _⟩ := Lib.run_append_own_string (P := Try.prog) w w.heap.size 67 9 ty 5 i ht hu hi hz hsz hby (.slice none 0 0) 0 [] ⟨rfl, .inl ⟨rfl, rfl⟩⟩ s (by unfold maxLen; omega) (by omega) (Nat.le_refl _)
    rcases ho.2 with ⟨rfl, hn⟩ | ⟨g, cap, cur, rfl, hb, hr, hn, hm, hsz2, htk⟩
    · refine ⟨_, w', e, .inl ⟨rfl, ?_⟩, hg, .inl rfl⟩
      exact List.eq_nil_of_length_eq_zero (by rw [List.nil_append, len_data]; omega)
    · refine ⟨_, w', e, .inr ⟨g, cap, cur, (0, 0), ?_, hr, .inl rfl, ?_, hm, by omega, ?_⟩, hg, .inr ⟨g, rfl, hb⟩⟩
      · rw [List.nil_append, len_data, Nat.zero_add]
      · rw [List.nil_append, len_data]; omega
      · rw [List.nil_append, len_data]
        rw [Nat.mul_one, Nat.zero_add, List.nil_append] at htk
        exact htk
  · by_cases hroom : l.length + s.size ≤ cap
    · have hfr : ∀ j, l.length ≤ j → j < cur.size → w.frozen? ⟨g, j, none⟩ = false := by
        intro j _ hj
        obtain ⟨lo, hi'⟩ := fz
        simp only [World.frozen?, hr, Bool.and_eq_false_iff, decide_eq_false_iff_not]
        simp only at h1
        rcases h1 with h1 | h1
        · right; omega
        · left; omega
      have hsc : (Lib.strCells s).length = s.size := by rw [str_cells, List.length_map, len_data]
      have hst := run_storeCells_cells (P := Try.prog) g l.length (Lib.strCells s) 0 w (by
        intro j hj
        rw [hsc] at hj
        simp [World.cell?, hr]
        omega) (by
        intro j hj
        rw [hsc] at hj
        exact hfr _ (by omega) (by omega)) (by
        intro u hu
        rw [str_cells] at hu
        obtain ⟨c, _, rfl⟩ := List.mem_map.1 hu
        rfl)
      have hf := Lib.run_firstCells_string (P := Try.prog) w 1 s
      rw [Nat.add_zero] at hst
      refine ⟨.slice (some ⟨g, 0, none⟩) (l.length + s.size) cap, w.setCells g l.length (Lib.strCells s), ?_, .inr ⟨g, cap, _, fz, ?_, row_setCells g _ fz (Lib.strCells s) l.length cur w hr (by rw [hsc]; omega), ?_, ?_, h3, ?_, ?_⟩, But.setCells g _ _ _, .inl rfl⟩
      · simp [Builtin.append_, run_underlying ht, run_underlying hu, sizeOf, typeInfo, hi, hsz, Builtin.lenOf, hroom, hf, Addr.add_lit, hst]
      · rw [List.length_append, len_data]
      · rcases h1 with h1 | h1
        · exact .inl h1
        · right
          simp only [List.size_toArray, List.length_append, List.length_take, List.length_drop, Array.length_toList, hsc]
          omega
      · rw [List.length_append, len_data]; exact hroom
      · simp only [List.size_toArray, List.length_append, List.length_take, List.length_drop, Array.length_toList, hsc]
        omega
      · rw [List.map_append, ← str_cells, List.length_append, len_data, ← htk]
        have e : (l.map byteV).length = l.length := List.length_map _
        rw [show l.length + s.size = (cur.toList.take l.length ++ Lib.strCells s).length by rw [htk, List.length_append, e, hsc]]
        exact List.take_left
    · have hr' := Lib.run_append_grow_string (P := Try.prog) w 67 9 ty 5 i (.int .u8 0) ht hu hi hz ⟨g, 0, none⟩ l.length cap (l.map byteV) (by rw [hsz]; simp) (by
        intro j v hj
        rw [List.getElem?_map] at hj
        obtain ⟨c, hc, rfl⟩ := Option.map_eq_some_iff.1 hj
        obtain ⟨hjl, rfl⟩ := List.getElem?_eq_some_iff.1 hc
        rw [add_plain, Nat.zero_add]
        exact row_cell hr htk j hjl) s (by omega) (by omega) (by rw [hby]; exact growslice_fits (by omega) (by omega))
      have hsc : (Lib.strCells s).length = s.size := by rw [str_cells, List.length_map, len_data]
      have hge := grownCap_ge w (l.length + s.size) cap 5
      have hz1 : (Value.int IntKind.u8 0).cells.size = 1 := rfl
      refine ⟨_, _, hr', .inr ⟨w.heap.size, _, _, (0, 0), ?_, heap_alloc_new w.drew _, .inl rfl, ?_, grownCap_le_maxLen w (l.length + s.size) cap 5 (by unfold maxLen; omega), ?_, ?_⟩, ⟨rfl, rfl, rfl, by simp, fun k hk _ => Below.heap_alloc w.drew _ k hk⟩, .inr ⟨_, rfl, Nat.le_refl _⟩⟩
      · rw [List.length_append, len_data]
      · rw [List.length_append, len_data]; exact hge
      · simp only [Array.size_append, List.size_toArray, size_zeroCells, hz1, List.length_map, hsc]
        omega
      · rw [List.map_append, ← str_cells, List.length_append, len_data]
        simp only [Array.toList_append, List.append_assoc]
        rw [← List.append_assoc, show l.length + s.size = (l.map byteV ++ Lib.strCells s).length by rw [List.length_append, List.length_map, hsc]]
        exact List.take_left
end Go.Proofs.Ytbiikihapfpkfaa

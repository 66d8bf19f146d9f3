/- What Go's own operations do with rows of tickets. -/
import Derived.Test.YtcfdlfedmbmidaaDoorTkD
import Derived.Laws.IdiomCopy
set_option linter.unusedSimpArgs false
set_option linter.unusedVariables false
set_option linter.unusedSectionVars false
namespace Go.Proofs.YtcfdlfedmbmidaaDoor
open Go Go.RowKit
namespace Tk
theorem run_copy_t (w : World) (ty : TypeId) (b o dLen dCap : Nat) (a : Addr) (sLen sCap n : Nat) (hn : Nat.min sLen dLen = n) (cs : List Value) (hl : cs.length = n * 38)
    (hsrc : ∀ j v, cs[j]? = some v → w.cell? (a.add j) = some v) (ht : w.there b o cs.length) (h1 : ∀ v ∈ cs, v.oneCell' = true) :
    (Builtin.copy_ #[42, 42] ty #[.slice (some ⟨b, o, none⟩) dLen dCap, .slice (some a) sLen sCap]).run Tryd.prog w = .ok (goInt n) (w.setCells b o cs) := by
  have hld := run_loadCells_list (P := Tryd.prog) w a cs hsrc
  have hst := run_storeCells_cells (P := Tryd.prog) b o cs 0 w (fun j hj => by rw [Nat.add_zero]; exact (ht j hj).1) (fun j hj => by rw [Nat.add_zero]; exact (ht j hj).2) h1
  obtain ⟨i, hi, hz, hsz, _⟩ := tkInfo_of
  rw [hl] at hld
  simp [Builtin.copy_, run_underlying Tryd.underlying42, Builtin.lenOf, Builtin.firstCells, sizeOf, typeInfo, hi, hsz, hn, hld, hst]
theorem zero_cells : (Builtin.zeroCells zT.cells.toArray 1).toList = zT.cells := by kernel_rfl
theorem run_clear_t (w : World) (ty : TypeId) (b o c : Nat) (ht : w.there b o 38) :
    (Builtin.clear_ #[42] ty #[.slice (some ⟨b, o, none⟩) 1 c]).run Tryd.prog w = .ok (.tuple #[]) (w.setCells b o zT.cells) := by
  have hst := run_storeCells_cells (P := Tryd.prog) b o zT.cells 0 w (fun j hj => by rw [Nat.add_zero]; exact (ht j hj).1) (fun j hj => by rw [Nat.add_zero]; exact (ht j hj).2) (T.one _)
  have hv : (zeroValue 25).run Tryd.prog w = .ok (.agg zT.cells.toArray) w := by as_aux_lemma => kernel_rfl
  have hc : (Value.agg zT.cells.toArray).cells = zT.cells.toArray := rfl
  simp [Builtin.clear_, run_underlying Tryd.underlying42, hv, hc, zero_cells, hst]
section
variable {B : Nat} {w : World} {l : List T} {g cap : Nat}
/-- the first tickets alone -/
theorem LT.pre (h : LT B w (.slice (some ⟨g, 0, none⟩) l.length cap) l) (hf : Fit l) (i : Nat) (hi : i ≤ l.length) : LT B w (.slice (some ⟨g, 0, none⟩) i cap) (l.take i) := by
  have hl : (l.take i).length = i := by rw [List.length_take]; omega
  rcases h.2 with ⟨e, _⟩ | ⟨g', cap', cur, e, hB, hc, h1, h2, h3, h4⟩
  · cases e
  injection e with e1 e2 e3
  injection e1 with e1
  injection e1 with e1
  subst e1 e3
  refine ⟨?_, .inr ⟨g, cap, cur, by rw [hl], hB, hc, by rw [hl]; omega, h2, h3, ?_⟩⟩
  · exact Flt.len (fun x hx => hf.len x (List.mem_of_mem_take hx))
  · rw [hl, show flat (l.take i) = (flat l).take (i * 38) from (Flt.take hf.len i).symm, ← h4, List.take_take]
    congr 1
    have : i * 38 ≤ l.length * 38 := Nat.mul_le_mul_right _ hi
    omega
/-- what is written behind it -/
theorem sets_out : ∀ (vs xs : List Value) (o : Nat), xs.length ≤ o → Flt.sets xs o vs = xs
  | [], _, _, _ => rfl
  | v :: r, xs, o, h => by
    rw [Flt.sets, List.set_eq_of_length_le h]
    exact sets_out r xs (o + 1) (by omega)
theorem LT.behind {n : Nat} (h : LT B w (.slice (some ⟨g, 0, none⟩) n cap) l) (vs : List Value) (o : Nat) (ho : l.length * 38 ≤ o) : LT B (w.setCells g o vs) (.slice (some ⟨g, 0, none⟩) n cap) l := by
  have hn : n = l.length := by
    rcases h.2 with ⟨e, _⟩ | ⟨g', cap', cur, e, _⟩
    · cases e
    · injection e
  subst hn
  have h1 := Flt.own_sets vs o w _ h
  rw [sets_out _ _ _ (by rw [h.1]; exact ho)] at h1
  exact h1
/-- the cells behind it are there -/
theorem LT.room {n : Nat} (h : LT B w (.slice (some ⟨g, 0, none⟩) n cap) l) {o k : Nat} (hk : o + k ≤ cap * 38) : w.there g o k := fun j hj => by
  rcases h.2 with ⟨e, _⟩ | ⟨g', cap', cur, e, hB, hc, h1, h2, h3, h4⟩
  · cases e
  injection e with e1 e2 e3
  injection e1 with e1
  injection e1 with e1
  subst e1 e3
  refine ⟨?_, frozen_of_row w g (o + j) cur _ hc⟩
  rw [cell_of_row w g (o + j) cur _ (0, 0) hc, Array.getElem?_eq_getElem (by rw [h3]; omega)]
  rfl
end
theorem wpList_any' {P : Program} {ops : Array Oper} {rest : List Oper} {o : Oper} {a : Act} {w : World} {Q : Exit → Act → World → Prop} (hgd : o.guard = none) (v : Value) (w' : World)
    (hr : (execOp a.eval o).run P w = .ok (.value v) w') (hk : wpList P ops Q rest (a.put o.dst v) w') : wpList P ops Q (o :: rest) a w :=
  wpList_plain hgd fun K hK => by unfold Oper.wp; rw [hr]; exact hK _ _ hk
section
variable {ops : Array Oper} {rest : List Oper} {o : Oper} {a : Act} {Q : Exit → Act → World → Prop}
/-- append where there is room: the row stays where it is -/
theorem append_fits (hgd : o.guard = none) (s x : Operand) (ho : o.op = .call { callee := .builtin .append, args := #[s, x], argTypes := #[42, 42] }) (B : Nat) (W : World) (g n cap : Nat) (ds es : List T) (hs : a.eval s = .slice (some ⟨g, 0, none⟩) n cap) (hn : ds.length = n)
    (hb : LT B W (.slice (some ⟨g, 0, none⟩) n cap) ds) (ad : Addr) (m c : Nat) (hx : a.eval x = .slice (some ad) m c) (hm : es.length = m) (hnew : ∀ j u, (flat es)[j]? = some u → W.cell? (ad.add j) = some u) (hfit : Fit es) (hroom : n + m ≤ cap)
    (h : ∀ w', LT B w' (.slice (some ⟨g, 0, none⟩) (n + m) cap) (ds ++ es) → W.grownBy w' (some g) → wpList Tryd.prog ops Q rest (a.put o.dst (.slice (some ⟨g, 0, none⟩) (n + m) cap)) w') : wpList Tryd.prog ops Q (o :: rest) a W := by
  obtain ⟨i, hi, hz, hsz, _⟩ := tkInfo_of
  subst hn hm
  obtain ⟨w', hr, ho', hg⟩ := run_append_fits (P := Tryd.prog) W B 42 o.type 25 i 38 Tryd.underlying42 hi hsz g ds.length cap (flat ds) hb ad es.length c (flat es) (Flt.len hfit.len) hnew (fun u hu => by
    obtain ⟨y, _, hu⟩ := List.mem_flatMap.1 hu
    exact y.one u hu) hroom
  refine wpList_any' hgd _ w' ?_ (h w' ?_ hg)
  · unfold execOp
    simp only [ho, resolve, invoke, builtin, Sem.run_bind, Sem.run_pure, Result.andThen_ok, List.map_toArray, List.map_cons, List.map_nil, hs, hx, hr]
  · unfold LT
    rw [List.length_append, show flat (ds ++ es) = flat ds ++ flat es from List.flatMap_append]
    exact ho'
end
theorem Blk.sets : ∀ (vs cs : List Value) (o : Nat) {w : World} {g : Nat} {t : TypeId}, Blk w g t cs → Blk (w.setCells g o vs) g t (Flt.sets cs o vs)
  | [], _, _, _, _, _, h => h
  | v :: r, cs, o, w, g, t, h => Blk.sets r (cs.set o v) (o + 1) (w := w.setCell ⟨g, o, none⟩ v) (h.set_ o v)
theorem LT.blk {B : Nat} {w : World} {l : List T} {g n cap : Nat} (h : LT B w (.slice (some ⟨g, 0, none⟩) n cap) l) : ∃ cs, Blk w g 25 cs ∧ cs.length = cap * 38 ∧ cs.take (l.length * 38) = flat l ∧ n = l.length ∧ l.length ≤ cap ∧ cap ≤ maxLen ∧ B ≤ g := by
  rcases h.2 with ⟨e, _⟩ | ⟨g', cap', cur, e, hB, hc, h1, h2, h3, h4⟩
  · cases e
  injection e with e1 e2 e3
  injection e1 with e1
  injection e1 with e1
  subst e1 e3
  exact ⟨cur.toList, by unfold Blk; simpa using hc, by simpa using h3, h4, e2, h1, h2, hB⟩
theorem LT.of_blk {B : Nat} {w : World} {l : List T} {g cap : Nat} {cs : List Value} (h : Blk w g 25 cs) (hl : cs.length = cap * 38) (ht : cs.take (l.length * 38) = flat l) (hf : Fit l) (h1 : l.length ≤ cap) (h2 : cap ≤ maxLen) (hB : B ≤ g) : LT B w (.slice (some ⟨g, 0, none⟩) l.length cap) l :=
  ⟨Flt.len hf.len, .inr ⟨g, cap, cs.toArray, rfl, hB, h, h1, h2, by simpa using hl, by simpa using ht⟩⟩
/-- a ticket put in where there is room -/
theorem LT.insert {B : Nat} {w : World} {l : List T} {g cap : Nat} (h : LT B w (.slice (some ⟨g, 0, none⟩) l.length cap) l) (hf : Fit l) (i : Nat) (hi : i ≤ l.length) (hc : l.length + 1 ≤ cap) (x : T) (hx : x.dig.length = 32) :
    LT B ((w.setCells g ((i + 1) * 38) (flat (l.drop i))).setCells g (i * 38) x.cells) (.slice (some ⟨g, 0, none⟩) (l.length + 1) cap) (l.take i ++ x :: l.drop i) := by
  obtain ⟨cs, hb, hl, ht, _, h1, h2, hB⟩ := h.blk
  have hlen : (l.take i ++ x :: l.drop i).length = l.length + 1 := by
    rw [List.length_append, List.length_cons, List.length_take, List.length_drop]; omega
  have hfd : Fit (l.drop i) := fun y hy => hf y (List.mem_of_mem_drop hy)
  have hft : Fit (l.take i) := fun y hy => hf y (List.mem_of_mem_take hy)
  have hd : (flat (l.drop i)).length = (l.length - i) * 38 := by rw [show (flat (l.drop i)).length = (l.drop i).length * 38 from Flt.len hfd.len, List.length_drop]
  have hcap : (l.length + 1) * 38 ≤ cap * 38 := Nat.mul_le_mul_right _ hc
  have e1 := Flt.sets_eq (flat (l.drop i)) cs ((i + 1) * 38) (by rw [hd]; omega)
  have hb1 := Blk.sets (flat (l.drop i)) cs ((i + 1) * 38) hb
  rw [e1] at hb1
  have hlc : ((i + 1) * 38) ≤ cs.length := by omega
  have hb2 := Blk.sets x.cells _ (i * 38) hb1
  rw [Flt.sets_eq _ _ _ (by rw [x.len hx]; simp only [List.length_append, List.length_take, List.length_drop, hd]; omega)] at hb2
  have hxl := x.len hx
  have hci : cs.take (i * 38) = flat (l.take i) := by
    rw [show flat (l.take i) = (flat l).take (i * 38) from (Flt.take hf.len i).symm, ← ht, List.take_take]
    congr 1
    omega
  have e2 : (cs.take ((i + 1) * 38) ++ flat (l.drop i) ++ cs.drop ((i + 1) * 38 + (flat (l.drop i)).length)).take (i * 38) = flat (l.take i) := by
    rw [List.append_assoc, List.take_append_of_le_length (by rw [List.length_take]; omega), List.take_take, ← hci]
    congr 1
    omega
  have e3 : (cs.take ((i + 1) * 38) ++ flat (l.drop i) ++ cs.drop ((i + 1) * 38 + (flat (l.drop i)).length)).drop (i * 38 + x.cells.length) = flat (l.drop i) ++ cs.drop ((i + 1) * 38 + (flat (l.drop i)).length) := by
    rw [List.append_assoc, hxl, show i * 38 + 38 = (cs.take ((i + 1) * 38)).length by rw [List.length_take]; omega]
    exact List.drop_left
  rw [e2, e3] at hb2
  rw [← hlen]
  have hflat : flat (l.take i ++ x :: l.drop i) = flat (l.take i) ++ x.cells ++ flat (l.drop i) := by
    unfold flat
    rw [List.flatMap_append, List.flatMap_cons, List.append_assoc]
  have hlt : (flat (l.take i)).length = i * 38 := by rw [show (flat (l.take i)).length = (l.take i).length * 38 from Flt.len hft.len, List.length_take, Nat.min_eq_left hi]
  refine LT.of_blk hb2 ?_ ?_ ?_ (by rw [hlen]; exact hc) h2 hB
  · simp only [List.length_append, List.length_drop, hd, hlt, hxl, hl]
    omega
  · rw [hlen, hflat, ← List.append_assoc]
    rw [show (l.length + 1) * 38 = (flat (l.take i) ++ x.cells ++ flat (l.drop i)).length by simp only [List.length_append, hd, hlt, hxl]; omega]
    exact List.take_left
  · intro y hy
    rcases List.mem_append.1 hy with hy | hy
    · exact hft y hy
    · rcases List.mem_cons.1 hy with rfl | hy
      · exact hx
      · exact hfd y hy
/-- some tickets written over -/
theorem LT.over {B : Nat} {w : World} {l : List T} {g cap : Nat} (h : LT B w (.slice (some ⟨g, 0, none⟩) l.length cap) l) (hf : Fit l) (j : Nat) (ys : List T) (hy : Fit ys) (hj : j + ys.length ≤ l.length) :
    LT B (w.setCells g (j * 38) (flat ys)) (.slice (some ⟨g, 0, none⟩) l.length cap) (l.take j ++ ys ++ l.drop (j + ys.length)) ∧ w.there g (j * 38) (flat ys).length := by
  have hyl : (flat ys).length = ys.length * 38 := Flt.len hy.len
  have hfl : (flat l).length = l.length * 38 := Flt.len hf.len
  have hb : j * 38 + ys.length * 38 ≤ l.length * 38 := by rw [← Nat.add_mul]; exact Nat.mul_le_mul_right _ hj
  refine ⟨?_, Flt.own_there h (by rw [hyl]; exact hb)⟩
  have h1 := Flt.own_sets (flat ys) (j * 38) w _ h
  rw [Flt.sets_eq _ _ _ (by rw [hfl, hyl]; exact hb)] at h1
  have hlen : (l.take j ++ ys ++ l.drop (j + ys.length)).length = l.length := by
    simp only [List.length_append, List.length_take, List.length_drop]; omega
  have e : flat (l.take j ++ ys ++ l.drop (j + ys.length)) = (flat l).take (j * 38) ++ flat ys ++ (flat l).drop (j * 38 + (flat ys).length) := by
    unfold flat
    rw [List.flatMap_append, List.flatMap_append, Flt.take hf.len, show (ys.flatMap T.cells).length = ys.length * 38 from hyl, ← Nat.add_mul, Flt.drop hf.len]
  unfold LT
  rw [hlen, e]
  exact h1
theorem zero_flat (k : Nat) : (Builtin.zeroCells zT.cells.toArray k).toList = flat (List.replicate k zT) := by
  have hz : zT.cells.toArray.size = 38 := rfl
  have hf : ∀ x ∈ List.replicate k zT, x.cells.length = 38 := fun x hx => by rw [List.eq_of_mem_replicate hx]; rfl
  unfold Builtin.zeroCells
  rw [hz]
  refine List.ext_getElem? fun i => ?_
  by_cases hi : i < k * 38
  · have h1 := Flt.at_ hf (i / 38) (by rw [List.length_replicate]; omega) (i % 38) (Nat.mod_lt _ (by decide))
    rw [show i / 38 * 38 + i % 38 = i by omega, List.getElem_replicate] at h1
    rw [show flat (List.replicate k zT) = (List.replicate k zT).flatMap T.cells from rfl, h1]
    have hm : i % 38 < zT.cells.toArray.size := by rw [hz]; exact Nat.mod_lt _ (by decide)
    rw [Array.toList_map, List.getElem?_map, Array.toList_range, List.getElem?_range hi]
    show some (zT.cells.toArray[i % 38]!) = _
    rw [getElem!_pos zT.cells.toArray (i % 38) hm, List.getElem_toArray, List.getElem?_eq_getElem]
  · rw [List.getElem?_eq_none (by simp; omega), List.getElem?_eq_none (by
      rw [show (flat (List.replicate k zT)).length = (List.replicate k zT).length * 38 from Flt.len hf, List.length_replicate]; omega)]
section
variable {ops : Array Oper} {rest : List Oper} {o : Oper} {a : Act} {Q : Exit → Act → World → Prop}
theorem wpList_copyT (hgd : o.guard = none) (d s : Operand) (ho : o.op = .call { callee := .builtin .copy, args := #[d, s], argTypes := #[42, 42] }) (W : World) (b of dLen dCap : Nat) (ad : Addr) (sLen sCap n : Nat) (hd : a.eval d = .slice (some ⟨b, of, none⟩) dLen dCap) (hs : a.eval s = .slice (some ad) sLen sCap) (hn : Nat.min sLen dLen = n)
    (ys : List T) (hy : Fit ys) (hl : ys.length = n) (hsrc : ∀ j v, (flat ys)[j]? = some v → W.cell? (ad.add j) = some v) (ht : W.there b of (flat ys).length)
    (h : wpList Tryd.prog ops Q rest (a.put o.dst (goInt n)) (W.setCells b of (flat ys))) : wpList Tryd.prog ops Q (o :: rest) a W := by
  have hr := run_copy_t W o.type b of dLen dCap ad sLen sCap n hn (flat ys) (by rw [← hl]; exact Flt.len hy.len) hsrc ht (fun v hv => by
    obtain ⟨y, _, hv⟩ := List.mem_flatMap.1 hv
    exact y.one v hv)
  refine wpList_any' hgd _ _ ?_ h
  unfold execOp
  simp only [ho, resolve, invoke, builtin, Sem.run_bind, Sem.run_pure, Result.andThen_ok, List.map_toArray, List.map_cons, List.map_nil, hd, hs, hr]
theorem wpList_clearT (hgd : o.guard = none) (x : Operand) (ho : o.op = .call { callee := .builtin .clear, args := #[x], argTypes := #[42] }) (W : World) (b of n c : Nat) (hx : a.eval x = .slice (some ⟨b, of, none⟩) n c) (hn : n = 1) (ht : W.there b of 38)
    (h : wpList Tryd.prog ops Q rest (a.put o.dst (.tuple #[])) (W.setCells b of zT.cells)) : wpList Tryd.prog ops Q (o :: rest) a W := by
  subst hn
  have hr := run_clear_t W o.type b of c ht
  refine wpList_any' hgd _ _ ?_ h
  unfold execOp
  simp only [ho, resolve, invoke, builtin, Sem.run_bind, Sem.run_pure, Result.andThen_ok, List.map_toArray, List.map_cons, List.map_nil, hx, hr]
end
end Tk
end Go.Proofs.YtcfdlfedmbmidaaDoor

/- slices.Insert over tickets. -/
import Derived.Test.YtcfdlfedmbmidaaDoorTkI
import Derived.Lib.Overlaps
import Derived.Lib.AppendZerosOnto
import Derived.Laws.Externs
import Derived.Maps.AppendAt
set_option linter.unusedSimpArgs false
set_option linter.unusedVariables false
set_option linter.unusedSectionVars false
namespace Go.Proofs.YtcfdlfedmbmidaaDoor
open Go Go.RowKit
namespace Tk
theorem exec_from' {ρ : Operand → Value} {o : Oper} (x lo : Operand) (ho : o.op = .slice 42 x (some lo) none none) {g n cap k m c : Nat} (hx : ρ x = .slice (some ⟨g, 0, none⟩) n cap) (hl : ρ lo = .int .i64 (k : Int)) (hk : k ≤ n) (hc : k < cap) (hm : n - k = m) (hcc : cap - k = c) (w : World) :
    (execOp ρ o).run Tryd.prog w = .ok (.value (.slice (some ⟨g, k * 38, none⟩) m c)) w := by
  have h := exec_from x lo ho hx hl hk w
  unfold fromA at h
  rw [if_neg (by omega), Nat.zero_add, hm, hcc] at h
  exact h
section
variable {ops : Array Oper} {rest : List Oper} {o : Oper} {a : Act} {Q : Exit → Act → World → Prop}
theorem push_one (hgd : o.guard = none) (s x : Operand) (ho : o.op = .call { callee := .builtin .append, args := #[s, x], argTypes := #[42, 42] }) (W : World) (v : Value) (ds : List T) (y : T) (hy : y.dig.length = 32) (gx : Nat) (hs : a.eval s = v) (hb : LT 0 W v ds) (hx : a.eval x = .slice (some ⟨gx, 0, none⟩) 1 1) (hnew : Blk W gx 25 y.cells) (hl : ds.length ≤ 1000)
    (h : ∀ v' w', LT 0 w' v' (ds ++ [y]) → W.grownBy w' v.ownBlock → (v'.ownBlock = v.ownBlock ∨ v'.ownBlock = some W.heap.size) → wpList Tryd.prog ops Q rest (a.put o.dst v') w') : wpList Tryd.prog ops Q (o :: rest) a W := by
  obtain ⟨i, hi, hz, hsz, hby⟩ := tkInfo_of
  refine Go.wpList_append_own_at W hgd s x 42 ho 0 25 i (.agg zT.cells.toArray) 38 104 Tryd.underlying42 hi hz hsz hby rfl (by decide) v ds.length (flat ds) hs hb ⟨gx, 0, none⟩ 1 1 y.cells hx (y.len hy) (fun j u hj => by rw [Addr.add_mid, Nat.zero_add, hnew.cell]; exact hj) y.one (by unfold maxLen; omega) (by omega) (Nat.zero_le _) ?_
  intro v' w' ho' hg _ hat
  refine h v' w' ?_ hg hat
  unfold LT
  rw [List.length_append, show flat (ds ++ [y]) = flat ds ++ y.cells by simp [flat]]
  exact ho'
theorem append_zeros (hgd : o.guard = none) (s x : Operand) (ho : o.op = .call { callee := .builtin .append, args := #[s, x], argTypes := #[42, 3] }) (W : World) (g i cap : Nat) (ds : List T) (hs : a.eval s = .slice (some ⟨g, 0, none⟩) i cap) (hn : ds.length = i)
    (hb : ∀ j u, (flat ds)[j]? = some u → W.cell? ((⟨g, 0, none⟩ : Addr).add j) = some u) (hf : Fit ds) (k : Nat) (hk : 0 < k) (z : Int) (hx : a.eval x = .int .i64 z) (hzk : z = (k : Int)) (hg : cap < i + k) (hl : i + k ≤ 1001)
    (h : ∀ c2 w', i + k ≤ c2 → LT 0 w' (.slice (some ⟨W.heap.size, 0, none⟩) (i + k) c2) (ds ++ List.replicate k zT) → Reg.Ext W w' → wpList Tryd.prog ops Q rest (a.put o.dst (.slice (some ⟨W.heap.size, 0, none⟩) (i + k) c2)) w') : wpList Tryd.prog ops Q (o :: rest) a W := by
  obtain ⟨i0, hi0, hz0, hsz, hby⟩ := tkInfo_of
  subst hn hzk
  have hold : (Builtin.firstCells i0.size ds.length (.slice (some ⟨g, 0, none⟩) ds.length cap)).run Tryd.prog W.drew = .ok (flat ds).toArray W.drew := by
    rw [hsz]
    exact run_firstCells_some W.drew 38 ds.length ⟨g, 0, none⟩ ds.length cap (flat ds) (Flt.len hf.len) (fun j v hj => hb j v hj)
  have hr := Lib.run_append_grow_zeros W 42 3 o.type 25 i0 (.agg zT.cells.toArray) .i64 .i64 Tryd.underlying42 Tryd.underlying3 hi0 hz0 (some ⟨g, 0, none⟩) ds.length cap (flat ds) hold k hk (by omega) hg (by omega) (by rw [hby]; omega) (by rw [hby]; exact growslice_fits hg (by omega))
  have hge := grownCap_ge W (ds.length + k) cap 25
  have hcm := grownCap_le_maxLen W (ds.length + k) cap 25 (by unfold maxLen; omega)
  obtain ⟨G, hG⟩ : ∃ G, grownCap W (ds.length + k) cap 25 = G := ⟨_, rfl⟩
  rw [hG] at hr hge hcm
  have hzc : (Value.agg zT.cells.toArray).cells = zT.cells.toArray := rfl
  rw [hzc] at hr
  have hfr : Fit (List.replicate k zT) := fun y hy => by rw [List.eq_of_mem_replicate hy]; rfl
  have hcs : ((flat ds).toArray ++ Builtin.zeroCells zT.cells.toArray k ++ Builtin.zeroCells zT.cells.toArray (G - (ds.length + k))) = (flat (ds ++ List.replicate k zT) ++ flat (List.replicate (G - (ds.length + k)) zT)).toArray := by
    apply Array.ext'
    rw [Array.toList_append, Array.toList_append, zero_flat, zero_flat]
    simp [flat]
  rw [hcs] at hr
  have hlen : (ds ++ List.replicate k zT).length = ds.length + k := by rw [List.length_append, List.length_replicate]
  have hft : Fit (ds ++ List.replicate k zT) := fun y hy => (List.mem_append.1 hy).elim (hf y) (hfr y)
  have hfl : (flat (ds ++ List.replicate k zT)).length = (ds.length + k) * 38 := by rw [show (flat (ds ++ List.replicate k zT)).length = (ds ++ List.replicate k zT).length * 38 from Flt.len hft.len, hlen]
  have hbk := Blk.new W.drew 25 (flat (ds ++ List.replicate k zT) ++ flat (List.replicate (G - (ds.length + k)) zT)).toArray
  refine wpList_any' hgd _ (W.drew.alloc (.cells (flat (ds ++ List.replicate k zT) ++ flat (List.replicate (G - (ds.length + k)) zT)).toArray 25)) ?_ (h G _ hge ?_ ((Reg.Ext.drew W).trans (Reg.Ext.alloc _ _)))
  · unfold execOp
    simp only [ho, resolve, invoke, builtin, Sem.run_bind, Sem.run_pure, Result.andThen_ok, List.map_toArray, List.map_cons, List.map_nil, hs, hx, hr]
  · rw [List.toList_toArray] at hbk
    have h1 := LT.of_blk (B := 0) (l := ds ++ List.replicate k zT) (cap := G) (show Blk _ W.heap.size _ _ from hbk) ?_ ?_ hft (by rw [hlen]; exact hge) hcm (Nat.zero_le _)
    · rw [hlen] at h1
      exact h1
    · rw [List.length_append, hfl, show (flat (List.replicate (G - (ds.length + k)) zT)).length = (List.replicate (G - (ds.length + k)) zT).length * 38 from Flt.len (fun y hy => by rw [List.eq_of_mem_replicate hy]; rfl), List.length_replicate, ← Nat.add_mul, show ds.length + k + (G - (ds.length + k)) = G by omega]
    · rw [hlen, ← hfl]
      exact List.take_left
end
set_option maxRecDepth 100000 in
theorem insert_end {w : World} {v : Value} {l : List T} (h : LT 0 w v l) (x : T) (hx : x.dig.length = 32) (gx : Nat) (hb : Blk w gx 25 x.cells) (hl : l.length ≤ 1000) :
    Calls Tryd.prog 33 #[v, .int .i64 (l.length : Int), .slice (some ⟨gx, 0, none⟩) 1 1] w (ResS w v (l ++ [x])) := by
  obtain ⟨A, cap, hv⟩ := h.slice
  have hcap : l.length ≤ cap := by
    rcases h.form with ⟨h1, h2⟩ | ⟨g, c, h1, _, _, h2, _⟩
    · rw [h2]; exact Nat.zero_le _
    · rw [hv] at h1; injection h1 with _ _ h1; omega
  subst hv
  have HL := Lib.hid h
  have HB := Lib.hid hb
  have HXD := Lib.hid hx
  clear h hb hx
  by_cases hce : cap = l.length
  · subst hce
    go_enter Tryd.func33, Tryd.ntmps33
    go_wp2_with (refine push_one rfl (.tmp 23) (.tmp 24) rfl w (.slice A l.length l.length) l x HXD.out gx rfl HL.out rfl HB.out hl ?_; intro v2 w2 h2 hg2 hat2; have H2 := Lib.hid h2; have HG2 := Lib.hid hg2; have HA2 := Lib.hid hat2; clear h2 hg2 hat2)
    go_ret
    exact ⟨v2, rfl, H2.out, HG2.out, HA2.out.imp id fun e g hg => by rw [e] at hg; injection hg with hg; omega⟩
  · skip
    go_enter Tryd.func33, Tryd.ntmps33
    go_wp2_with (refine push_one rfl (.tmp 23) (.tmp 24) rfl w (.slice A l.length cap) l x HXD.out gx rfl HL.out rfl HB.out hl ?_; intro v2 w2 h2 hg2 hat2; have H2 := Lib.hid h2; have HG2 := Lib.hid hg2; have HA2 := Lib.hid hat2; clear h2 hg2 hat2)
    go_ret
    exact ⟨v2, rfl, H2.out, HG2.out, HA2.out.imp id fun e g hg => by rw [e] at hg; injection hg with hg; omega⟩
theorem sets_len : ∀ (vs l : List Value) (o : Nat), (Flt.sets l o vs).length = l.length
  | [], _, _ => rfl
  | v :: r, l, o => by rw [Flt.sets, sets_len r, List.length_set]
theorem Blk.thereAt {w : World} {g : Nat} {t : TypeId} {cs : List Value} (h : Blk w g t cs) {o k : Nat} (hk : o + k ≤ cs.length) : w.there g o k := fun j hj => by
  refine ⟨?_, h.frozen _⟩
  rw [h.cell, List.getElem?_eq_getElem (by omega)]
  rfl
set_option maxRecDepth 100000 in
set_option maxHeartbeats 1000000 in
theorem insert_shift {w : World} {l : List T} {g cap : Nat} (h : LT 0 w (.slice (some ⟨g, 0, none⟩) l.length cap) l) (hf : Fit l) (i : Nat) (hi : i < l.length) (hroom : l.length + 1 ≤ cap) (x : T) (hx : x.dig.length = 32) (gx : Nat) (hb : Blk w gx 25 x.cells) (hne : gx ≠ g) (hl : l.length ≤ 1000) (hcm : cap ≤ maxLen) :
    Calls Tryd.prog 33 #[.slice (some ⟨g, 0, none⟩) l.length cap, .int .i64 (i : Int), .slice (some ⟨gx, 0, none⟩) 1 1] w (ResS w (.slice (some ⟨g, 0, none⟩) l.length cap) (l.take i ++ x :: l.drop i)) := by
  unfold maxLen at hcm
  obtain ⟨cs, hbc, hcl, _, _, _, _, _⟩ := h.blk
  have hsa : w.shape? gx = some (25, 38) := by
    unfold Blk at hb
    simp [World.shape?, hb, x.len hx]
  have hsb : w.shape? g = some (25, cap * 38) := by
    unfold Blk at hbc
    simp [World.shape?, hbc, hcl]
  have hov : ∀ o lb cb, (callFunc 48 #[.slice (some ⟨gx, 0, none⟩) 1 1, .slice (some ⟨g, o, none⟩) lb cb]).run Tryd.prog w = .ok (.value (.bool false)) w := fun o lb cb => by
    rw [run_callFunc_extern Tryd.func48 (by kernel_rfl) (by kernel_rfl) (by kernel_rfl) (e := Extern.SlicesOverlaps.overlaps #[42, 42] #[4]) (by kernel_rfl),
      Lib.run_overlaps_apart w 42 4 25 Tryd.underlying42 38 (fun w => by as_aux_lemma => kernel_rfl) ⟨gx, 0, none⟩ ⟨g, o, none⟩ 1 1 lb cb hne _ _ _ _ hsa hsb (by omega) (hb.frozen 0) (hb.frozen 38)]
    rfl
  have HOV := Lib.hid hov
  have HL := Lib.hid h
  have HF := Lib.hid hf
  have HB := Lib.hid hb
  have HXD := Lib.hid hx
  have HNE := Lib.hid hne
  have HLD : Hid ((l.drop i).length = l.length - i) := Lib.hid List.length_drop
  have HLN : Hid ((l.take i ++ x :: l.drop i).length = l.length + 1) := Lib.hid (by rw [List.length_append, List.length_cons, List.length_take, List.length_drop]; omega)
  obtain ⟨n, hn⟩ : ∃ n, l.length = n := ⟨_, rfl⟩
  have HN := Lib.hid hn
  have qi : ((i : Int) == (n : Int)) = false := beq_eq_false_iff_ne.2 (by omega)
  have qc : decide ((cap : Int) < (n : Int) + 1) = false := decide_eq_false (by omega)
  have z1 : ¬ (cap = i) := by omega
  have z2 : ¬ (cap = i + 1) := by omega
  clear h hf hb hx hne hov hbc hcl hsa hsb
  rw [hn] at hi hroom hl HL ⊢
  clear hn
  go_enter Tryd.func33, Tryd.ntmps33
  go_upto_region 15 with (simp only [HOV.out])
  refine Ordl.begins (S := fun _ => True) (z := 99) (by kernel_rfl) ?_
  refine Ordl.Bx.out (?_ : Ordl.Bx (Ordl.Any _ _ _ _ _ _ _ _ _ _))
  have X0 : True := trivial
  have HX2 := Lib.hid (Reg.Ext.drew w)
  have HL2 : Hid (LT 0 w.drew (.slice (some ⟨g, 0, none⟩) l.length cap) l) := Lib.hid (by rw [HN.out]; exact own_ext HL.out (Reg.Ext.drew w))
  have HB2 := Lib.hid (HB.out.ext (Reg.Ext.drew w))
  generalize w.drew = w2 at *
  have hw : IntKind.i64.wrap ((i : Int) + 1) = ((i + 1 : Nat) : Int) := by rw [IntKind.wrap_i64]; omega
  refine Ordl.take (i := 0) (v := .slice (some ⟨g, 0, none⟩) (n + 1) cap) rfl (by kernel_rfl) (by kernel_rfl) (by kernel_rfl) (by kernel_rfl) (fun _ _ _ h => h) (.inl ⟨by kernel_rfl, fun w _ => by as_aux_lemma => kernel_rfl⟩) X0 ?_
  simp only [List.getElem_toArray, List.getElem_cons_succ, List.getElem_cons_zero, Act.put, Act.eval, List.setIfInBounds_toArray, List.set_cons_zero, List.set_cons_succ, Nat.reduceAdd, Array.getD_eq_getD_getElem?, List.getElem?_toArray, List.getElem?_cons_succ, List.getElem?_cons_zero, Option.getD_some]
  refine Ordl.take (i := 1) (v := .int .i64 (i : Int)) rfl (by kernel_rfl) (by kernel_rfl) (by kernel_rfl) (by kernel_rfl) (fun _ _ _ h => h) (.inl ⟨by kernel_rfl, fun w _ => by as_aux_lemma => kernel_rfl⟩) X0 ?_
  simp only [List.getElem_toArray, List.getElem_cons_succ, List.getElem_cons_zero, Act.put, Act.eval, List.setIfInBounds_toArray, List.set_cons_zero, List.set_cons_succ, Nat.reduceAdd, Array.getD_eq_getD_getElem?, List.getElem?_toArray, List.getElem?_cons_succ, List.getElem?_cons_zero, Option.getD_some]
  refine Ordl.take (i := 2) (v := .int .i64 1) rfl (by kernel_rfl) (by kernel_rfl) (by kernel_rfl) (by kernel_rfl) (fun _ _ _ h => h) (.inl ⟨by kernel_rfl, fun w _ => by as_aux_lemma => kernel_rfl⟩) X0 ?_
  simp only [List.getElem_toArray, List.getElem_cons_succ, List.getElem_cons_zero, Act.put, Act.eval, List.setIfInBounds_toArray, List.set_cons_zero, List.set_cons_succ, Nat.reduceAdd, Array.getD_eq_getD_getElem?, List.getElem?_toArray, List.getElem?_cons_succ, List.getElem?_cons_zero, Option.getD_some]
  refine Ordl.take (i := 3) (v := .int .i64 (IntKind.i64.wrap ((i : Int) + 1))) rfl (by kernel_rfl) (by kernel_rfl) (by kernel_rfl) (by kernel_rfl) (fun _ _ _ h => h) (.inl ⟨by kernel_rfl, fun w _ => by as_aux_lemma => kernel_rfl⟩) X0 ?_
  simp only [List.getElem_toArray, List.getElem_cons_succ, List.getElem_cons_zero, Act.put, Act.eval, List.setIfInBounds_toArray, List.set_cons_zero, List.set_cons_succ, Nat.reduceAdd, Array.getD_eq_getD_getElem?, List.getElem?_toArray, List.getElem?_cons_succ, List.getElem?_cons_zero, Option.getD_some]
  rw [hw]
  refine Ordl.take (i := 4) (v := .slice (some ⟨g, (i + 1) * 38, none⟩) (n - i) (cap - (i + 1))) rfl (by kernel_rfl) (by kernel_rfl) (by kernel_rfl) (by kernel_rfl) (fun _ _ _ h => h) (.inl ⟨by kernel_rfl, fun w hS => exec_from' (n := n + 1) (k := i + 1) (.tmp 69) (.tmp 72) rfl (by kernel_rfl) (by kernel_rfl) (by omega) (by omega) (by omega) rfl w⟩) X0 ?_
  simp only [List.getElem_toArray, List.getElem_cons_succ, List.getElem_cons_zero, Act.put, Act.eval, List.setIfInBounds_toArray, List.set_cons_zero, List.set_cons_succ, Nat.reduceAdd, Array.getD_eq_getD_getElem?, List.getElem?_toArray, List.getElem?_cons_succ, List.getElem?_cons_zero, Option.getD_some]
  refine Ordl.take (i := 5) (v := .slice (some ⟨g, 0, none⟩) (n + 1) cap) rfl (by kernel_rfl) (by kernel_rfl) (by kernel_rfl) (by kernel_rfl) (fun _ _ _ h => h) (.inl ⟨by kernel_rfl, fun w _ => by as_aux_lemma => kernel_rfl⟩) X0 ?_
  simp only [List.getElem_toArray, List.getElem_cons_succ, List.getElem_cons_zero, Act.put, Act.eval, List.setIfInBounds_toArray, List.set_cons_zero, List.set_cons_succ, Nat.reduceAdd, Array.getD_eq_getD_getElem?, List.getElem?_toArray, List.getElem?_cons_succ, List.getElem?_cons_zero, Option.getD_some]
  refine Ordl.take (i := 6) (v := .int .i64 (i : Int)) rfl (by kernel_rfl) (by kernel_rfl) (by kernel_rfl) (by kernel_rfl) (fun _ _ _ h => h) (.inl ⟨by kernel_rfl, fun w _ => by as_aux_lemma => kernel_rfl⟩) X0 ?_
  simp only [List.getElem_toArray, List.getElem_cons_succ, List.getElem_cons_zero, Act.put, Act.eval, List.setIfInBounds_toArray, List.set_cons_zero, List.set_cons_succ, Nat.reduceAdd, Array.getD_eq_getD_getElem?, List.getElem?_toArray, List.getElem?_cons_succ, List.getElem?_cons_zero, Option.getD_some]
  refine Ordl.take (i := 7) (v := .slice (some ⟨g, i * 38, none⟩) (n + 1 - i) (cap - i)) rfl (by kernel_rfl) (by kernel_rfl) (by kernel_rfl) (by kernel_rfl) (fun _ _ _ h => h) (.inl ⟨by kernel_rfl, fun w hS => exec_from' (n := n + 1) (k := i) (.tmp 74) (.tmp 75) rfl (by kernel_rfl) (by kernel_rfl) (by omega) (by omega) rfl rfl w⟩) X0 ?_
  simp only [List.getElem_toArray, List.getElem_cons_succ, List.getElem_cons_zero, Act.put, Act.eval, List.setIfInBounds_toArray, List.set_cons_zero, List.set_cons_succ, Nat.reduceAdd, Array.getD_eq_getD_getElem?, List.getElem?_toArray, List.getElem?_cons_succ, List.getElem?_cons_zero, Option.getD_some]
  have HFD : Hid (Fit (l.drop i)) := Lib.hid fun y hy => HF.out y (List.mem_of_mem_drop hy)
  have HDF : Hid ((flat (l.drop i)).length = (n - i) * 38) := Lib.hid (by rw [show (flat (l.drop i)).length = (l.drop i).length * 38 from Flt.len HFD.out.len, HLD.out, HN.out])
  have hmul : (i + 1) * 38 + (n - i) * 38 ≤ cap * 38 := by rw [← Nat.add_mul]; exact Nat.mul_le_mul_right _ (by omega)
  refine Ordl.one (i := 8) (by kernel_rfl) rfl ?_
  refine ⟨?_⟩
  refine wpList_copyT rfl (.tmp 73) (.tmp 76) rfl w2 g ((i + 1) * 38) (n - i) _ ⟨g, i * 38, none⟩ (n + 1 - i) _ (n - i) rfl rfl (by simp only [Nat.min_def]; split <;> omega) (l.drop i) HFD.out (by rw [HLD.out, HN.out]) (HL2.out.tail HF.out i) (LT.room HL2.out (by rw [HDF.out]; exact hmul)) ?_
  refine Ordl.Bx.out (?_ : Ordl.Bx _)
  refine Ordl.fin X0 ?_
  simp only [List.getElem_toArray, List.getElem_cons_succ, List.getElem_cons_zero, Act.put, Act.eval, List.setIfInBounds_toArray, List.set_cons_zero, List.set_cons_succ, Nat.reduceAdd, Array.getD_eq_getD_getElem?, List.getElem?_toArray, List.getElem?_cons_succ, List.getElem?_cons_zero, Option.getD_some]
  refine Ordl.done (by kernel_rfl) ?_ _
  clear X0 hw
  have HB3 := Lib.hid (HB2.out.but (But.setCells g (flat (l.drop i)) ((i + 1) * 38) w2) HNE.out)
  have HT3 : Hid ((w2.setCells g ((i + 1) * 38) (flat (l.drop i))).there g (i * 38) (flat [x]).length) := Lib.hid (by
    obtain ⟨cs, hbc, hcl, _, _, _, _, _⟩ := HL2.out.blk
    have h1 := Blk.sets (flat (l.drop i)) cs ((i + 1) * 38) hbc
    refine Blk.thereAt h1 ?_
    rw [sets_len, hcl, show (flat [x]).length = 38 by simp [flat, x.len HXD.out]]
    omega)
  have HI := Lib.hid (HL2.out.insert HF.out i (by rw [HN.out]; omega) (by rw [HN.out]; exact hroom) x HXD.out)
  have HG : Hid (w.grownBy ((w2.setCells g ((i + 1) * 38) (flat (l.drop i))).setCells g (i * 38) x.cells) (some g)) := Lib.hid (((But.of_ext HX2.out).trans (But.setCells g _ _ _)).trans (But.setCells g _ _ _))
  generalize w2.setCells g ((i + 1) * 38) (flat (l.drop i)) = w3 at *
  go_wp2_with (refine wpList_copyT rfl (.tmp 80) (.tmp 81) rfl w3 g (i * 38) (n + 1 - i) (cap - i) ⟨gx, 0, none⟩ 1 1 1 rfl rfl (by simp only [Nat.min_def]; split <;> omega) [x] (fun y hy => by rw [List.mem_singleton.1 hy]; exact HXD.out) rfl (fun j u hj => by rw [Addr.add_mid, Nat.zero_add, HB3.out.cell]; simpa [flat] using hj) HT3.out ?_)
  go_ret
  have e1 : flat [x] = x.cells := by simp [flat]
  rw [e1]
  refine ⟨_, rfl, ?_, HG.out, .inl rfl⟩
  have h1 := HI.out
  rw [HN.out] at h1
  exact h1
set_option maxRecDepth 100000 in
set_option maxHeartbeats 1000000 in
theorem insert_grow {w : World} {l : List T} {g cap : Nat} (h : LT 0 w (.slice (some ⟨g, 0, none⟩) l.length cap) l) (hf : Fit l) (i : Nat) (hi : i < l.length) (hcap : l.length ≤ cap) (hroom : cap < l.length + 1) (x : T) (hx : x.dig.length = 32) (gx : Nat) (hb : Blk w gx 25 x.cells) (hne : gx ≠ g) (hl : l.length ≤ 1000) :
    Calls Tryd.prog 33 #[.slice (some ⟨g, 0, none⟩) l.length cap, .int .i64 (i : Int), .slice (some ⟨gx, 0, none⟩) 1 1] w (ResS w (.slice (some ⟨g, 0, none⟩) l.length cap) (l.take i ++ x :: l.drop i)) := by
  have HL := Lib.hid h
  have HF := Lib.hid hf
  have HB := Lib.hid hb
  have HXD := Lib.hid hx
  have HLD : Hid ((l.drop i).length = l.length - i) := Lib.hid List.length_drop
  have HLT : Hid ((l.take i).length = i) := Lib.hid (by rw [List.length_take]; omega)
  obtain ⟨n, hn⟩ : ∃ n, l.length = n := ⟨_, rfl⟩
  have HN := Lib.hid hn
  have hce : cap = n := by omega
  subst hce
  have HGL : Hid (g < w.heap.size ∧ gx < w.heap.size) := Lib.hid ⟨(h.lt (g := g) rfl).2, hb.lt⟩
  have qi : ((i : Int) == (cap : Int)) = false := beq_eq_false_iff_ne.2 (by omega)
  have qc : decide ((cap : Int) < (cap : Int) + 1) = true := decide_eq_true (by omega)
  have z1 : ¬ (cap = i) := by omega
  clear h hf hb hx hroom hcap hne
  rw [hn] at hi hl HL ⊢
  clear hn
  go_enter Tryd.func33, Tryd.ntmps33
  have hk1 : ((cap : Int) + 1 - (i : Int)) = ((cap + 1 - i : Nat) : Int) := by omega
  have hik : i + (cap + 1 - i) = cap + 1 := by omega
  go_upto_region 10 with (refine append_zeros rfl (.tmp 34) (.tmp 39) rfl w g i cap (l.take i) rfl HLT.out (LT.head (by rw [HN.out]; exact HL.out) HF.out i) (fun y hy => HF.out y (List.mem_of_mem_take hy)) (cap + 1 - i) (by omega) _ rfl (by first | rfl | omega) (by omega) (by omega) ?_; intro c2 w1 hc2 h1 hx1; rw [hik] at h1 hc2 ⊢; have H1 := Lib.hid h1; have HX1 := Lib.hid hx1; clear h1 hx1)
  generalize hg2 : w.heap.size = g2 at *
  have z3 : ¬ (c2 = i) := by omega
  have HGG : Hid (g ≠ g2) := Lib.hid (by have := HGL.out; omega)
  have HGX : Hid (gx ≠ g2) := Lib.hid (by have := HGL.out; omega)
  have HF1 : Hid (Fit (l.take i ++ List.replicate (cap + 1 - i) zT)) := Lib.hid fun y hy => by
    rcases List.mem_append.1 hy with hy | hy
    · exact HF.out y (List.mem_of_mem_take hy)
    · rw [List.eq_of_mem_replicate hy]; rfl
  have HL1 : Hid ((l.take i ++ List.replicate (cap + 1 - i) zT).length = cap + 1) := Lib.hid (by rw [List.length_append, HLT.out, List.length_replicate]; omega)
  have HFX : Hid (Fit [x]) := Lib.hid fun y hy => by rw [List.mem_singleton.1 hy]; exact HXD.out
  have HO1 := Lib.hid (LT.over (by rw [HL1.out]; exact H1.out) HF1.out i [x] HFX.out (by rw [HL1.out]; show i + 1 ≤ cap + 1; omega))
  have HBX := Lib.hid (HB.out.ext HX1.out)
  have HLW : Hid (LT 0 w1 (.slice (some ⟨g, 0, none⟩) cap cap) l) := Lib.hid (own_ext HL.out HX1.out)
  clear H1 HB HL
  go_upto_region 11 with (refine wpList_copyT rfl (.tmp 43) (.tmp 44) rfl w1 g2 (i * 38) (cap + 1 - i) (c2 - i) ⟨gx, 0, none⟩ 1 1 1 rfl rfl (by simp only [Nat.min_def]; split <;> omega) [x] HFX.out rfl (fun j u hj => by rw [Addr.add_mid, Nat.zero_add, HBX.out.cell]; simpa [flat] using hj) HO1.out.2 ?_)
  have H2 := Lib.hid HO1.out.1
  have HX2 : Hid (Reg.Ext w (w1.setCells g2 (i * 38) (flat [x]))) := Lib.hid (HX1.out.trans_but (But.setCells g2 _ _ _) (by rw [hg2]; exact Nat.le_refl _))
  have HLW2 : Hid (LT 0 (w1.setCells g2 (i * 38) (flat [x])) (.slice (some ⟨g, 0, none⟩) cap cap) l) := Lib.hid (own_keep HLW.out fun y hy => (But.setCells g2 (flat [x]) (i * 38) w1).block y (LT.lt HLW.out hy).2 fun e => HGG.out (by
    have h1 : g = y := by injection hy
    injection e with e
    rw [h1, e]))
  clear HO1 HBX HLW HX1
  generalize w1.setCells g2 (i * 38) (flat [x]) = w2 at *
  rw [HL1.out] at H2
  refine Ordl.begins (S := fun _ => True) (z := 99) (by kernel_rfl) ?_
  refine Ordl.Bx.out (?_ : Ordl.Bx (Ordl.Any _ _ _ _ _ _ _ _ _ _))
  have X0 : True := trivial
  have H3 := Lib.hid (own_ext H2.out (Reg.Ext.drew w2))
  have HX3 := Lib.hid (HX2.out.trans (Reg.Ext.drew w2))
  have HLW3 : Hid (LT 0 w2.drew (.slice (some ⟨g, 0, none⟩) cap cap) l) := Lib.hid (own_ext HLW2.out (Reg.Ext.drew w2))
  clear H2 HX2 HLW2
  generalize w2.drew = w3 at *
  have hw : IntKind.i64.wrap ((i : Int) + 1) = ((i + 1 : Nat) : Int) := by rw [IntKind.wrap_i64]; omega
  refine Ordl.take (i := 0) (v := .slice (some ⟨g2, 0, none⟩) (cap + 1) c2) rfl (by kernel_rfl) (by kernel_rfl) (by kernel_rfl) (by kernel_rfl) (fun _ _ _ h => h) (.inl ⟨by kernel_rfl, fun w _ => by as_aux_lemma => kernel_rfl⟩) X0 ?_
  simp only [List.getElem_toArray, List.getElem_cons_succ, List.getElem_cons_zero, Act.put, Act.eval, List.setIfInBounds_toArray, List.set_cons_zero, List.set_cons_succ, Nat.reduceAdd, Array.getD_eq_getD_getElem?, List.getElem?_toArray, List.getElem?_cons_succ, List.getElem?_cons_zero, Option.getD_some]
  refine Ordl.take (i := 1) (v := .int .i64 (i : Int)) rfl (by kernel_rfl) (by kernel_rfl) (by kernel_rfl) (by kernel_rfl) (fun _ _ _ h => h) (.inl ⟨by kernel_rfl, fun w _ => by as_aux_lemma => kernel_rfl⟩) X0 ?_
  simp only [List.getElem_toArray, List.getElem_cons_succ, List.getElem_cons_zero, Act.put, Act.eval, List.setIfInBounds_toArray, List.set_cons_zero, List.set_cons_succ, Nat.reduceAdd, Array.getD_eq_getD_getElem?, List.getElem?_toArray, List.getElem?_cons_succ, List.getElem?_cons_zero, Option.getD_some]
  refine Ordl.take (i := 2) (v := .int .i64 1) rfl (by kernel_rfl) (by kernel_rfl) (by kernel_rfl) (by kernel_rfl) (fun _ _ _ h => h) (.inl ⟨by kernel_rfl, fun w _ => by as_aux_lemma => kernel_rfl⟩) X0 ?_
  simp only [List.getElem_toArray, List.getElem_cons_succ, List.getElem_cons_zero, Act.put, Act.eval, List.setIfInBounds_toArray, List.set_cons_zero, List.set_cons_succ, Nat.reduceAdd, Array.getD_eq_getD_getElem?, List.getElem?_toArray, List.getElem?_cons_succ, List.getElem?_cons_zero, Option.getD_some]
  refine Ordl.take (i := 3) (v := .int .i64 (IntKind.i64.wrap ((i : Int) + 1))) rfl (by kernel_rfl) (by kernel_rfl) (by kernel_rfl) (by kernel_rfl) (fun _ _ _ h => h) (.inl ⟨by kernel_rfl, fun w _ => by as_aux_lemma => kernel_rfl⟩) X0 ?_
  simp only [List.getElem_toArray, List.getElem_cons_succ, List.getElem_cons_zero, Act.put, Act.eval, List.setIfInBounds_toArray, List.set_cons_zero, List.set_cons_succ, Nat.reduceAdd, Array.getD_eq_getD_getElem?, List.getElem?_toArray, List.getElem?_cons_succ, List.getElem?_cons_zero, Option.getD_some]
  rw [hw]
  refine Ordl.take (i := 4) (v := .slice (some ⟨g2, (i + 1) * 38, none⟩) (cap - i) (c2 - (i + 1))) rfl (by kernel_rfl) (by kernel_rfl) (by kernel_rfl) (by kernel_rfl) (fun _ _ _ h => h) (.inl ⟨by kernel_rfl, fun w hS => exec_from' (n := cap + 1) (k := i + 1) (.tmp 46) (.tmp 49) rfl (by kernel_rfl) (by kernel_rfl) (by omega) (by omega) (by omega) rfl w⟩) X0 ?_
  simp only [List.getElem_toArray, List.getElem_cons_succ, List.getElem_cons_zero, Act.put, Act.eval, List.setIfInBounds_toArray, List.set_cons_zero, List.set_cons_succ, Nat.reduceAdd, Array.getD_eq_getD_getElem?, List.getElem?_toArray, List.getElem?_cons_succ, List.getElem?_cons_zero, Option.getD_some]
  refine Ordl.take (i := 5) (v := .slice (some ⟨g, 0, none⟩) cap cap) rfl (by kernel_rfl) (by kernel_rfl) (by kernel_rfl) (by kernel_rfl) (fun _ _ _ h => h) (.inl ⟨by kernel_rfl, fun w _ => by as_aux_lemma => kernel_rfl⟩) X0 ?_
  simp only [List.getElem_toArray, List.getElem_cons_succ, List.getElem_cons_zero, Act.put, Act.eval, List.setIfInBounds_toArray, List.set_cons_zero, List.set_cons_succ, Nat.reduceAdd, Array.getD_eq_getD_getElem?, List.getElem?_toArray, List.getElem?_cons_succ, List.getElem?_cons_zero, Option.getD_some]
  refine Ordl.take (i := 6) (v := .int .i64 (i : Int)) rfl (by kernel_rfl) (by kernel_rfl) (by kernel_rfl) (by kernel_rfl) (fun _ _ _ h => h) (.inl ⟨by kernel_rfl, fun w _ => by as_aux_lemma => kernel_rfl⟩) X0 ?_
  simp only [List.getElem_toArray, List.getElem_cons_succ, List.getElem_cons_zero, Act.put, Act.eval, List.setIfInBounds_toArray, List.set_cons_zero, List.set_cons_succ, Nat.reduceAdd, Array.getD_eq_getD_getElem?, List.getElem?_toArray, List.getElem?_cons_succ, List.getElem?_cons_zero, Option.getD_some]
  refine Ordl.take (i := 7) (v := .slice (some ⟨g, i * 38, none⟩) (cap - i) (cap - i)) rfl (by kernel_rfl) (by kernel_rfl) (by kernel_rfl) (by kernel_rfl) (fun _ _ _ h => h) (.inl ⟨by kernel_rfl, fun w hS => exec_from' (n := cap) (k := i) (.tmp 51) (.tmp 52) rfl (by kernel_rfl) (by kernel_rfl) (by omega) (by omega) rfl rfl w⟩) X0 ?_
  simp only [List.getElem_toArray, List.getElem_cons_succ, List.getElem_cons_zero, Act.put, Act.eval, List.setIfInBounds_toArray, List.set_cons_zero, List.set_cons_succ, Nat.reduceAdd, Array.getD_eq_getD_getElem?, List.getElem?_toArray, List.getElem?_cons_succ, List.getElem?_cons_zero, Option.getD_some]
  have HFD : Hid (Fit (l.drop i)) := Lib.hid fun y hy => HF.out y (List.mem_of_mem_drop hy)
  obtain ⟨l2, hl2⟩ : ∃ l2, (l.take i ++ List.replicate (cap + 1 - i) zT).take i ++ [x] ++ (l.take i ++ List.replicate (cap + 1 - i) zT).drop (i + [x].length) = l2 := ⟨_, rfl⟩
  have HL2 : Hid (l2.length = cap + 1 ∧ Fit l2 ∧ l2.take (i + 1) = l.take i ++ [x]) := Lib.hid (by
    rw [← hl2]
    have e0 : (l.take i ++ List.replicate (cap + 1 - i) zT).take i = l.take i := by rw [List.take_append_of_le_length (by rw [HLT.out]; exact Nat.le_refl _), List.take_take, Nat.min_self]
    refine ⟨?_, fun y hy => ?_, ?_⟩
    · rw [List.length_append, List.length_append, List.length_take, List.length_drop, HL1.out]
      simp only [List.length_singleton]
      omega
    · rcases List.mem_append.1 hy with hy | hy
      · rcases List.mem_append.1 hy with hy | hy
        · exact HF1.out y (List.mem_of_mem_take hy)
        · exact HFX.out y hy
      · exact HF1.out y (List.mem_of_mem_drop hy)
    · rw [e0, List.take_append_of_le_length (by rw [List.length_append, HLT.out]; exact Nat.le_refl _), List.take_of_length_le (by rw [List.length_append, HLT.out]; exact Nat.le_refl _)])
  rw [hl2] at H3
  clear hl2
  have HO3 := Lib.hid (LT.over (show LT 0 w3 (.slice (some ⟨g2, 0, none⟩) l2.length c2) l2 by rw [HL2.out.1]; exact H3.out) HL2.out.2.1 (i + 1) (l.drop i) HFD.out (by rw [HL2.out.1, HLD.out, HN.out]; omega))
  refine Ordl.one (i := 8) (by kernel_rfl) rfl ?_
  refine ⟨?_⟩
  refine wpList_copyT rfl (.tmp 50) (.tmp 53) rfl w3 g2 ((i + 1) * 38) (cap - i) _ ⟨g, i * 38, none⟩ (cap - i) _ (cap - i) rfl rfl (Nat.min_self _) (l.drop i) HFD.out (by rw [HLD.out, HN.out]) (LT.tail (by rw [HN.out]; exact HLW3.out) HF.out i) HO3.out.2 ?_
  refine Ordl.Bx.out (?_ : Ordl.Bx _)
  refine Ordl.fin X0 ?_
  simp only [List.getElem_toArray, List.getElem_cons_succ, List.getElem_cons_zero, Act.put, Act.eval, List.setIfInBounds_toArray, List.set_cons_zero, List.set_cons_succ, Nat.reduceAdd, Array.getD_eq_getD_getElem?, List.getElem?_toArray, List.getElem?_cons_succ, List.getElem?_cons_zero, Option.getD_some]
  refine Ordl.done (by kernel_rfl) ?_ _
  clear X0 hw
  have HX4 : Hid (Reg.Ext w (w3.setCells g2 ((i + 1) * 38) (flat (l.drop i)))) := Lib.hid (HX3.out.trans_but (But.setCells g2 _ _ _) (by rw [hg2]; exact Nat.le_refl _))
  have H4 := Lib.hid HO3.out.1
  clear HO3 H3 HLW3 HX3
  generalize w3.setCells g2 ((i + 1) * 38) (flat (l.drop i)) = w4 at *
  go_wp2_with fail
  go_ret
  refine ⟨_, rfl, ?_, But.of_ext HX4.out, .inr fun y hy => ?_⟩
  · have h1 := H4.out
    have e1 : i + 1 + (l.drop i).length = cap + 1 := by rw [HLD.out, HN.out]; omega
    have e2 : l2.drop (cap + 1) = [] := List.drop_of_length_le (by rw [HL2.out.1]; exact Nat.le_refl _)
    rw [HL2.out.1, e1, e2, List.append_nil, HL2.out.2.2, List.append_assoc] at h1
    exact h1
  · have h1 : g2 = y := by injection hy
    rw [hg2, h1]
    exact Nat.le_refl _
/-- slices.Insert of one ticket -/
theorem insert_any {w : World} {v : Value} {l : List T} (h : LT 0 w v l) (hf : Fit l) (i : Nat) (hi : i ≤ l.length) (x : T) (hx : x.dig.length = 32) (gx : Nat) (hb : Blk w gx 25 x.cells) (hne : v.ownBlock ≠ some gx) (hl : l.length ≤ 1000) :
    Calls Tryd.prog 33 #[v, .int .i64 (i : Int), .slice (some ⟨gx, 0, none⟩) 1 1] w (ResS w v (l.take i ++ x :: l.drop i)) := by
  by_cases hie : i = l.length
  · subst hie
    rw [List.take_length, List.drop_length]
    exact insert_end h x hx gx hb hl
  · rcases h.form with ⟨_, h2⟩ | ⟨g, cap, h2, _, _, h3, h4⟩
    · rw [h2] at hi hie; exact absurd (Nat.le_zero.1 hi) hie
    subst h2
    have hgx : gx ≠ g := fun e => hne (by rw [e]; rfl)
    by_cases hr : l.length + 1 ≤ cap
    · exact insert_shift h hf i (by omega) hr x hx gx hb hgx hl h4
    · exact insert_grow h hf i (by omega) h3 (by omega) x hx gx hb hgx hl
end Tk
end Go.Proofs.YtcfdlfedmbmidaaDoor

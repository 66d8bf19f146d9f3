/- A row of slips put behind a row of the call's own. -/
import Derived.Test.YtafeealbdpmdkaaGreatDoorDyL
import Derived.Test.YtafeealbdpmdkaaGreatDoorOrdl
import Derived.Laws.OwnMore
set_option linter.unusedSimpArgs false
set_option linter.unusedVariables false
set_option linter.unusedSectionVars false
-- squeezed
namespace Go.Proofs.YtafeealbdpmdkaaGreatDoor
open Go Go.RowKit
namespace Slp
theorem flat_append (xs ys : List S) : flat (xs ++ ys) = flat xs ++ flat ys := by simp [flat]
theorem flat_one (ys : List S) : ∀ u ∈ flat ys, u.oneCell' = true := fun u hu => by
 unfold flat at hu
 obtain ⟨cs, hc, hu⟩ := List.mem_flatten.1 hu
 obtain ⟨y, _, rfl⟩ := List.mem_map.1 hc
 exact oneS y u hu
section
variable {ops : Array Oper} {rest : List Oper} {o : Oper} {a : Act} {w : World} {Q : Exit → Act → World → Prop}
/-- a row put behind a row of the call's own, under a guard too -/
theorem wpList_cat (s x : Operand) (ho : o.op = .call { callee := .builtin .append, args := #[s, x], argTypes := #[29, 29] })
  (v u : Value) (xs ys : List S) (B C : Nat) (hs : a.eval s = v) (hx : a.eval x = u) (hu : Row C u ys w) (hr : Row B v xs w) (hB : B ≤ w.heap.size) (hm : xs.length + ys.length ≤ 1000000) (hw : Region.wanted o (yielded ops a.tmps) = true)
  (hk : ∀ v' w', Row B v' (xs ++ ys) w' → w.grownBy w' v.ownBlock → wpList Tryz.prog ops Q rest (a.put o.dst v') w') : wpList Tryz.prog ops Q (o :: rest) a w := by
 obtain ⟨i0, hi, hz0, hz1, hz2, hz3⟩ := slipInfo_of
 have run : ∃ v' w', (Builtin.append_ #[29, 29] o.type #[v, u]).run Tryz.prog w = .ok v' w' ∧ w'.ownsRow B 39 38 v' (xs.length + ys.length) (flat xs ++ flat ys) ∧ w.grownBy w' v.ownBlock := by
  rcases hu.1.2 with ⟨e, h0⟩ | ⟨g, cap, cur, e, h1, h2, h3, h4, h5, h6⟩
  ·have h0 : ys = [] := List.length_eq_zero_iff.1 h0
   subst e h0
   exact ⟨v, w, run_append_owned_none (P := Tryz.prog) (w := w) B 29 o.type 39 i0 38 Tryz.underlying29 hi v xs.length (flat xs) hr.1, by simpa [flat] using hr.1, World.grownBy.refl w _⟩
  ·have hc := hu.1.cells (g := g) (by rw [e]; rfl)
   subst e
   have hl : (flat ys).length = ys.length * 38 := hu.1.1
   obtain ⟨v', w', k1, k2, k3, -, -⟩ := run_append_own_at (P := Tryz.prog) w B 29 o.type 39 i0 (.agg S.none.cells.toArray) 38 104 Tryz.underlying29 hi hz0 hz1 hz2 hz3 (by decide) v xs.length (flat xs) hr.1 ⟨g, 0, none⟩ ys.length cap (flat ys) hl (fun j u hj => hc j u hj) (flat_one ys) (by unfold maxLen; omega) (by omega) hB
   exact ⟨v', w', k1, k2, k3⟩
 obtain ⟨v', w', h1, h2, h3⟩ := run
 refine wpList_any hw v' w' ?_ (hk v' w' ⟨by rw [List.length_append, flat_append]; exact h2, fun y hy => (List.mem_append.1 hy).elim (hr.2 y) (hu.2 y)⟩ h3)
 unfold execOp
 simp only [ho, resolve, invoke, builtin, Sem.run_bind, Sem.run_pure, Result.andThen_ok, List.map_toArray, List.map_cons, List.map_nil, hs, hx, h1]
end
section
variable {ops : Array Oper} {rest : List Oper} {o : Oper} {a : Act} {w : World} {Q : Exit → Act → World → Prop}
set_option maxRecDepth 100000 in
/-- the same, of a row that came in -/
theorem wpList_catr (s x : Operand) (ho : o.op = .call { callee := .builtin .append, args := #[s, x], argTypes := #[29, 29] })
  (v u : Value) (xs ys : List S) (B : Nat) (hs : a.eval s = v) (hx : a.eval x = u) (hu : RdS u ys w) (hnil : ∀ n c, u = .slice none n c → c = 0) (hr : Row B v xs w) (hB : B ≤ w.heap.size) (hm : xs.length + ys.length ≤ 1000000) (hw : Region.wanted o (yielded ops a.tmps) = true)
  (hk : ∀ p n c w', Row B (.slice p n c) (xs ++ ys) w' → w.grownBy w' v.ownBlock → wpList Tryz.prog ops Q rest (a.put o.dst (.slice p n c)) w') : wpList Tryz.prog ops Q (o :: rest) a w := by
 obtain ⟨i0, hi, hz0, hz1, hz2, hz3⟩ := slipInfo_of
 have run : ∃ v' w', (Builtin.append_ #[29, 29] o.type #[v, u]).run Tryz.prog w = .ok v' w' ∧ w'.ownsRow B 39 38 v' (xs.length + ys.length) (flat xs ++ flat ys) ∧ w.grownBy w' v.ownBlock := by
  obtain ⟨hd, p, c, e, hm1, hc⟩ := hu
  cases p with
  | none =>
    have h0 : ys = [] := by
     cases ys with
     | nil => rfl
     | cons y ys => obtain ⟨g, o, e1, _⟩ := hc 0 (by simp); cases e1
    have hc0 := hnil _ _ e
    subst h0 hc0 e
    exact ⟨v, w, run_append_owned_none (P := Tryz.prog) (w := w) B 29 o.type 39 i0 38 Tryz.underlying29 hi v xs.length (flat xs) hr.1, by simpa [flat] using hr.1, World.grownBy.refl w _⟩
  | some ad =>
    subst e
    have hl : ∀ zs : List S, (∀ x ∈ zs, x.dig.length = 32) → (flat zs).length = zs.length * 38 := fun zs => by
     induction zs with
     | nil => intro _; rfl
     | cons y zs ih => intro h; rw [show flat (y :: zs) = y.cells ++ flat zs by simp [flat], List.length_append, cells_length y (h y (List.mem_cons_self ..)), ih fun x hx => h x (List.mem_cons_of_mem _ hx), List.length_cons]; omega
    have hnews : ∀ j u, (flat ys)[j]? = some u → w.cell? (ad.add j) = some u := fun j u hj => by
     have hjl : j < ys.length * 38 := by rw [← hl ys hd]; exact (List.getElem?_eq_some_iff.1 hj).1
     have hk1 : j / 38 < ys.length := by omega
     obtain ⟨g, o, e1, hra⟩ := hc (j / 38) hk1
     injection e1 with e1
     subst e1
     have hat := flat_at ys hd (j / 38) hk1 (j % 38)
     have hcl : (ys[j / 38].cells).length = 38 := cells_length _ (hd _ (List.getElem_mem hk1))
     have hm38 : j % 38 < 38 := Nat.mod_lt _ (by decide)
     have hlt38 : j % 38 < (ys[j / 38].cells).length := by omega
     obtain ⟨u', hu'⟩ : ∃ u', (ys[j / 38].cells)[j % 38]? = some u' := ⟨_, List.getElem?_eq_getElem hlt38⟩
     have h2 := hat u' hu'
     rw [show j / 38 * 38 + j % 38 = j by omega] at h2
     rw [hj] at h2
     injection h2 with h2
     subst h2
     have := hra (j % 38) u hu'
     rw [Addr.add_mid]
     rw [show o + j = o + j / 38 * 38 + j % 38 by omega]
     exact this
    obtain ⟨v', w', k1, k2, k3, -, -⟩ := run_append_own_at (P := Tryz.prog) w B 29 o.type 39 i0 (.agg S.none.cells.toArray) 38 104 Tryz.underlying29 hi hz0 hz1 hz2 hz3 (by decide) v xs.length (flat xs) hr.1 ad ys.length c (flat ys) (hl ys hd) hnews (flat_one ys) (by unfold maxLen; omega) (by omega) hB
    exact ⟨v', w', k1, k2, k3⟩
 obtain ⟨v', w', h1, h2, h3⟩ := run
 have hrow : Row B v' (xs ++ ys) w' := ⟨by rw [List.length_append, flat_append]; exact h2, fun y hy => (List.mem_append.1 hy).elim (hr.2 y) (hu.1 y)⟩
 obtain ⟨-, p, c, rfl, -, -⟩ := hrow.rd
 refine wpList_any hw _ w' ?_ (hk p _ c w' hrow h3)
 unfold execOp
 simp only [ho, resolve, invoke, builtin, Sem.run_bind, Sem.run_pure, Result.andThen_ok, List.map_toArray, List.map_cons, List.map_nil, hs, hx, h1]
end
section
open Ordl (Bx)
variable {ops : Array Oper} {rest : List Oper} {o : Oper} {a : Act} {w : World} {Q : Exit → Act → World → Prop}
theorem l_cat (s x : Operand) (ho : o.op = .call { callee := .builtin .append, args := #[s, x], argTypes := #[29, 29] })
  (v u : Value) (xs ys : List S) (B C : Nat) (hs : a.eval s = v) (hx : a.eval x = u) (hu : Row C u ys w) (hr : Row B v xs w) (hB : B ≤ w.heap.size) (hm : xs.length + ys.length ≤ 1000000) (hw : Region.wanted o (yielded ops a.tmps) = true)
  (hk : ∀ v' w', Row B v' (xs ++ ys) w' → w.grownBy w' v.ownBlock → Bx (wpList Tryz.prog ops Q rest (a.put o.dst v') w')) : Bx (wpList Tryz.prog ops Q (o :: rest) a w) :=
 ⟨wpList_cat s x ho v u xs ys B C hs hx hu hr hB hm hw fun v' w' h1 h2 => (hk v' w' h1 h2).out⟩
theorem l_cats (s x : Operand) (ho : o.op = .call { callee := .builtin .append, args := #[s, x], argTypes := #[29, 29] })
  (v u : Value) (xs ys : List S) (B C : Nat) (hs : a.eval s = v) (hx : a.eval x = u) (hu : Row C u ys w) (hr : Row B v xs w) (hB : B ≤ w.heap.size) (hm : xs.length + ys.length ≤ 1000000) (hw : Region.wanted o (yielded ops a.tmps) = true)
  (hk : ∀ p n c w', Row B (.slice p n c) (xs ++ ys) w' → w.grownBy w' v.ownBlock → Bx (wpList Tryz.prog ops Q rest (a.put o.dst (.slice p n c)) w')) : Bx (wpList Tryz.prog ops Q (o :: rest) a w) :=
 ⟨wpList_cat s x ho v u xs ys B C hs hx hu hr hB hm hw fun v' w' h1 h2 => by
  obtain ⟨-, p, c, rfl, -, -⟩ := h1.rd
  exact (hk p _ c w' h1 h2).out⟩
theorem l_r1 (x : Operand) (ho : o.op = .buildSlice 29 1 #[(0, x)]) (u : S) (hu : u.dig.length = 32) (hx : a.eval x = .agg u.cells.toArray)
  (hw : Region.wanted o (yielded ops a.tmps) = true) (hk : ∀ g w', g = w.heap.size → g < w'.heap.size → Reg.Ext w w' → Blk w' g 39 u.cells → Bx (wpList Tryz.prog ops Q rest (a.put o.dst (.slice (some ⟨g, 0, none⟩) 1 1)) w')) : Bx (wpList Tryz.prog ops Q (o :: rest) a w) :=
 ⟨wpList_r1 x ho u hu hx hw fun g w' h1 h2 h3 h4 _ => (hk g w' h1 h2 h3 h4).out⟩
end
theorem Row.one {w : World} {g B : Nat} {u : S} (hu : u.dig.length = 32) (hb : Blk w g 39 u.cells) (hB : B ≤ g) : Row B (.slice (some ⟨g, 0, none⟩) 1 1) [u] w := by
 refine ⟨⟨by simp [flat, cells_length u hu], .inr ⟨g, 1, u.cells.toArray, rfl, hB, hb, Nat.le_refl _, by unfold maxLen; omega, by simp [cells_length u hu], ?_⟩⟩, fun x hx => by rw [List.mem_singleton.1 hx]; exact hu⟩
 simp [flat]
 exact List.take_of_length_le (by rw [cells_length u hu]; omega)
end Slp
end Go.Proofs.YtafeealbdpmdkaaGreatDoor

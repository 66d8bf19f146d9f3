/- A region that draws its order: one operation at a time; a row put behind a row; begins. -/
import Derived.Test.YtafeealbdpmdkaaDoorDyX
import Derived.Deep.RegionHeld
import Derived.Laws.OwnMore
set_option linter.unusedSimpArgs false
set_option linter.unusedVariables false
set_option linter.unusedSectionVars false
namespace Go.Proofs.YtafeealbdpmdkaaDoor
open Go Go.RowKit
namespace Ordd
variable {P : Program} {md : Region.Mode} {ops : Array Oper} {Q : Exit → Act → World → Prop} {S : World → Prop}
def upTo (K : Act → World → Prop) (Q : Exit → Act → World → Prop) : Exit → Act → World → Prop
  | .normal, a, w => K a w
  | .exit i, a, w => Q (.exit i) a w
  | .goto l, a, w => Q (.goto l) a w
  | .ret, a, w => Q .ret a w
  | .panic c, a, w => Q (.panic c) a w
  | .outgrown, a, w => Q .outgrown a w
theorem of_one {i : Nat} {o : Oper} {K : Act → World → Prop} {a : Act} {w : World} (hi : ops[i]? = some o) (h : wpList P ops (upTo K Q) [o] a w) : wpOp P ops Q i K a w := by
  unfold wpList at h
  unfold wpOp
  rw [hi]
  simp only
  split at h
  · rename_i hw
    rw [if_pos hw]
    rcases h with h | h
    · refine .inl ?_
      unfold Oper.wp at *
      generalize (execOp a.eval o).run P w = r at *
      cases r with
      | ok n w' =>
        cases n <;> simp only [Oper.upon] at h ⊢ <;>
          first
            | exact h
            | exact Calls.mono h (fun e w'' he => by cases e <;> first | exact he | (obtain ⟨a, w, he⟩ := he; exact ⟨a, w, he⟩))
            | exact Rows.mono h (fun _ _ he => he)
      | halt x w' => cases x <;> simp only [Oper.upon] at h ⊢ <;> exact h
    · exact .inr ⟨h.1, h.2⟩
  · rename_i hw
    rw [if_neg hw]
    exact h
/-- a goal that is not looked into -/
structure Bx (p : Prop) : Prop where
  out : p
/-- one operation may come up -/
theorem one {i : Nat} {o : Oper} {fuel : Nat} {listed : Array Bool} {a : Act} {w : World} (hr : Region.ready md ops listed = [i]) (hi : ops[i]? = some o)
    (h : Bx (wpList P ops (upTo (fun a' w' => S w' ∧ wpAnyH P md ops Q S fuel (listed.setIfInBounds i true) a' w') Q) [o] a w)) : Bx (wpAnyH P md ops Q S (fuel + 1) listed a w) :=
  ⟨wpAnyH_all hr (by simp) fun j hj => by
    rw [List.mem_singleton.1 hj]
    exact of_one hi h.out⟩
/-- one of two may come up -/
theorem two {i j : Nat} {o o' : Oper} {fuel : Nat} {listed : Array Bool} {a : Act} {w : World} (hr : Region.ready md ops listed = [i, j]) (hi : ops[i]? = some o) (hj : ops[j]? = some o')
    (h : Bx (wpList P ops (upTo (fun a' w' => S w' ∧ wpAnyH P md ops Q S fuel (listed.setIfInBounds i true) a' w') Q) [o] a w))
    (h' : Bx (wpList P ops (upTo (fun a' w' => S w' ∧ wpAnyH P md ops Q S fuel (listed.setIfInBounds j true) a' w') Q) [o'] a w)) : Bx (wpAnyH P md ops Q S (fuel + 1) listed a w) :=
  ⟨wpAnyH_all hr (by simp) fun k hk => by
    rcases List.mem_cons.1 hk with rfl | hk
    · exact of_one hi h.out
    · rw [List.mem_singleton.1 hk]
      exact of_one hj h'.out⟩
theorem fin {a : Act} {w : World} {fuel : Nat} {listed : Array Bool} (hS : S w) (h : Bx (wpAnyH P md ops Q S fuel listed a w)) : Bx (wpList P ops (upTo (fun a' w' => S w' ∧ wpAnyH P md ops Q S fuel listed a' w') Q) [] a w) := ⟨⟨hS, h.out⟩⟩
theorem any {rest : List Oper} {o : Oper} {a : Act} {w : World} (hw : Region.wanted o (yielded ops a.tmps) = true) (v : Value) (w' : World)
    (hr : (execOp a.eval o).run P w = .ok (.value v) w') (hk : Bx (wpList P ops Q rest (a.put o.dst v) w')) : Bx (wpList P ops Q (o :: rest) a w) := ⟨Slp.wpList_any hw v w' hr hk.out⟩
theorem call {rest : List Oper} {o : Oper} {a : Act} {w : World} (hw : Region.wanted o (yielded ops a.tmps) = true) (f : FuncId) (args : Array Value)
    (hr : (execOp a.eval o).run P w = .ok (.enter f args) w) {R : Ending → World → Prop} (hc : Calls P f args w R) (v : Value) (hv : ∀ e w', R e w' → e = .returned v)
    (hk : ∀ w', R (.returned v) w' → Bx (wpList P ops Q rest (a.put o.dst v) w')) : Bx (wpList P ops Q (o :: rest) a w) := by
  refine ⟨?_⟩
  unfold wpList
  rw [if_pos hw]
  refine .inl ?_
  unfold Oper.wp
  rw [hr]
  exact hc.mono fun e w' he => by
    have h1 := hv e w' he
    subst h1
    exact (hk w' he).out
theorem done {listed : Array Bool} {a : Act} {w : World} {fuel : Nat} (hr : Region.ready md ops listed = []) (h : Q .normal a w) : Bx (wpAnyH P md ops Q S fuel listed a w) := ⟨wpAnyH_done hr h fuel⟩
end Ordd
namespace Slp
theorem flat_append (xs ys : List S) : flat (xs ++ ys) = flat xs ++ flat ys := by simp [flat]
theorem flat_one (ys : List S) : ∀ u ∈ flat ys, u.oneCell' = true := fun u hu => by
  unfold flat at hu
  obtain ⟨cs, hc, hu⟩ := List.mem_flatten.1 hu
  obtain ⟨y, _, rfl⟩ := List.mem_map.1 hc
  exact oneS y u hu
section
variable {ops : Array Oper} {rest : List Oper} {o : Oper} {a : Act} {w : World} {Q : Exit → Act → World → Prop}
/-- a row put behind a row of the call's own, under a guard too -/
theorem wpList_cat (s x : Operand) (ho : o.op = .call { callee := .builtin .append, args := #[s, x], argTypes := #[22, 22] })
    (v u : Value) (xs ys : List S) (B C : Nat) (hs : a.eval s = v) (hx : a.eval x = u) (hu : Row C u ys w) (hr : Row B v xs w) (hB : B ≤ w.heap.size) (hm : xs.length + ys.length ≤ 1000000) (hw : Region.wanted o (yielded ops a.tmps) = true)
    (hk : ∀ v' w', Row B v' (xs ++ ys) w' → w.grownBy w' v.ownBlock → wpList Tryd.prog ops Q rest (a.put o.dst v') w') : wpList Tryd.prog ops Q (o :: rest) a w := by
  obtain ⟨i0, hi, hz0, hz1, hz2, hz3⟩ := slipInfo_of
  have run : ∃ v' w', (Builtin.append_ #[22, 22] o.type #[v, u]).run Tryd.prog w = .ok v' w' ∧ w'.ownsRow B 37 38 v' (xs.length + ys.length) (flat xs ++ flat ys) ∧ w.grownBy w' v.ownBlock := by
    rcases hu.1.2 with ⟨e, h0⟩ | ⟨g, cap, cur, e, h1, h2, h3, h4, h5, h6⟩
    · have h0 : ys = [] := List.length_eq_zero_iff.1 h0
      subst e h0
      exact ⟨v, w, run_append_owned_none (P := Tryd.prog) (w := w) B 22 o.type 37 i0 38 Tryd.underlying22 hi v xs.length (flat xs) hr.1, by simpa [flat] using hr.1, World.grownBy.refl w _⟩
    · have hc := hu.1.cells (g := g) (by rw [e]; rfl)
      subst e
      have hl : (flat ys).length = ys.length * 38 := hu.1.1
      obtain ⟨v', w', k1, k2, k3, -, -⟩ := run_append_own_at (P := Tryd.prog) w B 22 o.type 37 i0 (.agg S.none.cells.toArray) 38 104 Tryd.underlying22 hi hz0 hz1 hz2 hz3 (by decide) v xs.length (flat xs) hr.1 ⟨g, 0, none⟩ ys.length cap (flat ys) hl (fun j u hj => hc j u hj) (flat_one ys) (by unfold maxLen; omega) (by omega) hB
      exact ⟨v', w', k1, k2, k3⟩
  obtain ⟨v', w', h1, h2, h3⟩ := run
  refine wpList_any hw v' w' ?_ (hk v' w' ⟨by rw [List.length_append, flat_append]; exact h2, fun y hy => (List.mem_append.1 hy).elim (hr.2 y) (hu.2 y)⟩ h3)
  unfold execOp
  simp only [ho, resolve, invoke, builtin, Sem.run_bind, Sem.run_pure, Result.andThen_ok, List.map_toArray, List.map_cons, List.map_nil, hs, hx, h1]
end
section
open Ordd (Bx)
variable {ops : Array Oper} {rest : List Oper} {o : Oper} {a : Act} {w : World} {Q : Exit → Act → World → Prop}
theorem h_cat (s x : Operand) (ho : o.op = .call { callee := .builtin .append, args := #[s, x], argTypes := #[22, 22] })
    (v u : Value) (xs ys : List S) (B C : Nat) (hs : a.eval s = v) (hx : a.eval x = u) (hu : Row C u ys w) (hr : Row B v xs w) (hB : B ≤ w.heap.size) (hm : xs.length + ys.length ≤ 1000000) (hw : Region.wanted o (yielded ops a.tmps) = true)
    (hk : ∀ v' w', Row B v' (xs ++ ys) w' → w.grownBy w' v.ownBlock → Bx (wpList Tryd.prog ops Q rest (a.put o.dst v') w')) : Bx (wpList Tryd.prog ops Q (o :: rest) a w) :=
  ⟨wpList_cat s x ho v u xs ys B C hs hx hu hr hB hm hw fun v' w' h1 h2 => (hk v' w' h1 h2).out⟩
theorem h_r1 (x : Operand) (ho : o.op = .buildSlice 22 1 #[(0, x)]) (u : S) (hu : u.dig.length = 32) (hx : a.eval x = .agg u.cells.toArray)
    (hw : Region.wanted o (yielded ops a.tmps) = true) (hk : ∀ g w', g = w.heap.size → g < w'.heap.size → Reg.Ext w w' → Blk w' g 37 u.cells → Bx (wpList Tryd.prog ops Q rest (a.put o.dst (.slice (some ⟨g, 0, none⟩) 1 1)) w')) : Bx (wpList Tryd.prog ops Q (o :: rest) a w) :=
  ⟨wpList_r1 x ho u hu hx hw fun g w' h1 h2 h3 h4 _ => (hk g w' h1 h2 h3 h4).out⟩
end
theorem Row.one {w : World} {g B : Nat} {u : S} (hu : u.dig.length = 32) (hb : Blk w g 37 u.cells) (hB : B ≤ g) : Row B (.slice (some ⟨g, 0, none⟩) 1 1) [u] w := by
  refine ⟨⟨by simp [flat, cells_length u hu], .inr ⟨g, 1, u.cells.toArray, rfl, hB, hb, Nat.le_refl _, by unfold maxLen; omega, by simp [cells_length u hu], ?_⟩⟩, fun x hx => by rw [List.mem_singleton.1 hx]; exact hu⟩
  simp [flat]
  exact List.take_of_length_le (by rw [cells_length u hu]; omega)
end Slp
namespace Plk
open Slp (S RdS sameL Row)
theorem Row.cap {B : Nat} {v : Value} {xs : List S} {w : World} (h : Row B v xs w) : ∃ p c, v = .slice p xs.length c ∧ xs.length ≤ c ∧ (p = none ∨ ∃ g, p = some ⟨g, 0, none⟩) := by
  rcases h.1.2 with ⟨rfl, h0⟩ | ⟨g, cap, cur, rfl, _, _, hn, _⟩
  · exact ⟨none, 0, by rw [h0], by omega, .inl rfl⟩
  · exact ⟨_, cap, rfl, hn, .inr ⟨g, rfl⟩⟩
set_option maxHeartbeats 1000000 in
/-- begins: where it does -/
theorem begins_any (p : Option Addr) (c : Nat) (hp : p = none ∨ ∃ g, p = some ⟨g, 0, none⟩) (v : Value) (xs ys : List S) (w : World) (h1 : RdS (.slice p xs.length c) xs w) (hc : xs.length ≤ c) (h2 : RdS v ys w) (hl : ys.length ≤ xs.length) (he : xs.take ys.length = ys) (hx : xs.length ≤ 1000) :
    Calls Tryd.prog 16 #[.slice p xs.length c, v] w fun e w' => e = .returned (.bool true) ∧ Reg.Ext w w' := by
  have HT := Lib.hid (fun c' => RdS.take h1 ys.length hl c')
  have H2 := Lib.hid h2
  obtain ⟨-, p2, c2, rfl, -, -⟩ := h2
  have CS := Lib.hid (fun (u v : Value) (w : World) (k1 : RdS u ys w) (k2 : RdS v ys w) => show Calls Tryd.prog 19 #[u, v] w fun e w' => e = .returned (.bool true) ∧ Reg.Ext w w' by rw [← (Slp.sameL_iff ys ys).2 rfl]; exact Slp.same_any u v ys ys w k1 k2)
  have HT2 : Hid (∀ c', RdS (.slice p ys.length c') ys w) := Lib.hid fun c' => by have := HT.out c'; rwa [he] at this
  clear h1 he HT
  have d1 : decide (ys.length ≤ xs.length) = true := decide_eq_true hl
  rcases hp with rfl | ⟨g, rfl⟩
  all_goals
    go_enter Tryd.func16, Tryd.ntmps16
    go_wp2_with (go_at_call 19; refine (CS.out _ _ _ (HT2.out _) H2.out).mono ?_; rintro e w1 ⟨rfl, hx1⟩)
    go_ret
    exact ⟨rfl, hx1⟩
end Plk
end Go.Proofs.YtafeealbdpmdkaaDoor

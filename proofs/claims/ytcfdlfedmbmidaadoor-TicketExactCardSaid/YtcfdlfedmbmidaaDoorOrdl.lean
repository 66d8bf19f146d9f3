/- A region that draws its order and ends with one operation that all others go ahead of: what holds of the world is asked of those others alone. -/
import Derived.Test.YtcfdlfedmbmidaaDoorReg
import Derived.Deep.RegionHeld
import Derived.Great.Walk
set_option linter.unusedSimpArgs false
set_option linter.unusedVariables false
set_option linter.unusedSectionVars false
namespace Go.Proofs.YtcfdlfedmbmidaaDoor
open Go Go.RowKit
namespace Ordl
variable {P : Program} {md : Region.Mode} {ops : Array Oper} {Q : Exit → Act → World → Prop} {S : World → Prop} {z : Nat}
/-- whatever order is drawn from here on: S behind each operation but z -/
def Any (P : Program) (md : Region.Mode) (ops : Array Oper) (Q : Exit → Act → World → Prop) (S : World → Prop) (z : Nat) : Nat → Array Bool → Act → World → Prop
  | 0, listed, a, w => Region.ready md ops listed = [] ∧ Q .normal a w
  | n + 1, listed, a, w => (Region.ready md ops listed = [] → Q .normal a w) ∧
    ∀ i ∈ Region.ready md ops listed, wpOp P ops Q i (fun a' w' => (i = z ∨ S w') ∧ Any P md ops Q S z n (listed.setIfInBounds i true) a' w') a w
theorem Any.plain : ∀ (n : Nat) (listed : Array Bool) (a : Act) (w : World), Any P md ops Q S z n listed a w → wpAny P md ops Q n listed a w
  | 0, _, _, _, h => h
  | n + 1, _, _, _, h => ⟨h.1, fun i hi => wpOp_mono (fun a' w' k => Any.plain n _ a' w' k.2) (h.2 i hi)⟩
theorem begins {id : Nat} {a : Act} {w : World} (hm : P.follows .mixedOrders = true) (h : Any P .any ops Q S z ops.size (Array.replicate ops.size false) a w.drew) : (Code.region id ops true).wp P Q a w :=
  wp_region_any hm (Any.plain _ _ _ _ h)
/-- z waits for i -/
def waits (md : Region.Mode) (ops : Array Oper) (z i : Nat) : Bool := match ops[z]? with
  | none => true
  | some o => o.after.any fun e => Region.binds md e && e.on == i
theorem waits_spec {i : Nat} (h : waits md ops z i = true) {listed : Array Bool} (hz : z ∈ Region.ready md ops listed) : listed.getD i false = true := by
  obtain ⟨_, o, ho, hall⟩ := mem_ready.1 hz
  unfold waits at h
  rw [ho] at h
  simp only [Array.any_eq_true', Bool.and_eq_true, beq_iff_eq] at h
  obtain ⟨e, he, hb, hi⟩ := h
  rw [← hi]
  exact hall e he hb
theorem not_listed {i : Nat} {listed : Array Bool} (h : i ∈ Region.ready md ops listed) : listed.getD i false ≠ true := by
  have h0 := (mem_ready.1 h).1
  intro h1
  rcases Nat.lt_or_ge i listed.size with hl | hl
  · simp [hl] at h0 h1
    rw [h0] at h1
    cases h1
  · simp [Array.getElem?_eq_none hl] at h1
/-- an operation that yields in whatever world S allows may be taken now -/
theorem first {i : Nat} {oi : Oper} {v : Value} (hi : ops[i]? = some oi) (hs : Region.noSelect ops = true) (hw : waits md ops z i = true)
    (hQ : ∀ c a w, Q (.panic c) (a.put oi.dst v) w → Q (.panic c) a w) : ∀ (n : Nat) (listed : Array Bool) (a : Act) (w : World),
      (∀ j oj, ops[j]? = some oj → j ≠ i → listed.getD j true = false → (∀ e ∈ oj.after, Region.binds md e = true → e.on ≠ i) → oi.apart ops oj = true) →
      i ∈ Region.ready md ops listed → YieldsIf P ops S oi v a → S w → Any P md ops Q S z n (listed.setIfInBounds i true) (a.put oi.dst v) w → Any P md ops Q S z (n + 1) listed a w := by
  have hsel := Region.noSelect_spec hs
  intro n
  induction n with
  | zero =>
    intro listed a w _ hr hy hS H
    refine ⟨fun h => (by rw [h] at hr; cases hr), fun j hj => ?_⟩
    by_cases hji : j = i
    · subst hji
      exact hy.wpOp hi hS ⟨.inr hS, H⟩
    · have := ready_mono hj hji
      rw [H.1] at this
      cases this
  | succ n ih =>
    intro listed a w hap hr hy hS H
    refine ⟨fun h => (by rw [h] at hr; cases hr), fun j hj => ?_⟩
    by_cases hji : j = i
    · subst hji
      exact hy.wpOp hi hS ⟨.inr hS, H⟩
    · obtain ⟨hjun, oj, hoj, hall⟩ := mem_ready.1 hj
      have hni := not_listed hr
      have hjz : j ≠ z := fun e => hni (waits_spec hw (e ▸ hj))
      have hno : ∀ e ∈ oj.after, Region.binds md e = true → e.on ≠ i := fun e he hb heq => hni (heq ▸ hall e he hb)
      have h1 := H.2 j (ready_mono hj hji)
      have h2 := wpOp_putIf hoj (hap j oj hoj hji hjun hno) (fun cs b => hsel i oi cs b hi) (fun cs b => hsel j oj cs b hoj) hQ hy h1
      refine wpOp_mono (fun a' w' k => ?_) h2
      have hS' := k.2.1.resolve_left hjz
      refine ⟨.inr hS', ih _ a' w' (fun t ot hot hti hun hno' => ?_) (ready_mono hr (Ne.symm hji)) k.1 hS' ?_⟩
      · by_cases hjt : j = t
        · subst hjt
          exact hap j ot hot hti hjun hno'
        · exact hap t ot hot hti (by rwa [getD_set_ne true hjt] at hun) hno'
      · rw [Array.setIfInBounds_comm _ _ hji]
        exact k.2.2
/-- a goal that is not looked into -/
structure Bx (p : Prop) : Prop where
  out : p
theorem take {i : Nat} {oi : Oper} {v : Value} {n : Nat} {listed : Array Bool} {a : Act} {w : World} (hi : ops[i]? = some oi) (hs : Region.noSelect ops = true) (hw : waits md ops z i = true)
    (hf : Region.free md ops listed i = true) (hr : (Region.ready md ops listed).contains i = true) (hQ : ∀ c a w, Q (.panic c) (a.put oi.dst v) w → Q (.panic c) a w) (hy : YieldsIf P ops S oi v a) (hS : S w)
    (h : Bx (Any P md ops Q S z n (listed.setIfInBounds i true) (a.put oi.dst v) w)) : Bx (Any P md ops Q S z (n + 1) listed a w) :=
  ⟨first hi hs hw hQ n listed a w (Region.free_spec hi hf) (by simpa using hr) hy hS h.out⟩
def upTo (K : Act → World → Prop) (Q : Exit → Act → World → Prop) : Exit → Act → World → Prop
  | .normal, a, w => K a w
  | .exit i, a, w => Q (.exit i) a w
  | .goto l, a, w => Q (.goto l) a w
  | .ret, a, w => Q .ret a w
  | .panic c, a, w => Q (.panic c) a w
  | .outgrown, a, w => Q .outgrown a w
theorem of_one {i : Nat} {o : Oper} {K : Act → World → Prop} {a : Act} {w : World} (hi : ops[i]? = some o) (h : wpList P ops (upTo K Q) [o] a w) : wpOp P ops Q i K a w := by
  unfold wpList at h
  unfold wpOp
  rw [hi]
  simp only
  split at h
  · rename_i hw
    rw [if_pos hw]
    rcases h with h | h
    · refine .inl ?_
      unfold Oper.wp at *
      generalize (execOp a.eval o).run P w = r at *
      cases r with
      | ok n w' =>
        cases n <;> simp only [Oper.upon] at h ⊢ <;>
          first
            | exact h
            | exact Calls.mono h (fun e w'' he => by cases e <;> first | exact he | (obtain ⟨a, w, he⟩ := he; exact ⟨a, w, he⟩))
            | exact Rows.mono h (fun _ _ he => he)
      | halt x w' => cases x <;> simp only [Oper.upon] at h ⊢ <;> exact h
    · exact .inr ⟨h.1, h.2⟩
  · rename_i hw
    rw [if_neg hw]
    exact h
theorem one {i : Nat} {o : Oper} {n : Nat} {listed : Array Bool} {a : Act} {w : World} (hr : Region.ready md ops listed = [i]) (hi : ops[i]? = some o)
    (h : Bx (wpList P ops (upTo (fun a' w' => (i = z ∨ S w') ∧ Any P md ops Q S z n (listed.setIfInBounds i true) a' w') Q) [o] a w)) : Bx (Any P md ops Q S z (n + 1) listed a w) :=
  ⟨⟨fun h0 => (by rw [hr] at h0; cases h0), fun j hj => by
    rw [hr] at hj
    rw [List.mem_singleton.1 hj]
    exact of_one hi h.out⟩⟩
theorem two {i j : Nat} {o o' : Oper} {n : Nat} {listed : Array Bool} {a : Act} {w : World} (hr : Region.ready md ops listed = [i, j]) (hi : ops[i]? = some o) (hj : ops[j]? = some o')
    (h : Bx (wpList P ops (upTo (fun a' w' => (i = z ∨ S w') ∧ Any P md ops Q S z n (listed.setIfInBounds i true) a' w') Q) [o] a w))
    (h' : Bx (wpList P ops (upTo (fun a' w' => (j = z ∨ S w') ∧ Any P md ops Q S z n (listed.setIfInBounds j true) a' w') Q) [o'] a w)) : Bx (Any P md ops Q S z (n + 1) listed a w) :=
  ⟨⟨fun h0 => (by rw [hr] at h0; cases h0), fun k hk => by
    rw [hr] at hk
    rcases List.mem_cons.1 hk with rfl | hk
    · exact of_one hi h.out
    · rw [List.mem_singleton.1 hk]
      exact of_one hj h'.out⟩⟩
theorem fin {i : Nat} {a : Act} {w : World} {n : Nat} {listed : Array Bool} (hS : S w) (h : Bx (Any P md ops Q S z n listed a w)) : Bx (wpList P ops (upTo (fun a' w' => (i = z ∨ S w') ∧ Any P md ops Q S z n listed a' w') Q) [] a w) := ⟨⟨.inr hS, h.out⟩⟩
theorem finz {a : Act} {w : World} {n : Nat} {listed : Array Bool} (h : Bx (Any P md ops Q S z n listed a w)) : Bx (wpList P ops (upTo (fun a' w' => (z = z ∨ S w') ∧ Any P md ops Q S z n listed a' w') Q) [] a w) := ⟨⟨.inl rfl, h.out⟩⟩
theorem any {rest : List Oper} {o : Oper} {a : Act} {w : World} (hw : Region.wanted o (yielded ops a.tmps) = true) (v : Value) (w' : World)
    (hr : (execOp a.eval o).run P w = .ok (.value v) w') (hk : Bx (wpList P ops Q rest (a.put o.dst v) w')) : Bx (wpList P ops Q (o :: rest) a w) := by
  refine ⟨?_⟩
  unfold wpList
  rw [if_pos hw]
  refine .inl ?_
  unfold Oper.wp
  rw [hr]
  exact hk.out
theorem done {listed : Array Bool} {a : Act} {w : World} (hr : Region.ready md ops listed = []) (h : Q .normal a w) : ∀ n, Bx (Any P md ops Q S z n listed a w)
  | 0 => ⟨⟨hr, h⟩⟩
  | n + 1 => ⟨⟨fun _ => h, by rw [hr]; simp⟩⟩
end Ordl
end Go.Proofs.YtcfdlfedmbmidaaDoor

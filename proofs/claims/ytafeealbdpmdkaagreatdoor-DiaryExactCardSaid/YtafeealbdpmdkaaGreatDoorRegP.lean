/- A rule for regions that draw their order, two of whose operations, one behind the other, turn what they own (appends): p, and q, behind which nothing is asked but what it gives. -/
import Derived.Test.YtafeealbdpmdkaaGreatDoorReg
set_option linter.unusedSimpArgs false
set_option linter.unusedVariables false
set_option linter.unusedSectionVars false
-- squeezed
namespace Go.Proofs.YtafeealbdpmdkaaGreatDoor
open Go Go.RowKit
namespace Rgp
open Reg (gives gives_mono TE anc OB One gives_of_one edges looks dstOf isSelect closedAt slotsAt okB OK ok_of Agree exec_same wanted_same Resp count_lt put_same)
structure Ctx where
 P : Program
 ops : Array Oper
 B : List Nat
 R : World → World → Prop
 Rs : World → World → Prop
 p : Nat
 q : Nat
 S1 : World → Prop
 w0 : World

/-- a step of operation i: the one at p may do more -/
def Ctx.St (C : Ctx) (i : Nat) (w w' : World) : Prop := (i ≠ C.q → C.R w w') ∧ (i ≠ C.p → i ≠ C.q → C.Rs w w')
/-- i is carried out ahead of q, or is q -/
def Ahead (q : Nat) (B : List Nat) (i : Nat) : Prop := i = q ∨ anc B q i = true
/-- i is q, or is carried out behind it -/
def Late (q : Nat) (B : List Nat) (i : Nat) : Prop := i = q ∨ anc B i q = true
instance (q : Nat) (B : List Nat) (i : Nat) : Decidable (Late q B i) := inferInstanceAs (Decidable (i = q ∨ anc B i q = true))
/-- under which steps what i gave must stand -/
def Ctx.Kr (C : Ctx) (i : Nat) (w w' : World) : Prop := if i = C.p ∨ Late C.q C.B i then C.Rs w w' else C.R w w'
/-- what p gave is for q alone -/
def FactsP (p q : Nat) (B : List Nat) (i : Nat) : List (Nat × (World → Prop)) → World → Prop
 | [], _ => True
 | (j, F) :: r, w => (anc B i j = true → (Late q B j ∨ (Ahead q B i ∧ (j = p → i = q))) → F w) ∧ FactsP p q B i r w
def AllP (q : Nat) (B : List Nat) : List (Nat × (World → Prop)) → World → Prop
 | [], _ => True
 | (j, F) :: r, w => (Late q B j → F w) ∧ AllP q B r w
theorem FactsP.tl {p q : Nat} {B : List Nat} {i : Nat} {f : Nat × (World → Prop)} {r : List (Nat × (World → Prop))} {w : World} (h : FactsP p q B i (f :: r) w) : FactsP p q B i r w := h.2
theorem AllP.tl {q : Nat} {B : List Nat} {f : Nat × (World → Prop)} {r : List (Nat × (World → Prop))} {w : World} (h : AllP q B (f :: r) w) : AllP q B r w := h.2
theorem factsP_of {p q : Nat} {B : List Nat} {i : Nat} {w : World} : ∀ {fs : List (Nat × (World → Prop))}, (∀ f ∈ fs, anc B i f.1 = true → (Late q B f.1 ∨ (Ahead q B i ∧ (f.1 = p → i = q))) → f.2 w) → FactsP p q B i fs w
 | [], _ => trivial
 | (j, F) :: r, h => ⟨fun ha hq => h (j, F) (by simp) ha hq, factsP_of fun f hf => h f (by simp [hf])⟩
theorem allP_of {q : Nat} {B : List Nat} {w : World} : ∀ {fs : List (Nat × (World → Prop))}, (∀ f ∈ fs, Late q B f.1 → f.2 w) → AllP q B fs w
 | [], _ => trivial
 | (j, F) :: r, h => ⟨fun hj => h (j, F) (by simp) hj, allP_of fun f hf => h f (by simp [hf])⟩
def TW (C : Ctx) (Q : Act → World → Prop) : Nat → List Oper → List TE → List (Nat × (World → Prop)) → Act → Prop
 | i, o :: os, .skip :: es, fs, a => Region.wanted o (yielded C.ops a.tmps) = false ∧ TW C Q (i + 1) os es fs (a.put o.dst undef)
 | i, o :: os, .pure c :: es, fs, a => Region.wanted o (yielded C.ops a.tmps) = true ∧
    (∀ w, (Ahead C.q C.B i → C.R C.w0 w) → (i = C.p → C.S1 w) → FactsP C.p C.q C.B i fs w → gives C.P (fun v w' => ∃ v', a.put o.dst v = a.put o.dst v' ∧ v' = c ∧ C.St i w w') ((execOp a.eval o).run C.P w)) ∧
    TW C Q (i + 1) os es fs (a.put o.dst c)
 | i, o :: os, .call c T :: es, fs, a => Region.wanted o (yielded C.ops a.tmps) = true ∧ (∀ w w', C.Kr i w w' → T w → T w') ∧
    (∀ w, (Ahead C.q C.B i → C.R C.w0 w) → (i = C.p → C.S1 w) → FactsP C.p C.q C.B i fs w → gives C.P (fun v w' => ∃ v', a.put o.dst v = a.put o.dst v' ∧ v' = c ∧ C.St i w w' ∧ T w') ((execOp a.eval o).run C.P w)) ∧
    TW C Q (i + 1) os es ((i, T) :: fs) (a.put o.dst c)
 | i, o :: os, .any S :: es, fs, a => Region.wanted o (yielded C.ops a.tmps) = true ∧ (∀ v w w', C.Kr i w w' → S v w → S v w') ∧
    (∀ w, (Ahead C.q C.B i → C.R C.w0 w) → (i = C.p → C.S1 w) → FactsP C.p C.q C.B i fs w → gives C.P (fun v w' => ∃ v', a.put o.dst v = a.put o.dst v' ∧ C.St i w w' ∧ S v' w') ((execOp a.eval o).run C.P w)) ∧
    ∀ v, TW C Q (i + 1) os es ((i, S v) :: fs) (a.put o.dst v)
 | _, [], [], fs, a => ∀ w, AllP C.q C.B fs w → Q a w
 | _, _, _, _, _ => False

def TWO (P : Program) (O : OB) (R Rs : World → World → Prop) (p q : Nat) (S1 : World → Prop) (w0 : World) (Q : Act → World → Prop) : Nat → List Oper → List TE → List (Nat × (World → Prop)) → Act → Prop := TW ⟨P, O.ops, O.B, R, Rs, p, q, S1, w0⟩ Q
section rules
variable {P : Program} {O : OB} {R Rs : World → World → Prop} {p q : Nat} {S1 : World → Prop} {w0 : World} {a' : Act} {Q : Act → World → Prop} {i : Nat} {o : Oper} {os : List Oper} {es : List TE} {fs : List (Nat × (World → Prop))} {a : Act}
theorem TW.skip_ (h : Region.wanted o (yielded O.ops a.tmps) = false) (ha : a.put o.dst undef = a') (hk : TWO P O R Rs p q S1 w0 Q (i + 1) os es fs a') : TWO P O R Rs p q S1 w0 Q i (o :: os) (.skip :: es) fs a := ⟨h, by subst ha; exact hk⟩
theorem TW.nil_ (h : ∀ w, AllP q O.B fs w → Q a w) : TWO P O R Rs p q S1 w0 Q i [] [] fs a := h
theorem TW.move_ (hRR : ∀ w w', Rs w w' → R w w') (hrefl : ∀ w, Rs w w) (x : Operand) (ho : o.op = .move x) (h : Region.wanted o (yielded O.ops a.tmps) = true)
  (ha : a.put o.dst (a.eval x) = a') (hk : TWO P O R Rs p q S1 w0 Q (i + 1) os es fs a') : TWO P O R Rs p q S1 w0 Q i (o :: os) (.pure (a.eval x) :: es) fs a :=
 ⟨h, fun w _ _ _ => by rw [BigFrame.run_move x ho]; exact ⟨_, rfl, rfl, fun _ => hRR _ _ (hrefl w), fun _ _ => hrefl w⟩, by subst ha; exact hk⟩
theorem TW.assign_ (hRR : ∀ w w', Rs w w' → R w w') (hrefl : ∀ w, Rs w w) (x : Operand) (ho : o.op = .assign x) (h : Region.wanted o (yielded O.ops a.tmps) = true)
  (ha : a.put o.dst (a.eval x) = a') (hk : TWO P O R Rs p q S1 w0 Q (i + 1) os es fs a') : TWO P O R Rs p q S1 w0 Q i (o :: os) (.pure (a.eval x) :: es) fs a :=
 ⟨h, fun w _ _ _ => by rw [BigFrame.run_assign x ho]; exact ⟨_, rfl, rfl, fun _ => hRR _ _ (hrefl w), fun _ _ => hrefl w⟩, by subst ha; exact hk⟩
theorem kr_of {C : Ctx} (hRR : ∀ w w', C.Rs w w' → C.R w w') {i : Nat} {w w' : World} (h : C.Kr i w w') : C.R w w' := by
 unfold Ctx.Kr at h
 split at h
 ·exact hRR _ _ h
 ·exact h
theorem TW.pure_ {c : Value} (hRR : ∀ w w', Rs w w' → R w w') (h : Region.wanted o (yielded O.ops a.tmps) = true)
  (hb : Ahead q O.B i) (hg : ∀ w, R w0 w → FactsP p q O.B i fs w → ∀ K : Act → World → Prop, (∀ w', Rs w w' → K (a.put o.dst c) w') → One P O.ops o a w K)
  (ha : a.put o.dst c = a') (hk : TWO P O R Rs p q S1 w0 Q (i + 1) os es fs a') : TWO P O R Rs p q S1 w0 Q i (o :: os) (.pure c :: es) fs a :=
 ⟨h, fun w hw _ hf => gives_of_one fun K hK => hg w (hw hb) hf K fun w' hR => hK c w' ⟨rfl, fun _ => hRR _ _ hR, fun _ _ => hR⟩, by subst ha; exact hk⟩
theorem TW.call_ {c : Value} (hRR : ∀ w w', Rs w w' → R w w') (T : World → Prop) (h : Region.wanted o (yielded O.ops a.tmps) = true) (hT : ∀ w w', R w w' → T w → T w')
  (hb : Ahead q O.B i) (hg : ∀ w, R w0 w → FactsP p q O.B i fs w → ∀ K : Act → World → Prop, (∀ w', Rs w w' → T w' → K (a.put o.dst c) w') → One P O.ops o a w K)
  (ha : a.put o.dst c = a') (hk : TWO P O R Rs p q S1 w0 Q (i + 1) os es ((i, T) :: fs) a') : TWO P O R Rs p q S1 w0 Q i (o :: os) (.call c T :: es) fs a :=
 ⟨h, fun w w' hr => hT w w' (kr_of (C := ⟨P, O.ops, O.B, R, Rs, p, q, S1, w0⟩) hRR hr), fun w hw _ hf => gives_of_one fun K hK => hg w (hw hb) hf K fun w' hR hTw => hK c w' ⟨rfl, ⟨fun _ => hRR _ _ hR, fun _ _ => hR⟩, hTw⟩, by subst ha; exact hk⟩
end rules
section
variable {C : Ctx} {a0 : Act} {Q : Act → World → Prop}
/-- what is asked of operation i, in the frame that the table lays -/
def Obl (C : Ctx) (ts : List TE) (vals : Nat → Value) (i : Nat) (o : Oper) (e : TE) (a : Act) : Prop :=
 (e = .skip ∧ Region.wanted o (yielded C.ops a.tmps) = false) ∨
 (Region.wanted o (yielded C.ops a.tmps) = true ∧ ∀ w, (Ahead C.q C.B i → C.R C.w0 w) → (i = C.p → C.S1 w) → (∀ (j : Nat) (e' : TE), j < i → anc C.B i j = true → (Late C.q C.B j ∨ (Ahead C.q C.B i ∧ (j = C.p → i = C.q))) → ts[j]? = some e' → e'.S (vals j) w) →
   gives C.P (fun v w' => ∃ v', a.put o.dst v = a.put o.dst v' ∧ C.St i w w' ∧ e.S v' w' ∧ ∀ c, e.known = some c → v' = c) ((execOp a.eval o).run C.P w))

/-- what the walk gives from place k on -/
def Good (C : Ctx) (Q : Act → World → Prop) (a0 : Act) (ts : List TE) (vals : Nat → Value) (k : Nat) (os : List Oper) (es : List TE) : Prop :=
 os.length = es.length ∧
  (∀ (i : Nat) (o : Oper) (e : TE), k ≤ i → C.ops[i]? = some o → ts[i]? = some e → ∃ b, Agree C.ops a0 (fun j => decide (j < i)) vals b ∧ Obl C ts vals i o e b) ∧
  (∀ (i : Nat) (e : TE) (v : Value) (w w' : World), k ≤ i → ts[i]? = some e → C.Kr i w w' → e.S v w → e.S v w') ∧
  ∃ b, Agree C.ops a0 (fun j => decide (j < k + os.length)) vals b ∧ ∀ w, (∀ (j : Nat) (e : TE), j < k + os.length → Late C.q C.B j → ts[j]? = some e → e.S (vals j) w) → Q b w

/-- the walk, read off: from place k on -/
theorem tw_read {ts : List TE} {vals : Nat → Value} (hr : Resp ts vals) (hok : OK C.ops C.B) : ∀ (os : List Oper) (es : List TE) (k : Nat) (fs : List (Nat × (World → Prop))) (a : Act),
  (∀ (j : Nat), os[j]? = C.ops[k + j]?) → (∀ (j : Nat), es[j]? = ts[k + j]?) →
  (∀ f ∈ fs, f.1 < k ∧ ∃ e : TE, ts[f.1]? = some e ∧ ∀ w, e.S (vals f.1) w → f.2 w) →
  Agree C.ops a0 (fun j => decide (j < k)) vals a →
  TW C Q k os es fs a → Good C Q a0 ts vals k os es
 | [], [], k, fs, a, ho, he, hfs, hag, h => by
   refine ⟨rfl, fun i o e hk hoi _ => ?_, fun i e v w w' hk hti => ?_, a, by simpa using hag, fun w hall => ?_⟩
   ·have := ho (i - k); rw [show k + (i - k) = i from by omega, hoi] at this; simp at this
   ·have := he (i - k); rw [show k + (i - k) = i from by omega, hti] at this; simp at this
   ·simp only [TW] at h
    exact h w (allP_of fun f hf hfp => by
     obtain ⟨hlt, e, hte, himp⟩ := hfs f hf
     exact himp w (hall f.1 e (by simpa using hlt) hfp hte))
 | [], _ :: _, _, _, _, _, _, _, _, h => by simp [TW] at h
 | _ :: _, [], _, _, _, _, _, _, _, h => by simp [TW] at h
 | o :: os, e :: es, k, fs, a, ho, he, hfs, hag, h => by
   have hok0 : C.ops[k]? = some o := by simpa using (ho 0).symm
   have hte0 : ts[k]? = some e := by simpa using (he 0).symm
   have ho' : ∀ (j : Nat), os[j]? = C.ops[k + 1 + j]? := fun j => by have := ho (j + 1); rw [show k + 1 + j = k + (j + 1) from by omega, ← this]; rfl
   have he' : ∀ (j : Nat), es[j]? = ts[k + 1 + j]? := fun j => by have := he (j + 1); rw [show k + 1 + j = k + (j + 1) from by omega, ← this]; rfl
   have hag' : Agree C.ops a0 (fun j => decide (j < k + 1)) vals (a.put o.dst (vals k)) :=
    (hag.step hok hok0 (by simp) (vals k)).congr (fun i _ => by by_cases hik : i = k <;> simp [hik]; omega) (fun i _ _ => by by_cases hik : i = k <;> simp [hik])
   -- what every kind gives
   have main : ∀ (fs' : List (Nat × (World → Prop))), (∀ f ∈ fs', f.1 < k + 1 ∧ ∃ e : TE, ts[f.1]? = some e ∧ ∀ w, e.S (vals f.1) w → f.2 w) →
     TW C Q (k + 1) os es fs' (a.put o.dst (vals k)) → Obl C ts vals k o e a → (∀ (v : Value) (w w' : World), C.Kr k w w' → e.S v w → e.S v w') → Good C Q a0 ts vals k (o :: os) (e :: es) := fun fs' hfs' h' hobl hst => by
    obtain ⟨hlen, hobs, hsts, b, hb, hq⟩ := tw_read hr hok os es (k + 1) fs' _ ho' he' hfs' hag' h'
    refine ⟨by simpa using hlen, fun i oi ei hk hoi hti => ?_, fun i ei v w w' hk hti => ?_, b, ?_, ?_⟩
    ·rcases Nat.lt_or_ge k i with hlt | hge
     ·exact hobs i oi ei hlt hoi hti
     ·obtain rfl : i = k := by omega
      rw [hok0] at hoi; rw [hte0] at hti
      cases hoi; cases hti
      exact ⟨a, hag, hobl⟩
    ·rcases Nat.lt_or_ge k i with hlt | hge
     ·exact hsts i ei v w w' hlt hti
     ·obtain rfl : i = k := by omega
      rw [hte0] at hti; cases hti
      exact hst v w w'
    ·simpa [Nat.add_assoc, Nat.add_comm 1] using hb
    ·intro w hall
     exact hq w fun j ej hj hjp htj => hall j ej (by simp; omega) hjp htj
   have old : ∀ f ∈ fs, f.1 < k + 1 ∧ ∃ e : TE, ts[f.1]? = some e ∧ ∀ w, e.S (vals f.1) w → f.2 w := fun f hf => ⟨by have := (hfs f hf).1; omega, (hfs f hf).2⟩
   have facts : ∀ w, (∀ (j : Nat) (e' : TE), j < k → anc C.B k j = true → (Late C.q C.B j ∨ (Ahead C.q C.B k ∧ (j = C.p → k = C.q))) → ts[j]? = some e' → e'.S (vals j) w) → FactsP C.p C.q C.B k fs w := fun w hw => factsP_of fun f hf ha hpq => by
    obtain ⟨hlt, e', hte, himp⟩ := hfs f hf
    exact himp w (hw f.1 e' hlt ha hpq hte)
   cases e with
   | skip =>
     obtain ⟨hw, hk⟩ := h
     rw [← hr k _ hte0 undef rfl] at hk
     exact main fs old hk (.inl ⟨rfl, hw⟩) (fun v w w' _ h => h)
   | pure c =>
     obtain ⟨hw, hg, hk⟩ := h
     rw [← hr k _ hte0 c rfl] at hk
     refine main fs old hk (.inr ⟨hw, fun w hRw h1 hf => gives_mono (fun v w' ⟨v', hp, hv⟩ => ⟨v', hp, hv.2, hv.1, fun c' hc' => ?_⟩) (hg w hRw h1 (facts w hf))⟩) (fun v w w' _ h => h)
     simp only [TE.known, Option.some.injEq] at hc'
     rw [← hc']; exact hv.1
   | call c T =>
     obtain ⟨hw, hT, hg, hk⟩ := h
     rw [← hr k _ hte0 c rfl] at hk
     refine main _ ?_ hk (.inr ⟨hw, fun w hRw h1 hf => gives_mono (fun v w' ⟨v', hp, hv⟩ => ⟨v', hp, hv.2.1, ⟨hv.1, hv.2.2⟩, fun c' hc' => ?_⟩) (hg w hRw h1 (facts w hf))⟩) (fun v w w' hR h => ⟨h.1, hT w w' hR h.2⟩)
     ·intro f hf
      rcases List.mem_cons.1 hf with rfl | hf
      ·exact ⟨by simp, _, hte0, fun w hw => hw.2⟩
      ·exact old f hf
     ·simp only [TE.known, Option.some.injEq] at hc'
      rw [← hc']; exact hv.1
   | any S =>
     obtain ⟨hw, hS, hg, hk⟩ := h
     refine main _ ?_ (hk (vals k)) (.inr ⟨hw, fun w hRw h1 hf => gives_mono (fun v w' ⟨v', hp, hv⟩ => ⟨v', hp, hv.1, hv.2, fun c' hc' => by simp [TE.known] at hc'⟩) (hg w hRw h1 (facts w hf))⟩) hS
     intro f hf
     rcases List.mem_cons.1 hf with rfl | hf
     ·exact ⟨by simp, _, hte0, fun w hw => hw⟩
     ·exact old f hf

/-- how far a run in some order has come -/
structure Inv (C : Ctx) (a0 : Act) (ts : List TE) (listed : Array Bool) (vals : Nat → Value) (a : Act) (w : World) : Prop where
 resp : Resp ts vals
 rel : listed.getD C.q true = false → C.R C.w0 w
 pre : listed.getD C.p true = false → C.S1 w
 agree : Agree C.ops a0 (fun j => listed.getD j true) vals a
 facts : ∀ (i : Nat) (e : TE), i < C.ops.size → listed.getD i true = true → (¬ Late C.q C.B i → listed.getD C.q true = false) → ts[i]? = some e → e.S (vals i) w
 down : ∀ (i j : Nat), i < C.ops.size → listed.getD i true = true → j < C.ops.size → anc C.B i j = true → listed.getD j true = true

theorem any_of {ts : List TE} (hpq : C.p ≠ C.q) (hq : C.q < C.ops.size) (hp : C.p < C.ops.size) (hanc2 : anc C.B C.q C.p = true) (hok : OK C.ops C.B) (hlen : ts.length = C.ops.size) (htw : TW C Q 0 C.ops.toList ts [] a0)
  (hrefl : ∀ a, C.Rs a a) (hRR : ∀ a b, C.Rs a b → C.R a b) (htrans : ∀ a b c, C.R a b → C.R b c → C.R a c) (hS1 : ∀ a b, C.Rs a b → C.S1 a → C.S1 b) {Q' : Exit → Act → World → Prop} (hQ : ∀ a w, Q a w → Q' .normal a w) :
  ∀ (fuel : Nat) (listed : Array Bool) (vals : Nat → Value) (a : Act) (w : World), listed.size = C.ops.size →
   ((List.range C.ops.size).filter fun i => !listed.getD i true).length ≤ fuel →
   Inv C a0 ts listed vals a w → wpAny C.P .any C.ops Q' fuel listed a w := by
 have good : ∀ vals, Resp ts vals → Good C Q a0 ts vals 0 C.ops.toList ts := fun vals hr =>
  tw_read hr hok C.ops.toList ts 0 [] a0 (fun j => by simp) (fun j => by simp) (fun f hf => by cases hf) ((Agree.start (vals := vals)).congr (fun i _ => by simp) (fun i _ h => rfl)) htw
 have ready_spec : ∀ (listed : Array Bool) (i : Nat), i ∈ Region.ready .any C.ops listed → i < C.ops.size ∧ listed.getD i true = false ∧ ∀ e ∈ edges C.ops i, listed.getD e false = true := by
  intro listed i hi
  obtain ⟨hmem, hcond⟩ := List.mem_filter.1 hi
  have hlt : i < C.ops.size := List.mem_range.1 hmem
  simp only [Bool.and_eq_true, Bool.not_eq_true'] at hcond
  refine ⟨hlt, hcond.1, fun e he => ?_⟩
  have h2 := hcond.2
  simp only [Array.getElem?_eq_getElem hlt, Option.map_some, Option.getD_some, Array.all_eq_true, Bool.or_eq_true, Bool.not_eq_true'] at h2
  simp only [edges, Array.getElem?_eq_getElem hlt, Option.map_some, Option.getD_some, List.mem_map, List.mem_filter] at he
  obtain ⟨x, ⟨hx, hb⟩, rfl⟩ := he
  obtain ⟨n, hn, rfl⟩ := List.getElem_of_mem hx
  have := h2 n (by simpa using hn)
  simp only [Array.getElem_toList] at hb
  rcases this with h | h
  ·rw [hb] at h; cases h
  ·simpa using h
 -- nothing left: all have been carried out
 have done : ∀ (listed : Array Bool) (vals : Nat → Value) (a : Act) (w : World), listed.size = C.ops.size → Inv C a0 ts listed vals a w → (∀ i, i < C.ops.size → listed.getD i true = true) → Q' .normal a w := by
  intro listed vals a w hsz hinv hall
  obtain ⟨_, _, _, b, hb, hqq⟩ := good vals hinv.resp
  have hab : a = b := Agree.ext (L := fun _ => true) (hinv.agree.congr (fun i hi => hall i hi) (fun _ _ _ => rfl)) (hb.congr (fun i hi => by simp; exact hi) (fun _ _ _ => rfl))
  subst hab
  exact hQ _ _ (hqq w fun j e hj hjq hte => hinv.facts j e (by simpa using hj) (hall j (by simpa using hj)) (fun h => absurd hjq h) hte)
 -- something is left: something is ready
 have some_ready : ∀ (listed : Array Bool), listed.size = C.ops.size → Region.ready .any C.ops listed = [] → ∀ n i, i < n → i < C.ops.size → listed.getD i true = true := by
  intro listed hsz hnil n
  induction n with
  | zero => intro i h; omega
  | succ n ih =>
    intro i hin hi
    cases hl : listed.getD i true with
    | true => rfl
    | false =>
      have hmem : i ∈ Region.ready .any C.ops listed := by
       refine List.mem_filter.2 ⟨List.mem_range.2 hi, ?_⟩
       simp only [hl, Bool.not_false, Bool.true_and, Array.getElem?_eq_getElem hi, Option.map_some, Option.getD_some, Array.all_eq_true, Bool.or_eq_true, Bool.not_eq_true']
       intro m hm
       cases hb : Region.binds .any (C.ops[i].after[m]) with
       | false => exact .inl rfl
       | true =>
         refine .inr ?_
         have he : C.ops[i].after[m].on ∈ edges C.ops i := by
          simp only [edges, Array.getElem?_eq_getElem hi, Option.map_some, Option.getD_some, List.mem_map, List.mem_filter]
          exact ⟨_, ⟨by simp, hb⟩, rfl⟩
         have hlt := hok.edge i _ hi he
         have := ih _ (by omega) (by omega : C.ops[i].after[m].on < C.ops.size)
         have hlt' : C.ops[i].after[m].on < listed.size := by omega
         simpa [Array.getD, hlt'] using this
      rw [hnil] at hmem
      cases hmem
 intro fuel
 induction fuel with
 | zero =>
   intro listed vals a w hsz hf hinv
   have hall : ∀ i, i < C.ops.size → listed.getD i true = true := fun i hi => by
    cases hl : listed.getD i true with
    | true => rfl
    | false =>
      have hm : i ∈ (List.range C.ops.size).filter fun i => !listed.getD i true := List.mem_filter.2 ⟨List.mem_range.2 hi, by simp only [hl]; rfl⟩
      have := List.length_pos_of_mem hm
      omega
   refine ⟨?_, done listed vals a w hsz hinv hall⟩
   cases hr : Region.ready .any C.ops listed with
   | nil => rfl
   | cons x xs =>
     obtain ⟨h1, h2, _⟩ := ready_spec listed x (by rw [hr]; simp)
     rw [hall x h1] at h2; cases h2
 | succ fuel ih =>
   intro listed vals a w hsz hf hinv
   refine ⟨fun hnil => done listed vals a w hsz hinv fun i hi => some_ready listed hsz hnil (i + 1) i (by omega) hi, fun i hi => ?_⟩
   obtain ⟨hlt, hun, hedge⟩ := ready_spec listed i hi
   have hoi : C.ops[i]? = some C.ops[i] := Array.getElem?_eq_getElem hlt
   have hti : ts[i]? = some (ts[i]'(by omega)) := List.getElem?_eq_getElem (by omega)
   generalize C.ops[i] = o at hoi
   generalize (ts[i]'(by omega)) = e at hti
   have hget : ∀ j, j < C.ops.size → listed.getD j false = listed.getD j true := fun j hj => by
    have : j < listed.size := by omega
    simp [Array.getD, this]
   -- what i waits for has been carried out
   have hanc : ∀ j, j < C.ops.size → anc C.B i j = true → listed.getD j true = true := fun j hj ha => by
    obtain ⟨e, he, h⟩ := hok.up i j hlt hj ha
    have hlte := hok.edge i e hlt he
    have hle := hedge e he
    rw [hget e (by omega)] at hle
    rcases h with rfl | h
    ·exact hle
    ·exact hinv.down e j (by omega) hle hj h
   have hdesc : ∀ j, j < C.ops.size → anc C.B j i = true → listed.getD j true = false := fun j hj ha => by
    cases hl : listed.getD j true with
    | false => rfl
    | true => rw [hinv.down j i hj hl hlt ha] at hun; cases hun
   obtain ⟨_, hobs, hsts, _⟩ := good vals hinv.resp
   obtain ⟨b, hb, hobl⟩ := hobs i o e (Nat.zero_le _) hoi hti
   have hlook : ∀ t ∈ o.looksAt C.ops, a.tmps[t]? = b.tmps[t]? := fun t ht => hinv.agree.slot hb t fun j hj hd => by
    by_cases hji : j = i
    ·subst hji; rw [hun]; simp
    ·rcases hok.look i j t hlt hj (Ne.symm hji) hd (by simpa [looks, hoi] using ht) with h | h
     ·rw [hanc j hj h]; have := hok.lt i j hlt hj h; simp; exact this
     ·rw [hdesc j hj h]; have := hok.lt j i hj hlt h; simp; omega
   have hex := exec_same (hok.sel i o hoi) hlook
   have hwt := wanted_same (ops := C.ops) hlook
   have hcount : ((List.range C.ops.size).filter fun k => !(listed.setIfInBounds i true).getD k true).length ≤ fuel := by
    refine Nat.le_of_lt_succ (Nat.lt_of_lt_of_le ?_ hf)
    refine count_lt i (List.mem_range.2 hlt) (by simp [hun]) (by have : i < listed.size := by omega
                                                                 simp [Array.getD, this]) ?_
    intro k hk
    by_cases hki : i = k
    ·subst hki; simp [hun]
    ·simpa [Array.getD_eq_getD_getElem?, Array.getElem?_setIfInBounds_ne hki] using hk
   have hset : ∀ j, j < C.ops.size → (listed.setIfInBounds i true).getD j true = if j = i then true else listed.getD j true := fun j hj => by
    by_cases hji : j = i
    ·subst hji; have : j < listed.size := by omega
     simp [Array.getD, this]
    ·simp [hji, Array.getD_eq_getD_getElem?, Array.getElem?_setIfInBounds_ne (Ne.symm hji)]
   -- behind it
   have next : ∀ v w', C.St i w w' → e.S v w' → (∀ c, e.known = some c → v = c) → wpAny C.P .any C.ops Q' fuel (listed.setIfInBounds i true) (a.put o.dst v) w' := fun v w' hR hS hkn => by
    refine ih _ (fun j => if j = i then v else vals j) _ _ (by simpa using hsz) hcount ⟨fun j ej hj c hc => ?_, fun hlq => ?_, fun hlp => ?_, ?_, fun j ej hj hl hjq hte => ?_, fun j k hj hl hk ha => ?_⟩
    ·by_cases hji : j = i
     ·subst hji; rw [hti] at hj; cases hj; simp only [if_true]; exact hkn c hc
     ·simp only [hji, if_false]; exact hinv.resp j ej hj c hc
    ·have hiq : i ≠ C.q := by
      rintro rfl
      rw [hset _ hlt, if_pos rfl] at hlq
      cases hlq
     have e3 : (listed.setIfInBounds i true).getD C.q true = listed.getD C.q true := by
      simp only [Array.getD_eq_getD_getElem?, Array.getElem?_setIfInBounds_ne hiq]
     rw [e3] at hlq
     exact htrans _ _ _ (hinv.rel hlq) (hR.1 hiq)
    ·have hip : i ≠ C.p := by
      rintro rfl
      rw [hset _ hlt, if_pos rfl] at hlp
      cases hlp
     have hpl : listed.getD C.p true = false := by
      have e3 : (listed.setIfInBounds i true).getD C.p true = listed.getD C.p true := by
       simp only [Array.getD_eq_getD_getElem?, Array.getElem?_setIfInBounds_ne hip]
      rw [e3] at hlp
      exact hlp
     have hiq : i ≠ C.q := by
      rintro rfl
      rw [hanc C.p hp hanc2] at hpl
      cases hpl
     refine hS1 _ _ (hR.2 hip hiq) (hinv.pre ?_)
     have e2 : (listed.setIfInBounds i true).getD C.p true = listed.getD C.p true := by
      simp only [Array.getD_eq_getD_getElem?, Array.getElem?_setIfInBounds_ne hip]
     rw [e2] at hlp
     exact hlp
    ·exact (hinv.agree.step hok hoi hun v).congr (fun j hj => (hset j hj).symm) (fun _ _ _ => rfl)
    ·by_cases hji : j = i
     ·subst hji; rw [hti] at hte; cases hte; simp only [if_true]; exact hS
     ·simp only [hji, if_false]
      rw [hset j hj, if_neg hji] at hl
      have hql : ¬ Late C.q C.B j → i ≠ C.q ∧ listed.getD C.q true = false := by
       intro hjn
       have h2 := hjq hjn
       have hiq : i ≠ C.q := by
        rintro rfl
        rw [hset _ hlt, if_pos rfl] at h2
        cases h2
       refine ⟨hiq, ?_⟩
       have e3 : (listed.setIfInBounds i true).getD C.q true = listed.getD C.q true := by
        simp only [Array.getD_eq_getD_getElem?, Array.getElem?_setIfInBounds_ne hiq]
       rw [e3] at h2
       exact h2
      refine hsts j ej _ w w' (Nat.zero_le _) hte ?_ (hinv.facts j ej hj hl (fun h => (hql h).2) hte)
      unfold Ctx.Kr
      by_cases hjp : j = C.p ∨ Late C.q C.B j
      ·rw [if_pos hjp]
       rcases hjp with hjp | hjp
       ·refine hR.2 (fun h => hji (hjp.trans h.symm)) (hql ?_).1
        rw [hjp]
        intro h
        rcases h with h | h
        ·exact hpq h
        ·have h1 := hok.lt C.p C.q hp hq h
         have h2 := hok.lt C.q C.p hq hp hanc2
         omega
       ·have hjq : listed.getD C.q true = true := by
         rcases hjp with h | h
         ·rw [← h]; exact hl
         ·exact hinv.down j C.q hj hl hq h
        have hjpp := hinv.down C.q C.p hq hjq hp hanc2
        refine hR.2 (fun h => ?_) (fun h => ?_)
        ·rw [← h, hun] at hjpp; cases hjpp
        ·rw [← h, hun] at hjq; cases hjq
      ·rw [if_neg hjp]
       exact hR.1 (hql (fun h => hjp (Or.inr h))).1
    ·rw [hset k hk]
     by_cases hki : k = i
     ·rw [if_pos hki]
     ·rw [if_neg hki]
      rw [hset j hj] at hl
      by_cases hji : j = i
      ·subst hji; exact hanc k hk ha
      ·rw [if_neg hji] at hl; exact hinv.down j k hj hl hk ha
   unfold wpOp
   simp only [hoi]
   rcases hobl with ⟨hskip, hw⟩ | ⟨hw, hg⟩
   ·rw [if_neg (by rw [hwt, hw]; simp)]
    subst hskip
    exact next undef w ⟨fun _ => hRR _ _ (hrefl w), fun _ _ => hrefl w⟩ rfl (fun c hc => by simpa [TE.known] using hc)
   ·rw [if_pos (by rw [hwt, hw])]
    refine .inl ?_
    have hqa : Ahead C.q C.B i → listed.getD C.q true = false := by
     intro ha
     rcases ha with ha | ha
     ·rw [← ha]; exact hun
     ·exact hdesc C.q hq ha
    have hgw := hg w (fun ha => hinv.rel (hqa ha)) (fun hip => hinv.pre (by rw [← hip]; exact hun)) fun j e' hj ha hpq2 hte => hinv.facts j e' (by omega) (hanc j (by omega) ha) (fun hjn => by
     rcases hpq2 with h | ⟨h, _⟩
     ·exact absurd h hjn
     ·exact hqa h) hte
    rw [← hex] at hgw
    unfold Oper.wp
    generalize (execOp a.eval o).run C.P w = r at hgw
    cases r with
    | ok n w' =>
      cases n <;> simp only [gives] at hgw <;> simp only [Oper.upon]
      case value v => obtain ⟨v', hp, h1, h2, h3⟩ := hgw; rw [put_same (hb.size.trans hinv.agree.size.symm) hp]; exact next v' w' h1 h2 h3
      case skip => obtain ⟨v', hp, h1, h2, h3⟩ := hgw; rw [put_same (hb.size.trans hinv.agree.size.symm) hp]; exact next v' w' h1 h2 h3
      case row row args => exact Rows.mono hgw fun v w'' ⟨v', hp, h1, h2, h3⟩ => by rw [put_same (hb.size.trans hinv.agree.size.symm) hp]; exact next v' w'' h1 h2 h3
      case enter f args => exact hgw.mono fun en w'' ⟨v, he, v', hp, h1, h2, h3⟩ => by subst he; show wpAny _ _ _ _ _ _ _ _; rw [put_same (hb.size.trans hinv.agree.size.symm) hp]; exact next v' w'' h1 h2 h3
    | halt x w' => simp only [gives] at hgw

/-- A region that draws its order, by a table. -/
theorem wp_tab {P : Program} {id : Nat} {l : List Oper} {Q' : Exit → Act → World → Prop} {a : Act} {w0 : World} (R Rs : World → World → Prop) (p q : Nat) (S1 : World → Prop) {ts : List TE}
  (hpq : (decide (p ≠ q ∧ q < l.toArray.size ∧ p < l.toArray.size) && anc (Region.before l.toArray).toList q p) = true) (hm : P.follows .mixedOrders = true) (hok : okB l.toArray (Region.before l.toArray).toList = true) (hrefl : ∀ a, Rs a a) (hRR : ∀ a b, Rs a b → R a b) (htrans : ∀ a b c, R a b → R b c → R a c) (hdrew : R w0 { w0 with drawn := w0.drawn + 1 }) (hS1 : ∀ a b, Rs a b → S1 a → S1 b) (hpre : S1 { w0 with drawn := w0.drawn + 1 })
  (hlen : ts.length = l.length)
  (h : let O : OB := ⟨l.toArray, (Region.before l.toArray).toList⟩; TWO P O R Rs p q S1 w0 (Q' .normal) 0 l ts [] a) : (Code.region id l.toArray true).wp P Q' a w0 := by
 refine wp_region_any hm ?_
 have hok' := ok_of hok
 -- a table that answers: every known value where it is known
 let vals : Nat → Value := fun i => ((ts[i]?).bind TE.known).getD undef
 have hresp : Resp ts vals := fun i e hi c hc => by simp [vals, hi, hc]
 simp only [Bool.and_eq_true, decide_eq_true_eq] at hpq
 refine any_of (C := ⟨P, l.toArray, (Region.before l.toArray).toList, R, Rs, p, q, S1, w0⟩) (ts := ts) hpq.1.1 hpq.1.2.1 hpq.1.2.2 hpq.2 hok' (by simpa using hlen) (by simpa [TWO] using h) hrefl hRR htrans hS1 (fun a w h => h) l.toArray.size (Array.replicate l.toArray.size false) vals a _ (by simp) ?_ ?_
 ·exact Nat.le_trans (List.length_filter_le _ _) (by simp)
 ·have hno : ∀ i, i < l.toArray.size → (Array.replicate l.toArray.size false).getD i true = false := fun i hi => by
   have hi' : i < l.length := by simpa using hi
   simp [Array.getD, hi']
  refine ⟨hresp, fun _ => hdrew, fun _ => hpre, Agree.start.congr (fun i hi => (hno i hi).symm) (fun _ _ h => rfl), fun i e hi hl _ _ => ?_, fun i j hi hl _ _ => ?_⟩
  ·rw [hno i hi] at hl; cases hl
  ·rw [hno i hi] at hl; cases hl

end
end Rgp
end Go.Proofs.YtafeealbdpmdkaaGreatDoor

/- The rule for drawn regions with two ordered writers: the writers' values known ahead. -/
import Derived.Test.YtbiikihapfpkfaaRegP
set_option linter.unusedSimpArgs false
set_option linter.unusedVariables false
set_option linter.unusedSectionVars false
namespace Go.Proofs.Ytbiikihapfpkfaa
open Go Go.RowKit
namespace Rgp
open Reg (gives gives_mono TE anc OB One gives_of_one edges looks dstOf isSelect closedAt slotsAt okB OK ok_of Agree exec_same wanted_same Resp count_lt put_same)
section rules
variable {P : Program} {O : OB} {R Rs : World → World → Prop} {p q : Nat} {S1 : World → Prop} {w0 : World} {a' : Act} {Q : Act → World → Prop} {i : Nat} {o : Oper} {os : List Oper} {es : List TE} {fs : List (Nat × (World → Prop))} {a : Act}
theorem TW.turnc_ {c : Value} (hp : i = p) (T : World → Prop) (h : Region.wanted o (yielded O.ops a.tmps) = true) (hT : ∀ w w', Rs w w' → T w → T w')
    (hb : Ahead q O.B i) (hg : ∀ w, R w0 w → S1 w → FactsP p q O.B i fs w → ∀ K : Act → World → Prop, (∀ w', R w w' → T w' → K (a.put o.dst c) w') → One P O.ops o a w K)
    (ha : a.put o.dst c = a') (hk : TWO P O R Rs p q S1 w0 Q (i + 1) os es ((i, T) :: fs) a') : TWO P O R Rs p q S1 w0 Q i (o :: os) (.call c T :: es) fs a :=
  ⟨h, fun w w' hr => hT w w' (by have h2 : (if i = p ∨ Late q O.B i then Rs w w' else R w w') := hr; rwa [if_pos (Or.inl hp)] at h2), fun w hw h1 hf => gives_of_one fun K hK => hg w (hw hb) (h1 hp) hf K fun w' hR hTw => hK c w' ⟨rfl, ⟨fun _ => hR, fun hn _ => absurd hp hn⟩, hTw⟩, by subst ha; exact hk⟩
theorem TW.lastc_ {c : Value} (hp : i = q) (T : World → Prop) (h : Region.wanted o (yielded O.ops a.tmps) = true) (hT : ∀ w w', Rs w w' → T w → T w')
    (hg : ∀ w, R w0 w → FactsP p q O.B i fs w → ∀ K : Act → World → Prop, (∀ w', T w' → K (a.put o.dst c) w') → One P O.ops o a w K)
    (ha : a.put o.dst c = a') (hk : TWO P O R Rs p q S1 w0 Q (i + 1) os es ((i, T) :: fs) a') : TWO P O R Rs p q S1 w0 Q i (o :: os) (.call c T :: es) fs a :=
  ⟨h, fun w w' hr => hT w w' (by have h2 : (if i = p ∨ Late q O.B i then Rs w w' else R w w') := hr; rwa [if_pos (Or.inr (show Late q O.B i from Or.inl hp))] at h2), fun w hw _ hf => gives_of_one fun K hK => hg w (hw (Or.inl hp)) hf K fun w' hTw => hK c w' ⟨rfl, ⟨fun hn => absurd hp hn, fun _ hn => absurd hp hn⟩, hTw⟩, by subst ha; exact hk⟩
theorem TW.afterp_ {c : Value} (hRR : ∀ w w', Rs w w' → R w w') (h : Region.wanted o (yielded O.ops a.tmps) = true)
    (hg : ∀ w, FactsP p q O.B i fs w → ∀ K : Act → World → Prop, (∀ w', Rs w w' → K (a.put o.dst c) w') → One P O.ops o a w K)
    (ha : a.put o.dst c = a') (hk : TWO P O R Rs p q S1 w0 Q (i + 1) os es fs a') : TWO P O R Rs p q S1 w0 Q i (o :: os) (.pure c :: es) fs a :=
  ⟨h, fun w _ _ hf => gives_of_one fun K hK => hg w hf K fun w' hR => hK c w' ⟨rfl, fun _ => hRR _ _ hR, fun _ _ => hR⟩, by subst ha; exact hk⟩
end rules
end Rgp
end Go.Proofs.Ytbiikihapfpkfaa

/- A rule for a region that draws its order: a table that says of each operation what it gives; facts that are stable as the world grows. No program in sight. -/
import Derived.Orders
import Derived.Below
import Derived.Tactics
import Derived.Tactics2
import Derived.KernelRfl
import Derived.BigQuiet
import Derived.Deep.Draws
set_option linter.unusedSimpArgs false
set_option linter.unusedVariables false
set_option linter.unusedSectionVars false
namespace Go.Proofs.YtcfdlfedmbmidaaDoor
open Go Go.RowKit
namespace Reg

/-- what an operation that was run gives -/
def gives (P : Program) (post : Value → World → Prop) : Result Next → Prop
  | .ok (.value v) w' => post v w'
  | .ok .skip w' => post undef w'
  | .ok (.enter f args) w' => Calls P f args w' fun e w'' => ∃ v, e = .returned v ∧ post v w''
  | .ok (.row row args) w' => Rows P row args w' post
  | _ => False

theorem gives_mono {P : Program} {p q : Value → World → Prop} (h : ∀ v w, p v w → q v w) {r : Result Next} (hr : gives P p r) : gives P q r := by
  cases r with
  | ok n w => cases n <;> simp only [gives] at hr ⊢ <;> first | exact h _ _ hr | exact Rows.mono hr h | exact Calls.mono hr fun e w ⟨v, he, hp⟩ => ⟨v, he, h _ _ hp⟩
  | halt x w => simp only [gives] at hr

inductive TE where
  | pure (c : Value)
  | call (c : Value) (T : World → Prop)
  | any (S : Value → World → Prop)
  | skip

def TE.S : TE → Value → World → Prop
  | .pure c, v, _ => v = c
  | .call c T, v, w => v = c ∧ T w
  | .any S, v, w => S v w
  | .skip, v, _ => v = undef

def TE.known : TE → Option Value
  | .pure c => some c
  | .call c _ => some c
  | .any _ => none
  | .skip => some undef

def anc (B : List Nat) (i j : Nat) : Bool := (B.getD i 0).testBit j

def Facts (B : List Nat) (i : Nat) : List (Nat × (World → Prop)) → World → Prop
  | [], _ => True
  | (j, F) :: r, w => (if anc B i j then F w else True) ∧ Facts B i r w

def All : List (Nat × (World → Prop)) → World → Prop
  | [], _ => True
  | (_, F) :: r, w => F w ∧ All r w

attribute [go_sem] gives

theorem Facts.get0 {B : List Nat} {i j : Nat} {F : World → Prop} {r : List (Nat × (World → Prop))} {w : World} (h : Facts B i ((j, F) :: r) w) (ha : anc B i j = true) : F w := by
  have := h.1; rw [if_pos ha] at this; exact this
theorem Facts.tl {B : List Nat} {i : Nat} {f : Nat × (World → Prop)} {r : List (Nat × (World → Prop))} {w : World} (h : Facts B i (f :: r) w) : Facts B i r w := h.2

structure Ctx where
  P : Program
  ops : Array Oper
  B : List Nat
  R : World → World → Prop
  w0 : World

def TW (C : Ctx) (Q : Act → World → Prop) : Nat → List Oper → List TE → List (Nat × (World → Prop)) → Act → Prop
  | i, o :: os, .skip :: es, fs, a => Region.wanted o (yielded C.ops a.tmps) = false ∧ TW C Q (i + 1) os es fs (a.put o.dst undef)
  | i, o :: os, .pure c :: es, fs, a => Region.wanted o (yielded C.ops a.tmps) = true ∧
      (∀ w, C.R C.w0 w → Facts C.B i fs w → gives C.P (fun v w' => ∃ v', a.put o.dst v = a.put o.dst v' ∧ v' = c ∧ C.R w w') ((execOp a.eval o).run C.P w)) ∧
      TW C Q (i + 1) os es fs (a.put o.dst c)
  | i, o :: os, .call c T :: es, fs, a => Region.wanted o (yielded C.ops a.tmps) = true ∧ (∀ w w', C.R w w' → T w → T w') ∧
      (∀ w, C.R C.w0 w → Facts C.B i fs w → gives C.P (fun v w' => ∃ v', a.put o.dst v = a.put o.dst v' ∧ v' = c ∧ C.R w w' ∧ T w') ((execOp a.eval o).run C.P w)) ∧
      TW C Q (i + 1) os es ((i, T) :: fs) (a.put o.dst c)
  | i, o :: os, .any S :: es, fs, a => Region.wanted o (yielded C.ops a.tmps) = true ∧ (∀ v w w', C.R w w' → S v w → S v w') ∧
      (∀ w, C.R C.w0 w → Facts C.B i fs w → gives C.P (fun v w' => ∃ v', a.put o.dst v = a.put o.dst v' ∧ C.R w w' ∧ S v' w') ((execOp a.eval o).run C.P w)) ∧
      ∀ v, TW C Q (i + 1) os es ((i, S v) :: fs) (a.put o.dst v)
  | _, [], [], fs, a => ∀ w, C.R C.w0 w → All fs w → Q a w
  | _, _, _, _, _ => False

/-- the region's operations and their masks, behind one name -/
structure OB where
  ops : Array Oper
  B : List Nat
def TWO (P : Program) (O : OB) (R : World → World → Prop) (w0 : World) (Q : Act → World → Prop) : Nat → List Oper → List TE → List (Nat × (World → Prop)) → Act → Prop := TW ⟨P, O.ops, O.B, R, w0⟩ Q
section rules
variable {P : Program} {O : OB} {R : World → World → Prop} {w0 : World} {a' : Act} {Q : Act → World → Prop} {i : Nat} {o : Oper} {os : List Oper} {es : List TE} {fs : List (Nat × (World → Prop))} {a : Act}
theorem TW.skip_ (h : Region.wanted o (yielded O.ops a.tmps) = false) (ha : a.put o.dst undef = a') (hk : TWO P O R w0 Q (i + 1) os es fs a') : TWO P O R w0 Q i (o :: os) (.skip :: es) fs a := ⟨h, by subst ha; exact hk⟩
theorem TW.nil_ (h : ∀ w, R w0 w → All fs w → Q a w) : TWO P O R w0 Q i [] [] fs a := h

theorem TW.move_ (hrefl : ∀ w, R w w) (x : Operand) (ho : o.op = .move x) (h : Region.wanted o (yielded O.ops a.tmps) = true)
    (ha : a.put o.dst (a.eval x) = a') (hk : TWO P O R w0 Q (i + 1) os es fs a') : TWO P O R w0 Q i (o :: os) (.pure (a.eval x) :: es) fs a :=
  ⟨h, fun w _ _ => by rw [BigFrame.run_move x ho]; exact ⟨_, rfl, rfl, hrefl w⟩, by subst ha; exact hk⟩
theorem TW.assign_ (hrefl : ∀ w, R w w) (x : Operand) (ho : o.op = .assign x) (h : Region.wanted o (yielded O.ops a.tmps) = true)
    (ha : a.put o.dst (a.eval x) = a') (hk : TWO P O R w0 Q (i + 1) os es fs a') : TWO P O R w0 Q i (o :: os) (.pure (a.eval x) :: es) fs a :=
  ⟨h, fun w _ _ => by rw [BigFrame.run_assign x ho]; exact ⟨_, rfl, rfl, hrefl w⟩, by subst ha; exact hk⟩

/-- one operation, its guard struck, walked as in a region that does not draw -/
def One (P : Program) (ops : Array Oper) (o : Oper) (a : Act) (w : World) (K : Act → World → Prop) : Prop :=
  wpList P ops (Exit.then K (fun _ _ _ => False)) [{ dst := o.dst, op := o.op, type := o.type, pos := o.pos, after := o.after, guard := none }] a w

theorem gives_of_one {ops : Array Oper} {w : World} {post : Value → World → Prop} (h : ∀ K : Act → World → Prop, (∀ v w', post v w' → K (a.put o.dst v) w') → One P ops o a w K) :
    gives P (fun v w' => ∃ v', a.put o.dst v = a.put o.dst v' ∧ post v' w') ((execOp a.eval o).run P w) := by
  have h1 := h (fun a' w' => ∃ v', a' = a.put o.dst v' ∧ post v' w') (fun v w' hp => ⟨v, rfl, hp⟩)
  unfold One wpList at h1
  simp only [Region.wanted, if_true] at h1
  have hex : execOp a.eval { dst := o.dst, op := o.op, type := o.type, pos := o.pos, after := o.after, guard := none } = execOp a.eval o := by
    obtain ⟨d, op, t, p, af, g⟩ := o
    cases op <;> rfl
  rcases h1 with h1 | ⟨_, a', w', hf⟩
  · unfold Oper.wp at h1
    rw [hex] at h1
    generalize (execOp a.eval o).run P w = r at h1
    cases r with
    | ok n w' =>
      cases n <;> simp only [Oper.upon] at h1 <;> simp only [gives]
      case value v => simpa [wpList, Exit.then] using h1
      case skip => simpa [wpList, Exit.then] using h1
      case enter f args =>
        refine h1.mono fun e w'' he => ?_
        cases e with
        | returned v => exact ⟨v, rfl, by simpa [wpList, Exit.then] using he⟩
        | panicked c => simp [Exit.then] at he
        | outgrown => obtain ⟨_, _, hf⟩ := he; simp [Exit.then] at hf
      case defer d =>
        obtain ⟨v', he, _⟩ := (by simpa [wpList, Exit.then] using h1 : ∃ v', _ ∧ _)
        have := congrArg (fun x => x.defers.length) he
        cases hd : o.dst <;> simp [Act.put, hd] at this
      case row row args => exact Rows.mono h1 fun v w'' hv => by simpa [wpList, Exit.then] using hv
    | halt x w' =>
      cases x <;> simp only [Oper.upon] at h1
      all_goals simp [Exit.then] at h1
  · simp [Exit.then] at hf

theorem TW.pure_ {c : Value} (h : Region.wanted o (yielded O.ops a.tmps) = true)
    (hg : ∀ w, R w0 w → Facts O.B i fs w → ∀ K : Act → World → Prop, (∀ w', R w w' → K (a.put o.dst c) w') → One P O.ops o a w K)
    (ha : a.put o.dst c = a') (hk : TWO P O R w0 Q (i + 1) os es fs a') : TWO P O R w0 Q i (o :: os) (.pure c :: es) fs a :=
  ⟨h, fun w hw hf => gives_of_one fun K hK => hg w hw hf K fun w' hR => hK c w' ⟨rfl, hR⟩, by subst ha; exact hk⟩
theorem TW.call_ {c : Value} (T : World → Prop) (h : Region.wanted o (yielded O.ops a.tmps) = true) (hT : ∀ w w', R w w' → T w → T w')
    (hg : ∀ w, R w0 w → Facts O.B i fs w → ∀ K : Act → World → Prop, (∀ w', R w w' → T w' → K (a.put o.dst c) w') → One P O.ops o a w K)
    (ha : a.put o.dst c = a') (hk : TWO P O R w0 Q (i + 1) os es ((i, T) :: fs) a') : TWO P O R w0 Q i (o :: os) (.call c T :: es) fs a :=
  ⟨h, hT, fun w hw hf => gives_of_one fun K hK => hg w hw hf K fun w' hR hTw => hK c w' ⟨rfl, hR, hTw⟩, by subst ha; exact hk⟩
theorem TW.any_ (S : Value → World → Prop) (h : Region.wanted o (yielded O.ops a.tmps) = true) (hS : ∀ v w w', R w w' → S v w → S v w')
    (hg : ∀ w, R w0 w → Facts O.B i fs w → ∀ K : Act → World → Prop, (∀ v w', R w w' → S v w' → K (a.put o.dst v) w') → One P O.ops o a w K)
    (hk : ∀ v a', a.put o.dst v = a' → TWO P O R w0 Q (i + 1) os es ((i, S v) :: fs) a') : TWO P O R w0 Q i (o :: os) (.any S :: es) fs a :=
  ⟨h, hS, fun w hw hf => gives_of_one fun K hK => hg w hw hf K fun v w' hR hSv => hK v w' ⟨hR, hSv⟩, fun v => hk v _ rfl⟩
end rules

/-! ### what the kernel checks of a region -/
def edges (ops : Array Oper) (i : Nat) : List Nat := ((ops[i]?).map fun o => (o.after.toList.filter (Region.binds .any)).map (·.on)).getD []
def looks (ops : Array Oper) (i : Nat) : List Tmp := ((ops[i]?).map fun o => o.looksAt ops).getD []
def dstOf (ops : Array Oper) (i : Nat) : Option Tmp := (ops[i]?).bind (·.dst)
def isSelect (o : Oper) : Bool := match o.op with | .select _ _ => true | _ => false
/-- the mask of i: all that its edges name, and theirs -/
def closedAt (ops : Array Oper) (B : List Nat) (i j : Nat) : Bool :=
  !(anc B i j) || (decide (j < i) && (edges ops i).any fun e => e == j || anc B e j)
def slotsAt (ops : Array Oper) (B : List Nat) (i j : Nat) : Bool :=
  i == j || (match dstOf ops j with
    | none => true
    | some d => (dstOf ops i != some d) && (!(looks ops i).contains d || anc B i j || anc B j i))
def okB (ops : Array Oper) (B : List Nat) : Bool :=
  (ops.toList.all fun o => !isSelect o) && ((List.range ops.size).all fun i => (edges ops i).all fun e => decide (e < i)) && (List.range ops.size).all fun i => (List.range ops.size).all fun j => closedAt ops B i j && slotsAt ops B i j

section
variable {C : Ctx} {Q : Act → World → Prop} {a0 : Act}

structure OK (ops : Array Oper) (B : List Nat) : Prop where
  edge : ∀ (i e : Nat), i < ops.size → e ∈ edges ops i → e < i
  sel : ∀ (i : Nat) (o : Oper), ops[i]? = some o → ∀ (cs : Array SelectCase) (b : Bool), o.op ≠ .select cs b
  lt : ∀ (i j : Nat), i < ops.size → j < ops.size → anc B i j = true → j < i
  up : ∀ (i j : Nat), i < ops.size → j < ops.size → anc B i j = true → ∃ e ∈ edges ops i, e = j ∨ anc B e j = true
  ne : ∀ (i j : Nat) (d : Nat), i < ops.size → j < ops.size → i ≠ j → dstOf ops j = some d → dstOf ops i ≠ some d
  look : ∀ (i j : Nat) (d : Nat), i < ops.size → j < ops.size → i ≠ j → dstOf ops j = some d → d ∈ looks ops i → anc B i j = true ∨ anc B j i = true

theorem ok_of {ops : Array Oper} {B : List Nat} (h : okB ops B = true) : OK ops B := by
  simp only [okB, Bool.and_eq_true, List.all_eq_true, List.mem_range] at h
  obtain ⟨⟨h1, h3⟩, h2⟩ := h
  refine ⟨fun i e hi he => of_decide_eq_true (h3 i hi e he), fun i o ho cs b he => ?_, fun i j hi hj ha => ?_, fun i j hi hj ha => ?_, fun i j d hi hj hne hd => ?_, fun i j d hi hj hne hd hl => ?_⟩
  · have hm : o ∈ ops.toList := by
      have := List.mem_of_getElem? (l := ops.toList) (i := i) (a := o) (by simpa using ho)
      exact this
    have := h1 o hm
    simp [isSelect, he] at this
  · have := (h2 i hi j hj).1
    simp [closedAt, ha] at this
    exact this.1
  · have := (h2 i hi j hj).1
    simp [closedAt, ha] at this
    obtain ⟨_, e, he, h⟩ := this
    exact ⟨e, he, h⟩
  · have := (h2 i hi j hj).2
    simp [slotsAt, hne, hd] at this
    exact this.1
  · have := (h2 i hi j hj).2
    simp [slotsAt, hne, hd, hl] at this
    exact this.2

/-- a frame in which the operations of L have left their values -/
structure Agree (ops : Array Oper) (a0 : Act) (L : Nat → Bool) (vals : Nat → Value) (a : Act) : Prop where
  defers : a.defers = a0.defers
  size : a.tmps.size = a0.tmps.size
  put : ∀ (i : Nat) (t : Nat), i < ops.size → dstOf ops i = some t → L i = true → t < a0.tmps.size → a.tmps[t]? = some (vals i)
  old : ∀ (t : Nat), (∀ (i : Nat), i < ops.size → dstOf ops i = some t → L i = false) → a.tmps[t]? = a0.tmps[t]?

theorem Agree.start {ops : Array Oper} {vals : Nat → Value} : Agree ops a0 (fun _ => false) vals a0 :=
  ⟨rfl, rfl, fun _ _ _ _ h _ => (by cases h), fun _ _ => rfl⟩

theorem Agree.ext {ops : Array Oper} {L : Nat → Bool} {vals : Nat → Value} {a b : Act} (ha : Agree ops a0 L vals a) (hb : Agree ops a0 L vals b) : a = b := by
  have ht : a.tmps = b.tmps := by
    apply Array.ext_getElem?
    intro t
    by_cases h : ∃ i, i < ops.size ∧ dstOf ops i = some t ∧ L i = true
    · obtain ⟨i, hi, hd, hL⟩ := h
      by_cases hs : t < a0.tmps.size
      · rw [ha.put i t hi hd hL hs, hb.put i t hi hd hL hs]
      · rw [Array.getElem?_eq_none (by rw [ha.size]; omega), Array.getElem?_eq_none (by rw [hb.size]; omega)]
    · have hno : ∀ i, i < ops.size → dstOf ops i = some t → L i = false := fun i hi hd => by
        cases hL : L i with
        | false => rfl
        | true => exact absurd ⟨i, hi, hd, hL⟩ h
      rw [ha.old t hno, hb.old t hno]
  cases a; cases b
  simp only at ht
  have h1 := ha.defers
  have h2 := hb.defers
  simp only at h1 h2
  rw [ht, h1, h2]

/-- one operation more -/
theorem Agree.step {ops : Array Oper} {B : List Nat} (hok : OK ops B) {L : Nat → Bool} {vals : Nat → Value} {a : Act} (h : Agree ops a0 L vals a)
    {i : Nat} {o : Oper} (hi : ops[i]? = some o) (hL : L i = false) (v : Value) :
    Agree ops a0 (fun j => if j = i then true else L j) (fun j => if j = i then v else vals j) (a.put o.dst v) := by
  have hilt : i < ops.size := by
    rcases Nat.lt_or_ge i ops.size with h | h
    · exact h
    · rw [Array.getElem?_eq_none h] at hi; cases hi
  have hdi : dstOf ops i = o.dst := by simp [dstOf, hi]
  cases hd : o.dst with
  | none =>
    refine ⟨h.defers, h.size, fun j t hj hdj hLj ht => ?_, fun t hn => ?_⟩
    · by_cases hji : j = i
      · subst hji; rw [hdi, hd] at hdj; cases hdj
      · simp only [hji, if_false] at hLj ⊢
        exact h.put j t hj hdj hLj ht
    · exact h.old t fun j hj hdj => by
        have := hn j hj hdj
        by_cases hji : j = i
        · subst hji; exact hL
        · simpa [hji] using this
  | some d =>
    refine ⟨h.defers, by simpa [Act.put] using h.size, fun j t hj hdj hLj ht => ?_, fun t hn => ?_⟩
    · by_cases hji : j = i
      · subst hji
        rw [hdi, hd] at hdj
        cases hdj
        have hta : d < a.tmps.size := by rw [h.size]; exact ht
        simp [Act.put, hta]
      · simp only [hji, if_false] at hLj ⊢
        have hne : d ≠ t := fun e => hok.ne i j t hilt hj (Ne.symm hji) hdj (by rw [hdi, hd, e])
        simp only [Act.put]
        rw [Array.getElem?_setIfInBounds_ne hne]
        exact h.put j t hj hdj hLj ht
    · have hne : d ≠ t := fun e => by
        have := hn i hilt (by rw [hdi, hd, e])
        simp at this
      simp only [Act.put]
      rw [Array.getElem?_setIfInBounds_ne hne]
      exact h.old t fun j hj hdj => by
        have := hn j hj hdj
        by_cases hji : j = i
        · subst hji; exact hL
        · simpa [hji] using this

theorem Agree.congr {ops : Array Oper} {L L' : Nat → Bool} {vals vals' : Nat → Value} {a : Act} (h : Agree ops a0 L vals a)
    (hL : ∀ i, i < ops.size → L i = L' i) (hv : ∀ i, i < ops.size → L i = true → vals i = vals' i) : Agree ops a0 L' vals' a :=
  ⟨h.defers, h.size, fun i t hi hd hl ht => by rw [← hv i hi (by rw [hL i hi]; exact hl)]; exact h.put i t hi hd (by rw [hL i hi]; exact hl) ht,
    fun t hn => h.old t fun i hi hd => by rw [hL i hi]; exact hn i hi hd⟩

/-- two frames look alike to an operation -/
theorem Agree.slot {ops : Array Oper} {L L' : Nat → Bool} {vals : Nat → Value} {a b : Act} (ha : Agree ops a0 L vals a) (hb : Agree ops a0 L' vals b) (t : Nat)
    (h : ∀ j, j < ops.size → dstOf ops j = some t → L j = L' j) : a.tmps[t]? = b.tmps[t]? := by
  by_cases hw : ∃ i, i < ops.size ∧ dstOf ops i = some t ∧ L i = true
  · obtain ⟨i, hi, hd, hL⟩ := hw
    by_cases hs : t < a0.tmps.size
    · rw [ha.put i t hi hd hL hs, hb.put i t hi hd (by rw [← h i hi hd]; exact hL) hs]
    · rw [Array.getElem?_eq_none (by rw [ha.size]; omega), Array.getElem?_eq_none (by rw [hb.size]; omega)]
  · have hno : ∀ i, i < ops.size → dstOf ops i = some t → L i = false := fun i hi hd => by
      cases hL : L i with
      | false => rfl
      | true => exact absurd ⟨i, hi, hd, hL⟩ hw
    rw [ha.old t hno, hb.old t fun i hi hd => by rw [← h i hi hd]; exact hno i hi hd]

theorem exec_same {ops : Array Oper} {a b : Act} {o : Oper} (hs : ∀ (cs : Array SelectCase) (b : Bool), o.op ≠ .select cs b) (h : ∀ t ∈ o.looksAt ops, a.tmps[t]? = b.tmps[t]?) :
    execOp a.eval o = execOp b.eval o :=
  execOp_congr o hs fun x hx => by
    cases x with
    | tmp t =>
      have ht : t ∈ o.looksAt ops := List.mem_append_left _ (List.mem_filterMap.2 ⟨.tmp t, by simpa using hx, rfl⟩)
      simp only [Act.eval, Array.getD_eq_getD_getElem?, h t ht]
    | _ => rfl

theorem wanted_same {ops : Array Oper} {a b : Act} {o : Oper} (h : ∀ t ∈ o.looksAt ops, a.tmps[t]? = b.tmps[t]?) :
    Region.wanted o (yielded ops a.tmps) = Region.wanted o (yielded ops b.tmps) := by
  unfold Region.wanted
  cases hg : o.guard with
  | none => rfl
  | some gw =>
    obtain ⟨g, want⟩ := gw
    have hy : yielded ops a.tmps g = yielded ops b.tmps g := by
      unfold yielded
      cases ht : (ops[g]?).bind (·.dst) with
      | none => rfl
      | some t =>
        have := h t (by simp [Oper.looksAt, hg, ht])
        simp [this]
    simp only [hy]

/-- what is asked of operation i, in the frame that the table lays -/
def Obl (C : Ctx) (ts : List TE) (vals : Nat → Value) (i : Nat) (o : Oper) (e : TE) (a : Act) : Prop :=
  (e = .skip ∧ Region.wanted o (yielded C.ops a.tmps) = false) ∨
  (Region.wanted o (yielded C.ops a.tmps) = true ∧ ∀ w, C.R C.w0 w → (∀ (j : Nat) (e' : TE), j < i → anc C.B i j = true → ts[j]? = some e' → e'.S (vals j) w) →
    gives C.P (fun v w' => ∃ v', a.put o.dst v = a.put o.dst v' ∧ C.R w w' ∧ e.S v' w' ∧ ∀ c, e.known = some c → v' = c) ((execOp a.eval o).run C.P w))

theorem facts_of {B : List Nat} {i : Nat} {w : World} : ∀ {fs : List (Nat × (World → Prop))}, (∀ f ∈ fs, anc B i f.1 = true → f.2 w) → Facts B i fs w
  | [], _ => trivial
  | (j, F) :: r, h => ⟨by
      by_cases ha : anc B i j = true
      · rw [if_pos ha]; exact h (j, F) (by simp) ha
      · rw [if_neg ha]; trivial, facts_of fun f hf => h f (by simp [hf])⟩
theorem all_of {w : World} : ∀ {fs : List (Nat × (World → Prop))}, (∀ f ∈ fs, f.2 w) → All fs w
  | [], _ => trivial
  | (j, F) :: r, h => ⟨h (j, F) (by simp), all_of fun f hf => h f (by simp [hf])⟩

def Resp (ts : List TE) (vals : Nat → Value) : Prop := ∀ (i : Nat) (e : TE), ts[i]? = some e → ∀ c, e.known = some c → vals i = c
def Stable (C : Ctx) (ts : List TE) : Prop := ∀ (i : Nat) (e : TE) (v : Value) (w w' : World), ts[i]? = some e → C.R w w' → e.S v w → e.S v w'

theorem count_lt {l : List Nat} {p q : Nat → Bool} (i : Nat) (hi : i ∈ l) (hp : p i = true) (hq : q i = false) (h : ∀ k, q k = true → p k = true) :
    (l.filter q).length < (l.filter p).length := by
  induction l with
  | nil => cases hi
  | cons x l ih =>
    by_cases hxi : x = i
    · subst hxi
      rw [List.filter_cons_of_pos hp, List.filter_cons_of_neg (by simp [hq])]
      have : (l.filter q).length ≤ (l.filter p).length := by
        clear ih hi
        induction l with
        | nil => simp
        | cons y l ih =>
          by_cases hy : q y = true
          · rw [List.filter_cons_of_pos hy, List.filter_cons_of_pos (h y hy)]; simp; exact ih
          · rw [List.filter_cons_of_neg (by simpa using hy)]
            by_cases hy' : p y = true
            · rw [List.filter_cons_of_pos hy']; simp; omega
            · rw [List.filter_cons_of_neg (by simpa using hy')]; exact ih
      simp; omega
    · have := ih (by rcases List.mem_cons.1 hi with rfl | h'; exact absurd rfl hxi; exact h')
      by_cases hy : q x = true
      · rw [List.filter_cons_of_pos hy, List.filter_cons_of_pos (h x hy)]; simp; exact this
      · rw [List.filter_cons_of_neg (by simpa using hy)]
        by_cases hy' : p x = true
        · rw [List.filter_cons_of_pos hy']; simp; omega
        · rw [List.filter_cons_of_neg (by simpa using hy')]; exact this

theorem put_same {a b : Act} {d : Option Tmp} {v v' : Value} (hs : b.tmps.size = a.tmps.size) (h : b.put d v = b.put d v') : a.put d v = a.put d v' := by
  cases d with
  | none => rfl
  | some t =>
    by_cases ht : t < b.tmps.size
    · have h1 := congrArg (fun x => x.tmps[t]?) h
      simp only [Act.put] at h1
      rw [Array.getElem?_setIfInBounds_self_of_lt ht, Array.getElem?_setIfInBounds_self_of_lt ht] at h1
      cases h1; rfl
    · have ht' : ¬ t < a.tmps.size := by rw [← hs]; exact ht
      simp only [Act.put, Array.setIfInBounds, ht', dite_false]

/-- what the walk gives from place k on -/
def Good (C : Ctx) (Q : Act → World → Prop) (a0 : Act) (ts : List TE) (vals : Nat → Value) (k : Nat) (os : List Oper) (es : List TE) : Prop :=
  os.length = es.length ∧
    (∀ (i : Nat) (o : Oper) (e : TE), k ≤ i → C.ops[i]? = some o → ts[i]? = some e → ∃ b, Agree C.ops a0 (fun j => decide (j < i)) vals b ∧ Obl C ts vals i o e b) ∧
    (∀ (i : Nat) (e : TE) (v : Value) (w w' : World), k ≤ i → ts[i]? = some e → C.R w w' → e.S v w → e.S v w') ∧
    ∃ b, Agree C.ops a0 (fun j => decide (j < k + os.length)) vals b ∧ ∀ w, C.R C.w0 w → (∀ (j : Nat) (e : TE), j < k + os.length → ts[j]? = some e → e.S (vals j) w) → Q b w

/-- the walk, read off: from place k on -/
theorem tw_read {ts : List TE} {vals : Nat → Value} (hr : Resp ts vals) (hok : OK C.ops C.B) : ∀ (os : List Oper) (es : List TE) (k : Nat) (fs : List (Nat × (World → Prop))) (a : Act),
    (∀ (j : Nat), os[j]? = C.ops[k + j]?) → (∀ (j : Nat), es[j]? = ts[k + j]?) →
    (∀ f ∈ fs, f.1 < k ∧ ∃ e : TE, ts[f.1]? = some e ∧ ∀ w, e.S (vals f.1) w → f.2 w) →
    Agree C.ops a0 (fun j => decide (j < k)) vals a →
    TW C Q k os es fs a → Good C Q a0 ts vals k os es
  | [], [], k, fs, a, ho, he, hfs, hag, h => by
    refine ⟨rfl, fun i o e hk hoi _ => ?_, fun i e v w w' hk hti => ?_, a, by simpa using hag, fun w hw hall => ?_⟩
    · have := ho (i - k); rw [show k + (i - k) = i from by omega, hoi] at this; simp at this
    · have := he (i - k); rw [show k + (i - k) = i from by omega, hti] at this; simp at this
    · simp only [TW] at h
      exact h w hw (all_of fun f hf => by
        obtain ⟨hlt, e, hte, himp⟩ := hfs f hf
        exact himp w (hall f.1 e (by simpa using hlt) hte))
  | [], _ :: _, _, _, _, _, _, _, _, h => by simp [TW] at h
  | _ :: _, [], _, _, _, _, _, _, _, h => by simp [TW] at h
  | o :: os, e :: es, k, fs, a, ho, he, hfs, hag, h => by
    have hok0 : C.ops[k]? = some o := by simpa using (ho 0).symm
    have hte0 : ts[k]? = some e := by simpa using (he 0).symm
    have ho' : ∀ (j : Nat), os[j]? = C.ops[k + 1 + j]? := fun j => by have := ho (j + 1); rw [show k + 1 + j = k + (j + 1) from by omega, ← this]; rfl
    have he' : ∀ (j : Nat), es[j]? = ts[k + 1 + j]? := fun j => by have := he (j + 1); rw [show k + 1 + j = k + (j + 1) from by omega, ← this]; rfl
    have hag' : Agree C.ops a0 (fun j => decide (j < k + 1)) vals (a.put o.dst (vals k)) :=
      (hag.step hok hok0 (by simp) (vals k)).congr (fun i _ => by by_cases hik : i = k <;> simp [hik]; omega) (fun i _ _ => by by_cases hik : i = k <;> simp [hik])
    -- what every kind gives
    have main : ∀ (fs' : List (Nat × (World → Prop))), (∀ f ∈ fs', f.1 < k + 1 ∧ ∃ e : TE, ts[f.1]? = some e ∧ ∀ w, e.S (vals f.1) w → f.2 w) →
        TW C Q (k + 1) os es fs' (a.put o.dst (vals k)) → Obl C ts vals k o e a → (∀ (v : Value) (w w' : World), C.R w w' → e.S v w → e.S v w') → Good C Q a0 ts vals k (o :: os) (e :: es) := fun fs' hfs' h' hobl hst => by
      obtain ⟨hlen, hobs, hsts, b, hb, hq⟩ := tw_read hr hok os es (k + 1) fs' _ ho' he' hfs' hag' h'
      refine ⟨by simpa using hlen, fun i oi ei hk hoi hti => ?_, fun i ei v w w' hk hti => ?_, b, ?_, ?_⟩
      · rcases Nat.lt_or_ge k i with hlt | hge
        · exact hobs i oi ei hlt hoi hti
        · obtain rfl : i = k := by omega
          rw [hok0] at hoi; rw [hte0] at hti
          cases hoi; cases hti
          exact ⟨a, hag, hobl⟩
      · rcases Nat.lt_or_ge k i with hlt | hge
        · exact hsts i ei v w w' hlt hti
        · obtain rfl : i = k := by omega
          rw [hte0] at hti; cases hti
          exact hst v w w'
      · simpa [Nat.add_assoc, Nat.add_comm 1] using hb
      · intro w hw hall
        exact hq w hw fun j ej hj htj => hall j ej (by simp; omega) htj
    have old : ∀ f ∈ fs, f.1 < k + 1 ∧ ∃ e : TE, ts[f.1]? = some e ∧ ∀ w, e.S (vals f.1) w → f.2 w := fun f hf => ⟨by have := (hfs f hf).1; omega, (hfs f hf).2⟩
    have facts : ∀ w, (∀ (j : Nat) (e' : TE), j < k → anc C.B k j = true → ts[j]? = some e' → e'.S (vals j) w) → Facts C.B k fs w := fun w hw => facts_of fun f hf ha => by
      obtain ⟨hlt, e', hte, himp⟩ := hfs f hf
      exact himp w (hw f.1 e' hlt ha hte)
    cases e with
    | skip =>
      obtain ⟨hw, hk⟩ := h
      rw [← hr k _ hte0 undef rfl] at hk
      exact main fs old hk (.inl ⟨rfl, hw⟩) (fun v w w' _ h => h)
    | pure c =>
      obtain ⟨hw, hg, hk⟩ := h
      rw [← hr k _ hte0 c rfl] at hk
      refine main fs old hk (.inr ⟨hw, fun w hRw hf => gives_mono (fun v w' ⟨v', hp, hv⟩ => ⟨v', hp, hv.2, hv.1, fun c' hc' => ?_⟩) (hg w hRw (facts w hf))⟩) (fun v w w' _ h => h)
      simp only [TE.known, Option.some.injEq] at hc'
      rw [← hc']; exact hv.1
    | call c T =>
      obtain ⟨hw, hT, hg, hk⟩ := h
      rw [← hr k _ hte0 c rfl] at hk
      refine main _ ?_ hk (.inr ⟨hw, fun w hRw hf => gives_mono (fun v w' ⟨v', hp, hv⟩ => ⟨v', hp, hv.2.1, ⟨hv.1, hv.2.2⟩, fun c' hc' => ?_⟩) (hg w hRw (facts w hf))⟩) (fun v w w' hR h => ⟨h.1, hT w w' hR h.2⟩)
      · intro f hf
        rcases List.mem_cons.1 hf with rfl | hf
        · exact ⟨by simp, _, hte0, fun w hw => hw.2⟩
        · exact old f hf
      · simp only [TE.known, Option.some.injEq] at hc'
        rw [← hc']; exact hv.1
    | any S =>
      obtain ⟨hw, hS, hg, hk⟩ := h
      refine main _ ?_ (hk (vals k)) (.inr ⟨hw, fun w hRw hf => gives_mono (fun v w' ⟨v', hp, hv⟩ => ⟨v', hp, hv.1, hv.2, fun c' hc' => by simp [TE.known] at hc'⟩) (hg w hRw (facts w hf))⟩) hS
      intro f hf
      rcases List.mem_cons.1 hf with rfl | hf
      · exact ⟨by simp, _, hte0, fun w hw => hw⟩
      · exact old f hf

/-! ### whatever order is picked -/
/-- how far a run in some order has come -/
structure Inv (C : Ctx) (a0 : Act) (ts : List TE) (listed : Array Bool) (vals : Nat → Value) (a : Act) (w : World) : Prop where
  resp : Resp ts vals
  rel : C.R C.w0 w
  agree : Agree C.ops a0 (fun j => listed.getD j true) vals a
  facts : ∀ (i : Nat) (e : TE), i < C.ops.size → listed.getD i true = true → ts[i]? = some e → e.S (vals i) w
  down : ∀ (i j : Nat), i < C.ops.size → listed.getD i true = true → j < C.ops.size → anc C.B i j = true → listed.getD j true = true

theorem any_of {ts : List TE} (hok : OK C.ops C.B) (hlen : ts.length = C.ops.size) (htw : TW C Q 0 C.ops.toList ts [] a0)
    (hrefl : ∀ a, C.R a a) (htrans : ∀ a b c, C.R a b → C.R b c → C.R a c) {Q' : Exit → Act → World → Prop} (hQ : ∀ a w, Q a w → Q' .normal a w) :
    ∀ (fuel : Nat) (listed : Array Bool) (vals : Nat → Value) (a : Act) (w : World), listed.size = C.ops.size →
      ((List.range C.ops.size).filter fun i => !listed.getD i true).length ≤ fuel →
      Inv C a0 ts listed vals a w → wpAny C.P .any C.ops Q' fuel listed a w := by
  have good : ∀ vals, Resp ts vals → Good C Q a0 ts vals 0 C.ops.toList ts := fun vals hr =>
    tw_read hr hok C.ops.toList ts 0 [] a0 (fun j => by simp) (fun j => by simp) (fun f hf => by cases hf) ((Agree.start (vals := vals)).congr (fun i _ => by simp) (fun i _ h => rfl)) htw
  have ready_spec : ∀ (listed : Array Bool) (i : Nat), i ∈ Region.ready .any C.ops listed → i < C.ops.size ∧ listed.getD i true = false ∧ ∀ e ∈ edges C.ops i, listed.getD e false = true := by
    intro listed i hi
    obtain ⟨hmem, hcond⟩ := List.mem_filter.1 hi
    have hlt : i < C.ops.size := List.mem_range.1 hmem
    simp only [Bool.and_eq_true, Bool.not_eq_true'] at hcond
    refine ⟨hlt, hcond.1, fun e he => ?_⟩
    have h2 := hcond.2
    simp only [Array.getElem?_eq_getElem hlt, Option.map_some, Option.getD_some, Array.all_eq_true, Bool.or_eq_true, Bool.not_eq_true'] at h2
    simp only [edges, Array.getElem?_eq_getElem hlt, Option.map_some, Option.getD_some, List.mem_map, List.mem_filter] at he
    obtain ⟨x, ⟨hx, hb⟩, rfl⟩ := he
    obtain ⟨n, hn, rfl⟩ := List.getElem_of_mem hx
    have := h2 n (by simpa using hn)
    simp only [Array.getElem_toList] at hb
    rcases this with h | h
    · rw [hb] at h; cases h
    · simpa using h
  -- nothing left: all have been carried out
  have done : ∀ (listed : Array Bool) (vals : Nat → Value) (a : Act) (w : World), listed.size = C.ops.size → Inv C a0 ts listed vals a w → (∀ i, i < C.ops.size → listed.getD i true = true) → Q' .normal a w := by
    intro listed vals a w hsz hinv hall
    obtain ⟨_, _, _, b, hb, hq⟩ := good vals hinv.resp
    have hab : a = b := Agree.ext (L := fun _ => true) (hinv.agree.congr (fun i hi => hall i hi) (fun _ _ _ => rfl)) (hb.congr (fun i hi => by simp; exact hi) (fun _ _ _ => rfl))
    subst hab
    exact hQ _ _ (hq w hinv.rel fun j e hj hte => hinv.facts j e (by simpa using hj) (hall j (by simpa using hj)) hte)
  -- something is left: something is ready
  have some_ready : ∀ (listed : Array Bool), listed.size = C.ops.size → Region.ready .any C.ops listed = [] → ∀ n i, i < n → i < C.ops.size → listed.getD i true = true := by
    intro listed hsz hnil n
    induction n with
    | zero => intro i h; omega
    | succ n ih =>
      intro i hin hi
      cases hl : listed.getD i true with
      | true => rfl
      | false =>
        have hmem : i ∈ Region.ready .any C.ops listed := by
          refine List.mem_filter.2 ⟨List.mem_range.2 hi, ?_⟩
          simp only [hl, Bool.not_false, Bool.true_and, Array.getElem?_eq_getElem hi, Option.map_some, Option.getD_some, Array.all_eq_true, Bool.or_eq_true, Bool.not_eq_true']
          intro m hm
          cases hb : Region.binds .any (C.ops[i].after[m]) with
          | false => exact .inl rfl
          | true =>
            refine .inr ?_
            have he : C.ops[i].after[m].on ∈ edges C.ops i := by
              simp only [edges, Array.getElem?_eq_getElem hi, Option.map_some, Option.getD_some, List.mem_map, List.mem_filter]
              exact ⟨_, ⟨by simp, hb⟩, rfl⟩
            have hlt := hok.edge i _ hi he
            have := ih _ (by omega) (by omega : C.ops[i].after[m].on < C.ops.size)
            have hlt' : C.ops[i].after[m].on < listed.size := by omega
            simpa [Array.getD, hlt'] using this
        rw [hnil] at hmem
        cases hmem
  intro fuel
  induction fuel with
  | zero =>
    intro listed vals a w hsz hf hinv
    have hall : ∀ i, i < C.ops.size → listed.getD i true = true := fun i hi => by
      cases hl : listed.getD i true with
      | true => rfl
      | false =>
        have hm : i ∈ (List.range C.ops.size).filter fun i => !listed.getD i true := List.mem_filter.2 ⟨List.mem_range.2 hi, by simp only [hl]; rfl⟩
        have := List.length_pos_of_mem hm
        omega
    refine ⟨?_, done listed vals a w hsz hinv hall⟩
    cases hr : Region.ready .any C.ops listed with
    | nil => rfl
    | cons x xs =>
      obtain ⟨h1, h2, _⟩ := ready_spec listed x (by rw [hr]; simp)
      rw [hall x h1] at h2; cases h2
  | succ fuel ih =>
    intro listed vals a w hsz hf hinv
    refine ⟨fun hnil => done listed vals a w hsz hinv fun i hi => some_ready listed hsz hnil (i + 1) i (by omega) hi, fun i hi => ?_⟩
    obtain ⟨hlt, hun, hedge⟩ := ready_spec listed i hi
    have hoi : C.ops[i]? = some C.ops[i] := Array.getElem?_eq_getElem hlt
    have hti : ts[i]? = some (ts[i]'(by omega)) := List.getElem?_eq_getElem (by omega)
    generalize C.ops[i] = o at hoi
    generalize (ts[i]'(by omega)) = e at hti
    have hget : ∀ j, j < C.ops.size → listed.getD j false = listed.getD j true := fun j hj => by
      have : j < listed.size := by omega
      simp [Array.getD, this]
    -- what i waits for has been carried out
    have hanc : ∀ j, j < C.ops.size → anc C.B i j = true → listed.getD j true = true := fun j hj ha => by
      obtain ⟨e, he, h⟩ := hok.up i j hlt hj ha
      have hlte := hok.edge i e hlt he
      have hle := hedge e he
      rw [hget e (by omega)] at hle
      rcases h with rfl | h
      · exact hle
      · exact hinv.down e j (by omega) hle hj h
    have hdesc : ∀ j, j < C.ops.size → anc C.B j i = true → listed.getD j true = false := fun j hj ha => by
      cases hl : listed.getD j true with
      | false => rfl
      | true => rw [hinv.down j i hj hl hlt ha] at hun; cases hun
    obtain ⟨_, hobs, hsts, _⟩ := good vals hinv.resp
    obtain ⟨b, hb, hobl⟩ := hobs i o e (Nat.zero_le _) hoi hti
    have hlook : ∀ t ∈ o.looksAt C.ops, a.tmps[t]? = b.tmps[t]? := fun t ht => hinv.agree.slot hb t fun j hj hd => by
      by_cases hji : j = i
      · subst hji; rw [hun]; simp
      · rcases hok.look i j t hlt hj (Ne.symm hji) hd (by simpa [looks, hoi] using ht) with h | h
        · rw [hanc j hj h]; have := hok.lt i j hlt hj h; simp; exact this
        · rw [hdesc j hj h]; have := hok.lt j i hj hlt h; simp; omega
    have hex := exec_same (hok.sel i o hoi) hlook
    have hwt := wanted_same (ops := C.ops) hlook
    have hcount : ((List.range C.ops.size).filter fun k => !(listed.setIfInBounds i true).getD k true).length ≤ fuel := by
      refine Nat.le_of_lt_succ (Nat.lt_of_lt_of_le ?_ hf)
      refine count_lt i (List.mem_range.2 hlt) (by simp [hun]) (by have : i < listed.size := by omega
                                                                   simp [Array.getD, this]) ?_
      intro k hk
      by_cases hki : i = k
      · subst hki; simp [hun]
      · simpa [Array.getD_eq_getD_getElem?, Array.getElem?_setIfInBounds_ne hki] using hk
    have hset : ∀ j, j < C.ops.size → (listed.setIfInBounds i true).getD j true = if j = i then true else listed.getD j true := fun j hj => by
      by_cases hji : j = i
      · subst hji; have : j < listed.size := by omega
        simp [Array.getD, this]
      · simp [hji, Array.getD_eq_getD_getElem?, Array.getElem?_setIfInBounds_ne (Ne.symm hji)]
    -- behind it
    have next : ∀ v w', C.R w w' → e.S v w' → (∀ c, e.known = some c → v = c) → wpAny C.P .any C.ops Q' fuel (listed.setIfInBounds i true) (a.put o.dst v) w' := fun v w' hR hS hkn => by
      refine ih _ (fun j => if j = i then v else vals j) _ _ (by simpa using hsz) hcount ⟨fun j ej hj c hc => ?_, htrans _ _ _ hinv.rel hR, ?_, fun j ej hj hl hte => ?_, fun j k hj hl hk ha => ?_⟩
      · by_cases hji : j = i
        · subst hji; rw [hti] at hj; cases hj; simp only [if_true]; exact hkn c hc
        · simp only [hji, if_false]; exact hinv.resp j ej hj c hc
      · exact (hinv.agree.step hok hoi hun v).congr (fun j hj => (hset j hj).symm) (fun _ _ _ => rfl)
      · by_cases hji : j = i
        · subst hji; rw [hti] at hte; cases hte; simp only [if_true]; exact hS
        · simp only [hji, if_false]
          rw [hset j hj, if_neg hji] at hl
          exact hsts j ej _ w w' (Nat.zero_le _) hte hR (hinv.facts j ej hj hl hte)
      · rw [hset k hk]
        by_cases hki : k = i
        · rw [if_pos hki]
        · rw [if_neg hki]
          rw [hset j hj] at hl
          by_cases hji : j = i
          · subst hji; exact hanc k hk ha
          · rw [if_neg hji] at hl; exact hinv.down j k hj hl hk ha
    unfold wpOp
    simp only [hoi]
    rcases hobl with ⟨hskip, hw⟩ | ⟨hw, hg⟩
    · rw [if_neg (by rw [hwt, hw]; simp)]
      subst hskip
      exact next undef w (hrefl w) rfl (fun c hc => by simpa [TE.known] using hc)
    · rw [if_pos (by rw [hwt, hw])]
      refine .inl ?_
      have hgw := hg w hinv.rel fun j e' hj ha hte => hinv.facts j e' (by omega) (hanc j (by omega) ha) hte
      rw [← hex] at hgw
      unfold Oper.wp
      generalize (execOp a.eval o).run C.P w = r at hgw
      cases r with
      | ok n w' =>
        cases n <;> simp only [gives] at hgw <;> simp only [Oper.upon]
        case value v => obtain ⟨v', hp, h1, h2, h3⟩ := hgw; rw [put_same (hb.size.trans hinv.agree.size.symm) hp]; exact next v' w' h1 h2 h3
        case skip => obtain ⟨v', hp, h1, h2, h3⟩ := hgw; rw [put_same (hb.size.trans hinv.agree.size.symm) hp]; exact next v' w' h1 h2 h3
        case row row args => exact Rows.mono hgw fun v w'' ⟨v', hp, h1, h2, h3⟩ => by rw [put_same (hb.size.trans hinv.agree.size.symm) hp]; exact next v' w'' h1 h2 h3
        case enter f args => exact hgw.mono fun en w'' ⟨v, he, v', hp, h1, h2, h3⟩ => by subst he; show wpAny _ _ _ _ _ _ _ _; rw [put_same (hb.size.trans hinv.agree.size.symm) hp]; exact next v' w'' h1 h2 h3
      | halt x w' => simp only [gives] at hgw

/-- A region that draws its order, by a table. -/
theorem wp_tab {P : Program} {id : Nat} {l : List Oper} {Q' : Exit → Act → World → Prop} {a : Act} {w0 : World} (R : World → World → Prop) {ts : List TE}
    (hm : P.follows .mixedOrders = true) (hok : okB l.toArray (Region.before l.toArray).toList = true) (hrefl : ∀ a, R a a) (htrans : ∀ a b c, R a b → R b c → R a c) (hdrew : R w0 { w0 with drawn := w0.drawn + 1 })
    (hlen : ts.length = l.length)
    (h : let O : OB := ⟨l.toArray, (Region.before l.toArray).toList⟩; TWO P O R w0 (Q' .normal) 0 l ts [] a) : (Code.region id l.toArray true).wp P Q' a w0 := by
  refine wp_region_any hm ?_
  have hok' := ok_of hok
  -- a table that answers: every known value where it is known
  let vals : Nat → Value := fun i => ((ts[i]?).bind TE.known).getD undef
  have hresp : Resp ts vals := fun i e hi c hc => by simp [vals, hi, hc]
  refine any_of (C := ⟨P, l.toArray, (Region.before l.toArray).toList, R, w0⟩) (ts := ts) hok' (by simpa using hlen) (by simpa [TWO] using h) hrefl htrans (fun a w h => h) l.toArray.size (Array.replicate l.toArray.size false) vals a _ (by simp) ?_ ?_
  · exact Nat.le_trans (List.length_filter_le _ _) (by simp)
  · have hno : ∀ i, i < l.toArray.size → (Array.replicate l.toArray.size false).getD i true = false := fun i hi => by
      have hi' : i < l.length := by simpa using hi
      simp [Array.getD, hi']
    refine ⟨hresp, hdrew, Agree.start.congr (fun i hi => (hno i hi).symm) (fun _ _ h => rfl), fun i e hi hl _ => ?_, fun i j hi hl _ _ => ?_⟩
    · rw [hno i hi] at hl; cases hl
    · rw [hno i hi] at hl; cases hl

/-! ### the relation: all that there was is as it was -/
def Ext (w w' : World) : Prop := Below w.heap.size w w'
theorem Ext.refl (w : World) : Ext w w := Below.refl _ _
theorem Ext.trans {a b c : World} (h : Ext a b) (k : Ext b c) : Ext a c := Below.trans h (Below.mono k h.size)
theorem Ext.drew (w : World) : Ext w w.drew := (Below.refl _ _).drew
theorem Ext.drewN (w : World) (n : Nat) : Ext w (w.drewN n) := ⟨rfl, rfl, rfl, Nat.le_refl _, fun _ _ => rfl⟩
theorem Ext.lt {w w' : World} (h : Ext w w') : w.heap.size ≤ w'.heap.size := h.size
theorem Ext.at_ {w w' : World} (h : Ext w w') {p : Addr} {v : Value} (hc : w.cell? p = some v) : w'.cell? p = some v := by
  rw [h.cell (World.block_lt_of_cell? w p hc)]; exact hc
theorem Ext.alloc (w : World) (o : Obj) : Ext w (w.alloc o) := (Below.refl _ _).alloc (Nat.le_refl _) _
end
end Reg
end Go.Proofs.YtcfdlfedmbmidaaDoor

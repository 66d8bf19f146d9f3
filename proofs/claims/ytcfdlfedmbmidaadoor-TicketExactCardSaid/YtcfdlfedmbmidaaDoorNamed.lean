/- Lists in which each has a name of its own, rising by it. -/
import Derived.Test.YtcfdlfedmbmidaaDoorProg
set_option linter.unusedSimpArgs false
set_option linter.unusedVariables false
set_option linter.unusedSectionVars false
namespace Go.Proofs.YtcfdlfedmbmidaaDoor
open Go
namespace Nmd
variable {α β : Type}
abbrev Nm := List UInt8
def get (nm : α → Nm) (n : Nm) (l : List α) : Option α := l.find? fun y => nm y == n
def ins (nm : α → Nm) (x : α) : List α → List α
  | [] => [x]
  | y :: l => if nm y < nm x then y :: ins nm x l else x :: y :: l
def del (nm : α → Nm) (n : Nm) (l : List α) : List α := l.filter fun y => !(nm y == n)
def upd (nm : α → Nm) (x : α) (l : List α) : List α := l.map fun y => if nm y = nm x then x else y
def Up (nm : α → Nm) (l : List α) : Prop := l.Pairwise fun a b => nm a < nm b
theorem get_mem {nm : α → Nm} {n : Nm} {l : List α} {x : α} (h : get nm n l = some x) : x ∈ l ∧ nm x = n :=
  ⟨List.mem_of_find?_eq_some h, eq_of_beq (List.find?_some (p := fun y => nm y == n) h)⟩
theorem get_none {nm : α → Nm} {n : Nm} {l : List α} (h : get nm n l = none) : ∀ x ∈ l, nm x ≠ n := by
  intro x hx hn
  exact List.find?_eq_none.1 h x hx (by rw [hn]; exact beq_self_eq_true n)
theorem get_none_of {nm : α → Nm} {n : Nm} {l : List α} (h : ∀ x ∈ l, nm x ≠ n) : get nm n l = none := by
  refine List.find?_eq_none.2 fun x hx hn => h x hx (eq_of_beq hn)
theorem get_cons (nm : α → Nm) (n : Nm) (x : α) (l : List α) : get nm n (x :: l) = if nm x = n then some x else get nm n l := by
  unfold get
  rw [List.find?_cons]
  by_cases h : nm x = n
  · rw [if_pos h, h, beq_self_eq_true]
  · rw [if_neg h, beq_eq_false_iff_ne.2 h]
theorem mem_ins {nm : α → Nm} {x y : α} {l : List α} : y ∈ ins nm x l ↔ y = x ∨ y ∈ l := by
  induction l with
  | nil => simp [ins]
  | cons z l ih =>
    unfold ins
    by_cases h : nm z < nm x
    · rw [if_pos h, List.mem_cons, ih, List.mem_cons]
      constructor
      · rintro (h | h | h)
        · exact .inr (.inl h)
        · exact .inl h
        · exact .inr (.inr h)
      · rintro (h | h | h)
        · exact .inr (.inl h)
        · exact .inl h
        · exact .inr (.inr h)
    · rw [if_neg h, List.mem_cons]
theorem mem_del {nm : α → Nm} {n : Nm} {y : α} {l : List α} : y ∈ del nm n l ↔ y ∈ l ∧ nm y ≠ n := by
  unfold del
  rw [List.mem_filter]
  simp
theorem mem_upd {nm : α → Nm} {x y : α} {l : List α} (h : y ∈ upd nm x l) : y = x ∨ (y ∈ l ∧ nm y ≠ nm x) := by
  obtain ⟨z, hz, rfl⟩ := List.mem_map.1 h
  by_cases hn : nm z = nm x
  · rw [if_pos hn]; exact .inl rfl
  · rw [if_neg hn]; exact .inr ⟨hz, hn⟩
theorem length_ins (nm : α → Nm) (x : α) (l : List α) : (ins nm x l).length = l.length + 1 := by
  induction l with
  | nil => rfl
  | cons z l ih =>
    unfold ins
    by_cases h : nm z < nm x
    · rw [if_pos h, List.length_cons, ih, List.length_cons]
    · rw [if_neg h, List.length_cons, List.length_cons]
theorem length_upd (nm : α → Nm) (x : α) (l : List α) : (upd nm x l).length = l.length := List.length_map _
theorem up_nil (nm : α → Nm) : Up nm ([] : List α) := List.Pairwise.nil
theorem Up.ne {nm : α → Nm} {l : List α} (h : Up nm l) : l.Pairwise fun a b => nm a ≠ nm b :=
  h.imp (fun hab e => by rw [e] at hab; exact List.lt_irrefl _ hab)
theorem Up.same {nm : α → Nm} {l : List α} (h : Up nm l) : ∀ y ∈ l, ∀ z ∈ l, nm y = nm z → y = z := by
  have hp := h.ne
  clear h
  induction l with
  | nil => intro y hy; cases hy
  | cons a es ih =>
    obtain ⟨h1, h2⟩ := List.pairwise_cons.1 hp
    intro y hy z hz hyz
    rcases List.mem_cons.1 hy with e1 | h3 <;> rcases List.mem_cons.1 hz with e2 | h4
    · rw [e1, e2]
    · rw [e1] at hyz; exact absurd hyz (h1 z h4)
    · rw [e2] at hyz; exact absurd hyz.symm (h1 y h3)
    · exact ih h2 y h3 z h4 hyz
theorem Up.ins {nm : α → Nm} {l : List α} {x : α} (h : Up nm l) (hx : ∀ y ∈ l, nm y ≠ nm x) : Up nm (ins nm x l) := by
  induction l with
  | nil => exact List.pairwise_singleton _ _
  | cons z l ih =>
    obtain ⟨h1, h2⟩ := List.pairwise_cons.1 h
    unfold Nmd.ins
    by_cases hz : nm z < nm x
    · rw [if_pos hz]
      refine List.pairwise_cons.2 ⟨fun y hy => ?_, ih h2 fun y hy => hx y (List.mem_cons_of_mem _ hy)⟩
      rcases mem_ins.1 hy with rfl | hy
      · exact hz
      · exact h1 y hy
    · rw [if_neg hz]
      have hlt : nm x < nm z := by
        rcases Std.lt_trichotomy (nm z) (nm x) with h | h | h
        · exact absurd h hz
        · exact absurd h (hx z List.mem_cons_self)
        · exact h
      refine List.pairwise_cons.2 ⟨fun y hy => ?_, h⟩
      rcases List.mem_cons.1 hy with rfl | hy
      · exact hlt
      · exact List.lt_trans hlt (h1 y hy)
theorem Up.del {nm : α → Nm} {l : List α} (h : Up nm l) (n : Nm) : Up nm (del nm n l) := List.Pairwise.filter _ h
theorem upd_names (nm : α → Nm) (x : α) (l : List α) : (upd nm x l).map nm = l.map nm := by
  unfold upd
  rw [List.map_map]
  refine List.map_congr_left fun y _ => ?_
  by_cases hn : nm y = nm x
  · simp [hn]
  · simp [hn]
theorem up_names {nm : α → Nm} {l : List α} : Up nm l ↔ (l.map nm).Pairwise (· < ·) := List.pairwise_map.symm
theorem Up.upd {nm : α → Nm} {l : List α} (h : Up nm l) (x : α) : Up nm (upd nm x l) := by
  rw [up_names, upd_names]; exact up_names.1 h
theorem get_ins {nm : α → Nm} {l : List α} {x : α} (hx : ∀ y ∈ l, nm y ≠ nm x) (n : Nm) : get nm n (ins nm x l) = if nm x = n then some x else get nm n l := by
  induction l with
  | nil => exact get_cons nm n x []
  | cons z l ih =>
    have ih := ih fun y hy => hx y (List.mem_cons_of_mem _ hy)
    unfold ins
    by_cases hz : nm z < nm x
    · rw [if_pos hz, get_cons, ih, get_cons]
      by_cases h1 : nm z = n
      · have : nm x ≠ n := fun e => hx z List.mem_cons_self (h1.trans e.symm)
        rw [if_pos h1, if_neg this, if_pos h1]
      · rw [if_neg h1, if_neg h1]
    · rw [if_neg hz, get_cons]
theorem get_del (nm : α → Nm) (l : List α) (k n : Nm) : get nm n (del nm k l) = if k = n then none else get nm n l := by
  by_cases h : k = n
  · rw [if_pos h]
    exact get_none_of fun x hx hn => (mem_del.1 hx).2 (hn.trans h.symm)
  · rw [if_neg h]
    unfold get del
    induction l with
    | nil => rfl
    | cons z l ih =>
      rw [List.filter_cons]
      by_cases hz : nm z = k
      · have h1 : (nm z == k) = true := by rw [hz]; exact beq_self_eq_true k
        have h2 : (nm z == n) = false := beq_eq_false_iff_ne.2 (by rw [hz]; exact h)
        rw [h1, List.find?_cons, h2]
        exact ih
      · have h1 : (nm z == k) = false := beq_eq_false_iff_ne.2 hz
        rw [h1, Bool.not_false, if_pos rfl, List.find?_cons, List.find?_cons, ih]
theorem get_upd (nm : α → Nm) (l : List α) (x : α) (n : Nm) : get nm n (upd nm x l) = (get nm n l).map fun y => if nm y = nm x then x else y := by
  induction l with
  | nil => rfl
  | cons z l ih =>
    show get nm n ((if nm z = nm x then x else z) :: upd nm x l) = _
    rw [get_cons, get_cons, ih]
    by_cases hz : nm z = nm x
    · rw [if_pos hz]
      by_cases h : nm z = n
      · rw [if_pos (hz ▸ h), if_pos h, Option.map_some, if_pos hz]
      · rw [if_neg (fun e => h (hz.trans e)), if_neg h]
    · rw [if_neg hz]
      by_cases h : nm z = n
      · rw [if_pos h, if_pos h, Option.map_some, if_neg hz]
      · rw [if_neg h, if_neg h]
theorem length_del {nm : α → Nm} {l : List α} {n : Nm} {x : α} (h : Up nm l) (hg : get nm n l = some x) : (del nm n l).length + 1 = l.length := by
  have hp := h.ne
  clear h
  induction l with
  | nil => cases hg
  | cons z l ih =>
    obtain ⟨h1, h2⟩ := List.pairwise_cons.1 hp
    rw [get_cons] at hg
    unfold del
    rw [List.filter_cons]
    by_cases hz : nm z = n
    · have e1 : (nm z == n) = true := by rw [hz]; exact beq_self_eq_true n
      rw [e1, Bool.not_true, if_neg (by decide), List.length_cons, List.filter_eq_self.2]
      intro y hy
      rw [beq_eq_false_iff_ne.2 (fun e => h1 y hy (hz.trans e.symm))]; rfl
    · rw [if_neg hz] at hg
      have e1 : (nm z == n) = false := beq_eq_false_iff_ne.2 hz
      rw [e1, Bool.not_false, if_pos rfl, List.length_cons, List.length_cons, ← ih hg h2]; rfl
theorem get_map (nm : α → Nm) (f : β → α) (n : Nm) (l : List β) : get nm n (l.map f) = (get (fun y => nm (f y)) n l).map f := by
  induction l with
  | nil => rfl
  | cons z l ih =>
    rw [List.map_cons, get_cons, get_cons, ih]
    by_cases h : nm (f z) = n
    · rw [if_pos h, if_pos h]; rfl
    · rw [if_neg h, if_neg h]
theorem ins_map (nm : α → Nm) (f : β → α) (x : β) (l : List β) : ins nm (f x) (l.map f) = (ins (fun y => nm (f y)) x l).map f := by
  induction l with
  | nil => rfl
  | cons z l ih =>
    rw [List.map_cons]
    unfold ins
    by_cases h : nm (f z) < nm (f x)
    · rw [if_pos h, if_pos h, List.map_cons, ih]
    · rw [if_neg h, if_neg h]; rfl
theorem del_map (nm : α → Nm) (f : β → α) (n : Nm) (l : List β) : del nm n (l.map f) = (del (fun y => nm (f y)) n l).map f := by
  unfold del
  rw [List.filter_map]; rfl
theorem upd_map (nm : α → Nm) (f : β → α) (x : β) (l : List β) : upd nm (f x) (l.map f) = (upd (fun y => nm (f y)) x l).map f := by
  unfold upd
  rw [List.map_map, List.map_map]
  refine List.map_congr_left fun y _ => ?_
  simp only [Function.comp]
  by_cases h : nm (f y) = nm (f x)
  · rw [if_pos h, if_pos h]
  · rw [if_neg h, if_neg h]
/-- names of a rising list: sorted, they are as they were -/
theorem sorted_names {nm : α → Nm} {l : List α} (h : Up nm l) {ss : List Nm} (hp : ss.Perm (l.map nm)) : ss.mergeSort (fun x y => decide (x ≤ y)) = l.map nm := by
  have h1 := List.pairwise_mergeSort (le := fun x y : Nm => decide (x ≤ y)) (fun a b c h1 h2 => decide_eq_true (List.le_trans (of_decide_eq_true h1) (of_decide_eq_true h2)))
    (fun a b => by
      rcases List.le_total a b with h | h
      · simp [h]
      · simp [h]) ss
  refine List.Perm.eq_of_pairwise (le := fun x y : Nm => x ≤ y) (fun a b _ _ h1 h2 => List.le_antisymm h1 h2) (h1.imp fun h => of_decide_eq_true h) ((up_names.1 h).imp fun h => List.le_of_lt h) ((List.mergeSort_perm _ _).trans hp)
end Nmd
end Go.Proofs.YtcfdlfedmbmidaaDoor

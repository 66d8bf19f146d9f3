/- Tickets: what put does, step by step, plainly. -/
import Derived.Test.YtcfdlfedmbmidaaDoorTkA
import Derived.Test.YtcfdlfedmbmidaaDoorTkC
set_option linter.unusedSimpArgs false
set_option linter.unusedVariables false
set_option linter.unusedSectionVars false
namespace Go.Proofs.YtcfdlfedmbmidaaDoor
namespace Nmd
section
variable {α : Type} {nm : α → Nm} {l : List α}
theorem ins_low {x : α} : ∀ {l : List α}, (∀ y ∈ l, ¬ nm y < nm x) → ins nm x l = x :: l
  | [], _ => rfl
  | y :: l, h => by unfold ins; rw [if_neg (h y List.mem_cons_self)]
theorem del_none {n : Nm} (h : ∀ y ∈ l, nm y ≠ n) : del nm n l = l := by
  unfold del
  exact List.filter_eq_self.2 fun y hy => by simpa using h y hy
theorem del_cons (n : Nm) (y : α) (l : List α) : del nm n (y :: l) = if nm y = n then del nm n l else y :: del nm n l := by
  unfold del
  by_cases h : nm y = n
  · rw [if_pos h, List.filter_cons_of_neg (by simpa using h)]
  · rw [if_neg h, List.filter_cons_of_pos (by simpa using h)]
theorem del_ins_self {x : α} : ∀ {l : List α}, (∀ y ∈ l, nm y ≠ nm x) → del nm (nm x) (ins nm x l) = l
  | [], _ => by
    show del nm (nm x) [x] = []
    rw [del_cons, if_pos rfl]; rfl
  | y :: l, h => by
    unfold ins
    by_cases hy : nm y < nm x
    · rw [if_pos hy, del_cons, if_neg (h y List.mem_cons_self), del_ins_self fun z hz => h z (List.mem_cons_of_mem _ hz)]
    · rw [if_neg hy, del_cons, if_pos rfl, del_none h]
theorem del_ins {x : α} {n : Nm} (hn : n ≠ nm x) : ∀ {l : List α}, Up nm l → (∀ y ∈ l, nm y ≠ nm x) → del nm n (ins nm x l) = ins nm x (del nm n l)
  | [], _, _ => by
    show del nm n [x] = [x]
    rw [del_cons, if_neg (Ne.symm hn)]; rfl
  | y :: l, h, hx => by
    have hp := List.pairwise_cons.1 h
    by_cases hy : nm y < nm x
    · have e1 : ins nm x (y :: l) = y :: ins nm x l := by rw [ins, if_pos hy]
      rw [e1, del_cons, del_cons, del_ins hn hp.2 fun z hz => hx z (List.mem_cons_of_mem _ hz)]
      by_cases hyn : nm y = n
      · rw [if_pos hyn, if_pos hyn]
      · rw [if_neg hyn, if_neg hyn, ins, if_pos hy]
    · have e1 : ins nm x (y :: l) = x :: y :: l := by rw [ins, if_neg hy]
      rw [e1, del_cons, if_neg (Ne.symm hn)]
      refine (ins_low fun z hz => ?_).symm
      have hz := (mem_del.1 hz).1
      rcases List.mem_cons.1 hz with rfl | hz
      · exact hy
      · exact fun h1 => hy (List.lt_trans (hp.1 z hz) h1)
theorem ins_del_upd {x y : α} : ∀ {l : List α}, Up nm l → get nm (nm x) l = some y → ins nm x (del nm (nm x) l) = upd nm x l
  | [], _, h => by cases h
  | z :: l, h, hg => by
    have hp := List.pairwise_cons.1 h
    rw [get_cons] at hg
    rw [del_cons]
    have e : upd nm x (z :: l) = (if nm z = nm x then x else z) :: upd nm x l := rfl
    rw [e]
    by_cases hz : nm z = nm x
    · rw [if_pos hz, if_pos hz]
      have hne : ∀ y ∈ l, nm y ≠ nm x := fun y hy e => by
        have := hp.1 y hy
        rw [hz, e] at this
        exact List.lt_irrefl _ this
      have hu : upd nm x l = l := by
        unfold upd
        conv => rhs; rw [← List.map_id l]
        exact List.map_congr_left fun y hy => by rw [if_neg (hne y hy)]; rfl
      rw [del_none hne, hu]
      exact ins_low fun y hy h1 => by
        have := hp.1 y hy
        rw [hz] at this
        exact List.lt_irrefl _ (List.lt_trans this h1)
    · rw [if_neg hz] at hg
      rw [if_neg hz, if_neg hz]
      have hy := get_mem hg
      have hlt : nm z < nm x := by rw [← hy.2]; exact hp.1 y hy.1
      rw [ins, if_pos hlt, ins_del_upd hp.2 hg]
end
end Nmd
namespace Tk
open Nmd (Nm Up)
theorem oldest_snoc (xs : List T) (y : T) : oldest (xs ++ [y]) = older (oldest xs) y := by
  unfold oldest
  rw [List.foldl_append]
  rfl
theorem foldl_some (l : List T) (z : T) : ∃ u, l.foldl older (some z) = some u := by
  induction l generalizing z with
  | nil => exact ⟨z, rfl⟩
  | cons y l ih =>
    rw [List.foldl_cons]
    unfold older
    dsimp only
    split
    · exact ih _
    · exact ih _
theorem oldest_some {l : List T} (h : l ≠ []) : ∃ u, oldest l = some u := by
  cases l with
  | nil => exact absurd rfl h
  | cons y l => exact foldl_some l y
/-- what the program does with a ticket whose tag isn't known -/
theorem put_new {p : P} (h : Good p) {x : T} (hn : p.get (nm x) = none) :
    ((Nmd.ins nm x p.l).length : Int) ≤ p.most ∧ p.put x = (none, { p with l := Nmd.ins nm x p.l }) ∨
    (p.most < ((Nmd.ins nm x p.l).length : Int) ∧ ∃ g, oldest ((Nmd.ins nm x p.l).filter fun y => decide (nm y ≠ nm x)) = some g ∧ nm g ≠ nm x ∧ p.put x = (some g, { p with l := Nmd.del nm (nm g) (Nmd.ins nm x p.l) })) := by
  have hx := Nmd.get_none hn
  have hlen : (Nmd.ins nm x p.l).length = p.l.length + 1 := Nmd.length_ins _ _ _
  unfold P.put
  rw [hn]
  dsimp only
  by_cases hl : (p.l.length : Int) < p.most
  · rw [if_pos hl]
    exact .inl ⟨by rw [hlen]; omega, rfl⟩
  · rw [if_neg hl]
    have hne : p.l ≠ [] := fun e => by have := h.pos; rw [e] at hl; simp at hl; omega
    obtain ⟨g, hg⟩ := oldest_some hne
    have hf : (Nmd.ins nm x p.l).filter (fun y => decide (nm y ≠ nm x)) = p.l := by
      have := Nmd.del_ins_self hx
      unfold Nmd.del at this
      conv => rhs; rw [← this]
      exact List.filter_congr fun y _ => by by_cases h : nm y = nm x <;> simp [h]
    refine .inr ⟨by rw [hlen]; omega, g, by rw [hf]; exact hg, hx g (oldest_mem hg), ?_⟩
    rw [hg]
    dsimp only
    rw [Nmd.del_ins (hx g (oldest_mem hg)) h.up hx]
theorem put_old {p : P} {x y : T} (hg : p.get (nm x) = some y) : p.put x = (none, { p with l := Nmd.upd nm x p.l }) := by
  unfold P.put
  rw [hg]
/-- what the document does -/
theorem put_doc {p : P} (h : Good p) (x : T) :
    (((Nmd.del nm (nm x) p.l).length : Int) < p.most ∧ p.put x = (none, { p with l := Nmd.ins nm x (Nmd.del nm (nm x) p.l) })) ∨
    (p.most ≤ ((Nmd.del nm (nm x) p.l).length : Int) ∧ ∃ g, oldest (Nmd.del nm (nm x) p.l) = some g ∧ p.put x = (some g, { p with l := Nmd.ins nm x (Nmd.del nm (nm g) (Nmd.del nm (nm x) p.l)) })) := by
  cases hg : p.get (nm x) with
  | some y =>
    have hd := Nmd.length_del h.up hg
    refine .inl ⟨by have := h.most; omega, ?_⟩
    rw [put_old hg, Nmd.ins_del_upd h.up hg]
  | none =>
    have hx := Nmd.get_none hg
    rw [Nmd.del_none hx]
    unfold P.put
    rw [hg]
    dsimp only
    by_cases hl : (p.l.length : Int) < p.most
    · rw [if_pos hl]
      exact .inl ⟨hl, rfl⟩
    · rw [if_neg hl]
      have hne : p.l ≠ [] := fun e => by have := h.pos; rw [e] at hl; simp at hl; omega
      obtain ⟨g, hg2⟩ := oldest_some hne
      exact .inr ⟨by omega, g, hg2, by rw [hg2]⟩
end Tk
end Go.Proofs.YtcfdlfedmbmidaaDoor

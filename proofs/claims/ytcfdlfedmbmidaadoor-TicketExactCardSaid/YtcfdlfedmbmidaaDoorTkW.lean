/- What the laws ask of put, plainly. -/
import Derived.Test.YtcfdlfedmbmidaaDoorTkF
set_option linter.unusedSimpArgs false
set_option linter.unusedVariables false
set_option linter.unusedSectionVars false
namespace Go.Proofs.YtcfdlfedmbmidaaDoor
open Nmd (Nm Up)
namespace Tk
theorem foldl_le {l : List T} {o : Option T} {g : T} (h : l.foldl older o = some g) : (∀ y ∈ l, g.at_ ≤ y.at_) ∧ ∀ z, o = some z → g.at_ ≤ z.at_ := by
  induction l generalizing o with
  | nil =>
    rw [List.foldl_nil] at h
    exact ⟨fun y hy => (by cases hy), fun z hz => by rw [h] at hz; injection hz with hz; rw [hz]; exact Int.le_refl _⟩
  | cons y l ih =>
    rw [List.foldl_cons] at h
    obtain ⟨h1, h2⟩ := ih h
    have key : ∃ u, older o y = some u ∧ u.at_ ≤ y.at_ ∧ ∀ z, o = some z → u.at_ ≤ z.at_ := by
      cases o with
      | none => exact ⟨y, rfl, Int.le_refl _, fun z hz => by cases hz⟩
      | some z =>
        unfold older
        dsimp only
        by_cases hl : y.at_ < z.at_
        · rw [if_pos hl]; exact ⟨y, rfl, Int.le_refl _, fun z' hz => by injection hz with hz; subst hz; omega⟩
        · rw [if_neg hl]; exact ⟨z, rfl, by omega, fun z' hz => by injection hz with hz; subst hz; omega⟩
    obtain ⟨u, hu, ha, hb⟩ := key
    have := h2 u hu
    refine ⟨fun x hx => ?_, fun z hz => Int.le_trans this (hb z hz)⟩
    rcases List.mem_cons.1 hx with rfl | hx
    · exact Int.le_trans this ha
    · exact h1 x hx
theorem oldest_le {l : List T} {g : T} (h : oldest l = some g) : ∀ y ∈ l, g.at_ ≤ y.at_ := (foldl_le h).1
theorem put_most (p : P) (x : T) : (p.put x).2.most = p.most := by
  unfold P.put
  split
  · rfl
  · split
    · rfl
    · split <;> rfl
theorem put_got {p : P} (h : Good p) (x : T) : (p.put x).2.get (nm x) = some x := by
  unfold P.put
  cases hg : p.get (nm x) with
  | some y =>
    show Nmd.get nm (nm x) (Nmd.upd nm x p.l) = some x
    rw [Nmd.get_upd, show Nmd.get nm (nm x) p.l = some y from hg]
    have := (Nmd.get_mem (show Nmd.get nm (nm x) p.l = some y from hg)).2
    show some (if nm y = nm x then x else y) = _
    rw [if_pos this]
  | none =>
    have hn := Nmd.get_none (show Nmd.get nm (nm x) p.l = none from hg)
    dsimp only
    split
    · show Nmd.get nm (nm x) (Nmd.ins nm x p.l) = some x
      rw [Nmd.get_ins hn, if_pos rfl]
    · split
      · show Nmd.get nm (nm x) (Nmd.ins nm x p.l) = some x
        rw [Nmd.get_ins hn, if_pos rfl]
      · rename_i g _
        show Nmd.get nm (nm x) (Nmd.ins nm x (Nmd.del nm (nm g) p.l)) = some x
        rw [Nmd.get_ins (fun y hy => hn y (Nmd.mem_del.1 hy).1), if_pos rfl]
theorem put_gone {p : P} (h : Good p) {x g : T} (hg : (p.put x).1 = some g) :
    (∀ y ∈ (p.put x).2.l, y ≠ x → g.at_ ≤ y.at_) ∧ (p.put x).2.get (nm g) = none ∧ (p.l.length : Int) = p.most ∧ ((p.put x).2.l.length : Int) = p.most := by
  unfold P.put at hg ⊢
  cases hq : p.get (nm x) with
  | some y => rw [hq] at hg; cases hg
  | none =>
    have hn := Nmd.get_none (show Nmd.get nm (nm x) p.l = none from hq)
    rw [hq] at hg
    dsimp only at hg ⊢
    by_cases hl : (p.l.length : Int) < p.most
    · rw [if_pos hl] at hg; cases hg
    · rw [if_neg hl] at hg ⊢
      cases ho : oldest p.l with
      | none => rw [ho] at hg; cases hg
      | some z =>
        rw [ho] at hg
        dsimp only at hg ⊢
        injection hg with hg
        subst hg
        have hz := oldest_mem ho
        have hlen : (p.l.length : Int) = p.most := by have := h.most; omega
        have hd := Nmd.length_del h.up (get_self h.up hz)
        refine ⟨fun y hy hyx => ?_, ?_, hlen, ?_⟩
        · rcases Nmd.mem_ins.1 hy with h1 | h1
          · exact absurd h1 hyx
          · exact oldest_le ho y (Nmd.mem_del.1 h1).1
        · show Nmd.get nm (nm z) (Nmd.ins nm x (Nmd.del nm (nm z) p.l)) = none
          rw [Nmd.get_ins (fun y hy => hn y (Nmd.mem_del.1 hy).1), if_neg (fun e => hn z hz e.symm), Nmd.get_del, if_pos rfl]
        · show ((Nmd.ins nm x (Nmd.del nm (nm z) p.l)).length : Int) = p.most
          rw [Nmd.length_ins, hd]
          exact hlen
theorem drop_gone (p : P) (n : Nm) : (p.drop n).2.get n = none := by
  show Nmd.get nm n (Nmd.del nm n p.l) = none
  rw [Nmd.get_del, if_pos rfl]
/-- whether a drop took anything, as the document counts it -/
theorem drop_count {p : P} (h : Good p) (n : Nm) : decide ((Nmd.del nm n p.l).length < p.l.length) = (p.get n).isSome := by
  cases hg : p.get n with
  | none =>
    rw [Nmd.del_none (Nmd.get_none (show Nmd.get nm n p.l = none from hg))]
    exact decide_eq_false (Nat.lt_irrefl _)
  | some y =>
    have := Nmd.length_del h.up (show Nmd.get nm n p.l = some y from hg)
    exact decide_eq_true (by omega)
theorem up_lt {l : List T} (h : Up nm l) {k : Nat} (hk : k + 1 < l.length) : l[k].repo < l[k + 1].repo ∨ (l[k].repo = l[k + 1].repo ∧ l[k].tag < l[k + 1].tag) :=
  pair_lt.1 (List.pairwise_iff_getElem.1 h k (k + 1) (by omega) hk (by omega))
end Tk
end Go.Proofs.YtcfdlfedmbmidaaDoor

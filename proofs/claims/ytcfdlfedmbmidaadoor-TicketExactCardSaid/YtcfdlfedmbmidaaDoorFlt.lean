/- Rows of things of n cells each, laid flat in a block of a call's own. -/
import Derived.Test.YtcfdlfedmbmidaaDoorProg
import Derived.Laws.OwnMore
import Derived.Laws.IdiomCopy
import Derived.Deep.MidRow
set_option linter.unusedSimpArgs false
set_option linter.unusedVariables false
set_option linter.unusedSectionVars false
namespace Go.Proofs.YtcfdlfedmbmidaaDoor
open Go
namespace Flt
section
variable {α : Type} {c : α → List Value} {n : Nat}
theorem len {l : List α} (h : ∀ x ∈ l, (c x).length = n) : (l.flatMap c).length = l.length * n := by
  induction l with
  | nil => simp
  | cons y l ih => rw [List.flatMap_cons, List.length_append, h y List.mem_cons_self, ih fun x hx => h x (List.mem_cons_of_mem _ hx), List.length_cons, Nat.succ_mul, Nat.add_comm]
theorem drop {l : List α} (h : ∀ x ∈ l, (c x).length = n) (k : Nat) : (l.flatMap c).drop (k * n) = (l.drop k).flatMap c := by
  induction l generalizing k with
  | nil => simp
  | cons y l ih =>
    cases k with
    | zero => rw [Nat.zero_mul]; rfl
    | succ k => rw [List.flatMap_cons, List.drop_succ_cons, ← ih (fun x hx => h x (List.mem_cons_of_mem _ hx)) k, show (k + 1) * n = (c y).length + k * n by rw [h y List.mem_cons_self, Nat.succ_mul, Nat.add_comm], ← List.drop_drop, List.drop_left]
theorem take {l : List α} (h : ∀ x ∈ l, (c x).length = n) (k : Nat) : (l.flatMap c).take (k * n) = (l.take k).flatMap c := by
  induction l generalizing k with
  | nil => simp
  | cons y l ih =>
    cases k with
    | zero => rw [Nat.zero_mul]; rfl
    | succ k => rw [List.flatMap_cons, List.take_succ_cons, List.flatMap_cons, ← ih (fun x hx => h x (List.mem_cons_of_mem _ hx)) k, show (k + 1) * n = (c y).length + k * n by rw [h y List.mem_cons_self, Nat.succ_mul, Nat.add_comm], List.take_length_add_append]
theorem at_ {l : List α} (h : ∀ x ∈ l, (c x).length = n) (k : Nat) (hk : k < l.length) (i : Nat) (hi : i < n) : (l.flatMap c)[k * n + i]? = (c l[k])[i]? := by
  have h1 := drop h k
  rw [List.drop_eq_getElem_cons hk, List.flatMap_cons] at h1
  have h2 := congrArg (fun l => l[i]?) h1
  simp only [List.getElem?_drop] at h2
  rw [h2, List.getElem?_append_left (by rw [h _ (List.getElem_mem hk)]; exact hi)]
theorem set_ {l : List α} (h : ∀ x ∈ l, (c x).length = n) (k : Nat) (hk : k < l.length) (x : α) : (l.set k x).flatMap c = (l.flatMap c).take (k * n) ++ c x ++ (l.flatMap c).drop (k * n + n) := by
  rw [List.set_eq_take_append_cons_drop, if_pos hk, List.flatMap_append, List.flatMap_cons, take h, show k * n + n = (k + 1) * n by rw [Nat.succ_mul], drop h, List.append_assoc]
def sets (l : List Value) (o : Nat) : List Value → List Value
  | [] => l
  | v :: r => sets (l.set o v) (o + 1) r
theorem sets_eq : ∀ (vs l : List Value) (o : Nat), o + vs.length ≤ l.length → sets l o vs = l.take o ++ vs ++ l.drop (o + vs.length)
  | [], l, o, _ => by simp [sets]
  | v :: r, l, o, h => by
    rw [List.length_cons] at h
    rw [sets, sets_eq r (l.set o v) (o + 1) (by rw [List.length_set]; omega)]
    rw [List.take_set, List.drop_set, if_pos (by omega), List.take_succ_eq_append_getElem (by omega : o < l.length), List.set_append_right _ _ (by rw [List.length_take]; omega)]
    rw [show o - (l.take o).length = 0 by rw [List.length_take]; omega, show o + 1 + r.length = o + (v :: r).length by rw [List.length_cons]; omega]
    simp
end
section
variable {w : World} {base : Nat} {e : TypeId} {size g n cap : Nat}
theorem own_sets : ∀ (vs : List Value) (o : Nat) (w : World) (xs : List Value), w.ownsRow base e size (.slice (some ⟨g, 0, none⟩) n cap) n xs → (w.setCells g o vs).ownsRow base e size (.slice (some ⟨g, 0, none⟩) n cap) n (sets xs o vs)
  | [], _, _, _, h => h
  | v :: r, o, w, xs, h => own_sets r (o + 1) (w.setCell ⟨g, o, none⟩ v) (xs.set o v) (World.ownsRow.stored h o v).1
theorem own_there {xs : List Value} (h : w.ownsRow base e size (.slice (some ⟨g, 0, none⟩) n cap) n xs) {o k : Nat} (hk : o + k ≤ n * size) : w.there g o k := fun i hi => by
  refine ⟨?_, World.ownsRow.frozenAt h _⟩
  rw [World.ownsRow.cellAt h (o + i) (by omega), List.getElem?_eq_getElem (by rw [h.1]; omega)]
  rfl
end
end Flt
end Go.Proofs.YtcfdlfedmbmidaaDoor

/- Rows that a call owns; rows that lie elsewhere. -/
import Derived.Test.YtcfdlfedmbmidaaDoorWords
import Derived.Test.YtcfdlfedmbmidaaDoorReg
import Derived.Laws.OwnMore
import Derived.Maps.AppendAt
set_option linter.unusedSimpArgs false
set_option linter.unusedVariables false
set_option linter.unusedSectionVars false
namespace Go.Proofs.YtcfdlfedmbmidaaDoor
open Go Go.RowKit
theorem own_ext {w w' : World} {B e n k : Nat} {v : Value} {xs : List Value} (h : w.ownsRow B e n v k xs) (hx : Reg.Ext w w') : w'.ownsRow B e n v k xs :=
  h.kept (row := none) ⟨hx.os, hx.tape, hx.output, hx.size, fun i hi _ => hx.block i hi⟩ (by cases v.ownBlock <;> simp)
theorem own_rd {w : World} {B e n k : Nat} {v : Value} {xs : List Value} (h : w.ownsRow B e n v k xs) : ∃ A cap, v = .slice A k cap ∧ Rd w A xs ∧ ∀ ad, A = some ad → ∃ g, ad = ⟨g, 0, none⟩ ∧ B ≤ g := by
  rcases h.2 with ⟨rfl, hn⟩ | ⟨g, cap, cur, rfl, hg, hc, h1, h2, h3, h4⟩
  · have : xs = [] := List.eq_nil_of_length_eq_zero (by rw [h.1, hn, Nat.zero_mul])
    subst this
    exact ⟨none, 0, by rw [hn], Rd.nil_ _ _, fun ad e => by cases e⟩
  · refine ⟨_, cap, rfl, fun j hj => ⟨_, rfl, ?_, ?_⟩, fun ad e => ⟨g, by injection e with e; exact e.symm, hg⟩⟩
    · rcases Nat.lt_or_ge g w.heap.size with hlt | hge
      · exact hlt
      · rw [Array.getElem?_eq_none hge] at hc; cases hc
    · exact h.cells (g := g) rfl j _ (List.getElem?_eq_getElem hj)
theorem own_lt {w : World} {B e n k : Nat} {v : Value} {xs : List Value} (h : w.ownsRow B e n v k xs) {g : Nat} (hg : v.ownBlock = some g) : g < w.heap.size := (h.lt g hg).2
/-- a row that v's block doesn't hold -/
def Away (v : Value) (A : Option Addr) : Prop := ∀ k ad, v.ownBlock = some k → A = some ad → ad.block ≠ k
def RdA (w : World) (v : Value) (A : Option Addr) (xs : List Value) : Prop := Rd w A xs ∧ (xs ≠ [] → Away v A)
theorem RdA.ext {w w' : World} {v : Value} {A : Option Addr} {xs : List Value} (h : RdA w v A xs) (hx : Reg.Ext w w') : RdA w' v A xs := ⟨h.1.below hx, h.2⟩
theorem RdA.step {w w' : World} {v v' : Value} {A : Option Addr} {xs : List Value} (h : RdA w v A xs) (hg : w.grownBy w' v.ownBlock) (hat : v'.ownBlock = v.ownBlock ∨ v'.ownBlock = some w.heap.size) : RdA w' v' A xs := by
  cases xs with
  | nil => exact ⟨Rd.nil_ _ _, fun e => absurd rfl e⟩
  | cons x xs =>
    have ha := h.2 (by simp)
    obtain ⟨ad, rfl, hlt, _⟩ := h.1 0 (by simp)
    refine ⟨fun k hk => ?_, fun _ k ad' hk e => ?_⟩
    · obtain ⟨ad2, e2, hlt2, hc⟩ := h.1 k hk
      injection e2 with e2
      subst e2
      refine ⟨ad, rfl, Nat.lt_of_lt_of_le hlt2 hg.size, ?_⟩
      have hb : (ad.add k).block = ad.block := by unfold Addr.add; split <;> rfl
      have h3 := hg.block ad.block hlt2 (fun e => ha ad.block ad e.symm rfl rfl)
      rw [World.cell?_of_block (w := w) (by rw [hb]; exact h3)]
      exact hc
    · injection e with e
      subst e
      rcases hat with h2 | h2
      · rw [h2] at hk; exact ha k ad hk rfl
      · rw [h2] at hk
        injection hk with hk
        omega
/-- a row made since is away from one that was there -/
theorem RdA.of {w w' : World} {v : Value} {A : Option Addr} {xs : List Value} (h : Rd w' A xs) (hA : ∀ ad, A = some ad → ∃ g, ad = ⟨g, 0, none⟩ ∧ w.heap.size ≤ g) (hv : ∀ g, v.ownBlock = some g → g < w.heap.size) : RdA w' v A xs := by
  refine ⟨h, fun _ k ad hk e => ?_⟩
  obtain ⟨g, rfl, hg⟩ := hA ad e
  have := hv k hk
  show g ≠ k
  omega
end Go.Proofs.YtcfdlfedmbmidaaDoor

/- On, of any numbers that the disk doesn't hold. -/
import Derived.Test.YtbiikihapfpkfaaPlkA
set_option linter.unusedSimpArgs false
set_option linter.unusedVariables false
set_option linter.unusedSectionVars false
namespace Go.Proofs.Ytbiikihapfpkfaa
open Go Go.RowKit
namespace Plk
theorem Hold.onV {W0 w : World} {d : Nat} {p : P} (h : Hold W0 w d p) (v : Value) (ks : List Int) (hk : ∀ mp es, (∀ i, Own d mp es i → W0.heap.size ≤ i) → KR w d mp es v ks) : Calls Try.prog 14 #[.pointer (some ⟨d, 0, none⟩), v] w fun e w' => e = .returned (.tuple #[]) ∧ Hold W0 w' d (p.on ks) := by
  obtain ⟨hx, hg, mp, es, hD, hfs, ho⟩ := h
  obtain ⟨fs, s⟩ := p
  dsimp only at hD hfs
  subst hfs
  have hr := good_room hg
  dsimp only at hr
  refine (on_any _ d mp es s hD v ks (hk mp es ho) (by have := hg.cnt; simpa using this) (fun e he => hg.safe e.f (List.mem_map.2 ⟨e, he, rfl⟩)) hg.used (by omega) (fun e he => ?_)).mono ?_
  · have := hg.names e.f (List.mem_map.2 ⟨e, he, rfl⟩)
    unfold isName at this
    simp at this
    exact this.2
  · rintro e w' ⟨rfl, es', s', h2, h3, h4⟩
    exact ⟨rfl, Hold.step hx ho h2 h3 h4 (hg.on ks)⟩
theorem Hold.on0 {W0 w : World} {d : Nat} {p : P} (h : Hold W0 w d p) : Calls Try.prog 14 #[.pointer (some ⟨d, 0, none⟩), .slice none 0 0] w fun e w' => e = .returned (.tuple #[]) ∧ Hold W0 w' d (p.on []) :=
  h.onV _ [] fun mp es _ => KR.last none
theorem Hold.onK {W0 w : World} {d : Nat} {p : P} (h : Hold W0 w d p) (a : A) (hk : a.keeps W0) : Calls Try.prog 14 #[.pointer (some ⟨d, 0, none⟩), .slice a.ka a.ks.length a.kc] w fun e w' => e = .returned (.tuple #[]) ∧ Hold W0 w' d (p.on a.ks) := by
  refine h.onV _ a.ks fun mp es ho => ⟨a.ka, a.kc, rfl, hk.2.1, hk.2.2, fun j hj => ?_⟩
  obtain ⟨ad, e, hlt, hc⟩ := hk.1 j (by rw [List.length_map]; exact hj)
  obtain ⟨ad0, e0, _, hc0⟩ := hk.1 0 (by rw [List.length_map]; omega)
  have e1 : ad0 = ad := by rw [e] at e0; injection e0 with e0; exact e0.symm
  subst e1
  have hs : ad0.spot = none := by
    have hc0 : W0.cell? ad0 = some _ := hc0
    unfold World.cell? at hc0
    cases hs : ad0.spot with
    | none => rfl
    | some q => rw [hs] at hc0; simp at hc0; split at hc0 <;> cases hc0
  obtain ⟨kb, ko, sp⟩ := ad0
  dsimp only at hs
  subst hs
  have hcw := h.ext.at_ hc
  rw [add_plain, List.getElem_map] at hcw
  exact ⟨kb, ko, e, Nat.lt_of_lt_of_le hlt h.ext.size, fun o => by have := ho kb o; dsimp only at hlt; omega, hcw⟩
end Plk
end Go.Proofs.Ytbiikihapfpkfaa

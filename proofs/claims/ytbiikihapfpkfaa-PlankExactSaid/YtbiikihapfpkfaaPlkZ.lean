/- More operations on a disk that a law holds. -/
import Derived.Test.YtbiikihapfpkfaaPlkX
set_option linter.unusedSimpArgs false
set_option linter.unusedVariables false
set_option linter.unusedSectionVars false
namespace Go.Proofs.Ytbiikihapfpkfaa
open Go Go.RowKit
namespace Plk
theorem good_sum {es : List E} {s : H} (hg : Good ⟨es.map E.f, s⟩) : ∀ e ∈ es, (e.f.l.length : Int) ≤ s.used := by
  intro e he
  have h1 := len_sum (List.mem_map.2 ⟨e, he, rfl⟩ : e.f ∈ es.map E.f)
  have h2 := hg.used
  dsimp only at h2
  omega
section
variable {W0 w : World} {d : Nat} {p : P} (h : Hold W0 w d p)
include h
theorem Hold.rename (n t : List UInt8) (h1 : p.h.ops < big) : Calls Try.prog 32 #[.pointer (some ⟨d, 0, none⟩), str n, str t] w fun e w' => e = .returned (.int .i64 (p.rename n t).1) ∧ Hold W0 w' d (p.rename n t).2 := by
  obtain ⟨hx, hg, mp, es, hD, hfs, ho⟩ := h
  obtain ⟨fs, s⟩ := p
  dsimp only at hD hfs
  subst hfs
  refine (rename_any w d mp es s hD n t hg.ops h1 (by have := hg.cnt; simpa using this) (by have := good_room hg; dsimp only at this; omega) (good_len hg)).mono ?_
  rintro e w' ⟨es', s', rfl, h2, h3, h4⟩
  exact ⟨rfl, Hold.step hx ho h2 h3 h4 (hg.rename n t)⟩
theorem Hold.lay (n t : List UInt8) (hn : n.length ≤ maxLen) (ht : t.length ≤ 4294967296) : Calls Try.prog 25 #[.pointer (some ⟨d, 0, none⟩), str n, str t] w fun e w' => e = .returned (.int .i64 (p.lay n t).1) ∧ Hold W0 w' d (p.lay n t).2 := by
  obtain ⟨hx, hg, mp, es, hD, hfs, ho⟩ := h
  obtain ⟨fs, s⟩ := p
  dsimp only at hD hfs
  subst hfs
  refine (lay_any w d mp es s hD n t (by have := hg.cnt; simpa using this) (good_room hg) (good_len hg) (good_sum hg) ht hn).mono ?_
  rintro e w' ⟨es', s', rfl, h2, h3, h4⟩
  exact ⟨rfl, Hold.step hx ho h2 h3 h4 (hg.lay n t)⟩
theorem Hold.flip (n : List UInt8) (x : Int) (b : UInt8) (hn : n.length ≤ maxLen) : Calls Try.prog 26 #[.pointer (some ⟨d, 0, none⟩), str n, .int .i64 x, byteV b] w fun e w' => e = .returned (.bool (p.flip n x b).1) ∧ Hold W0 w' d (p.flip n x b).2 := by
  obtain ⟨hx, hg, mp, es, hD, hfs, ho⟩ := h
  obtain ⟨fs, s⟩ := p
  dsimp only at hD hfs
  subst hfs
  refine (flip_any w d mp es s hD n x b (good_len hg) hn).mono ?_
  rintro e w' ⟨es', s', rfl, h2, h3, h4⟩
  exact ⟨rfl, Hold.step hx ho h2 h3 h4 (hg.flip n x b)⟩
theorem Hold.size (n : List UInt8) (hn : n.length ≤ maxLen) : Calls Try.prog 24 #[.pointer (some ⟨d, 0, none⟩), str n] w fun e w' => e = .returned (.int .i64 (match Nmd.get F.name n p.fs with | none => -1 | some f => (f.l.length : Int))) ∧ w' = w := by
  obtain ⟨hx, hg, mp, es, hD, hfs, ho⟩ := h
  obtain ⟨fs, s⟩ := p
  dsimp only at hD hfs
  subst hfs
  dsimp only
  rw [get_pl]
  refine (size_any w d mp es s hD n hn).mono ?_
  rintro e w' ⟨rfl, rfl⟩
  cases Nmd.get E.nm n es <;> exact ⟨rfl, rfl⟩
theorem Hold.ops : Calls Try.prog 22 #[.pointer (some ⟨d, 0, none⟩)] w fun e w' => e = .returned (.int .i64 p.h.ops) ∧ w' = w := by
  obtain ⟨hx, hg, mp, es, hD, hfs, ho⟩ := h
  obtain ⟨fs, s⟩ := p
  dsimp only at hD hfs
  subst hfs
  exact ops_any w d mp es s hD
/-- the names, in a row of their own -/
theorem Hold.names : Calls Try.prog 20 #[.pointer (some ⟨d, 0, none⟩)] w fun e w' => ∃ A c, e = .returned (.slice A p.fs.length c) ∧ p.fs.length ≤ c ∧ Rd w' A (p.fs.map fun f => str f.name) ∧ Hold W0 w' d p := by
  obtain ⟨hx, hg, mp, es, hD, hfs, ho⟩ := h
  obtain ⟨fs, s⟩ := p
  dsimp only at hD hfs
  subst hfs
  refine (names_any w d mp es s hD (by have := hg.cnt; simpa using this)).mono ?_
  rintro e w' ⟨v, rfl, hr, hx'⟩
  obtain ⟨NA, ncap, rfl, hncap, hcell⟩ := NR.of hr
  refine ⟨NA, ncap, by simp, by simpa using hncap, ?_, ?_⟩
  · intro j hj
    rw [List.length_map, List.length_map] at hj
    obtain ⟨rb, h1, h2, h3, h4⟩ := hcell j (by rw [List.length_map]; exact hj)
    refine ⟨_, h1, h3, ?_⟩
    rw [add_plain, Nat.zero_add, h4]
    simp [str]
  · exact Hold.more ⟨hx, hg, mp, es, hD, rfl, ho⟩ hx'
end
end Plk
end Go.Proofs.Ytbiikihapfpkfaa

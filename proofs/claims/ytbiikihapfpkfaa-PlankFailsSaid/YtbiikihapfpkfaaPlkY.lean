/- Good stays by Rename, Lay, Flip. -/
import Derived.Test.YtbiikihapfpkfaaPlkX
set_option linter.unusedSimpArgs false
set_option linter.unusedVariables false
set_option linter.unusedSectionVars false
namespace Go.Proofs.Ytbiikihapfpkfaa
open Go Go.RowKit
namespace Plk
theorem Good.del {fs : List F} {s : H} (h : Good ⟨fs, s⟩) {n : List UInt8} {f : F} (hg : Nmd.get F.name n fs = some f) : Good ⟨Nmd.del F.name n fs, { s with used := s.used - f.l.length }⟩ := by
  have hsum : sum (Nmd.del F.name n fs) + f.l.length = sum fs := sum_del h.up hg
  have hus := h.used
  have hro := h.room
  dsimp only at hus hro
  refine ⟨h.up.del n, ?_, ⟨?_, hro.2⟩, ?_, ?_, ?_, h.ops⟩
  · dsimp only; omega
  · dsimp only; omega
  · intro y hy; exact h.safe y (Nmd.mem_del.1 hy).1
  · exact Nat.le_trans (List.length_filter_le _ _) h.cnt
  · intro y hy; exact h.names y (Nmd.mem_del.1 hy).1
theorem Good.ins_ {fs : List F} {s : H} (h : Good ⟨fs, s⟩) (x : F) (hg : Nmd.get F.name x.name fs = none) (hc : fs.length < 200) (hn : isName x.name = true) (hs : x.safe ≤ x.l.length) (hr : s.used + x.l.length ≤ s.room) : Good ⟨Nmd.ins F.name x fs, { s with used := s.used + x.l.length }⟩ := by
  have hsum := sum_ins x fs
  have hus := h.used
  have hro := h.room
  dsimp only at hus hro
  refine ⟨h.up.ins (Nmd.get_none hg), ?_, ⟨hr, hro.2⟩, ?_, ?_, ?_, h.ops⟩
  · dsimp only; omega
  · intro f hf
    rcases Nmd.mem_ins.1 hf with rfl | hf
    · exact hs
    · exact h.safe f hf
  · show (Nmd.ins F.name x fs).length ≤ 200
    rw [Nmd.length_ins]; omega
  · intro f hf
    rcases Nmd.mem_ins.1 hf with rfl | hf
    · exact hn
    · exact h.names f hf
theorem fget_del {fs : List F} {n t : List UInt8} (h : Nmd.get F.name t fs = none) : Nmd.get F.name t (Nmd.del F.name n fs) = none := by
  rw [Nmd.get_del]
  split
  · rfl
  · exact h
theorem Good.moved {fs : List F} {s : H} (h : Good ⟨fs, s⟩) {n t : List UInt8} {f : F} (hg : Nmd.get F.name n fs = some f) (ht : Nmd.get F.name t fs = none) (hn : isName t = true) : Good ⟨Nmd.ins F.name ⟨t, f.l, f.safe⟩ (Nmd.del F.name n fs), s⟩ := by
  have h1 := h.del hg
  have hl := Nmd.length_del h.up hg
  have hc := h.cnt
  have hro := h.room
  dsimp only at hl hc hro
  have h2 := h1.ins_ ⟨t, f.l, f.safe⟩ (fget_del ht) (by omega) hn (h.safe f (Nmd.get_mem hg).1) (by dsimp only; omega)
  dsimp only at h2
  rw [show s.used - (f.l.length : Int) + (f.l.length : Int) = s.used by omega] at h2
  exact h2
theorem begin_names2 {s : H} {n t : List UInt8} (h : (s.begin [n, t]).1 = 0) : isName n = true ∧ isName t = true := by
  unfold H.begin at h
  by_cases hb : ([n, t].any fun n => !isName n) = true
  · rw [if_pos hb] at h; cases h
  · simpa using hb
theorem Good.rename {p : P} (h : Good p) (n t : List UInt8) : Good (p.rename n t).2 := by
  unfold P.rename
  have hb := h.begin_ [n, t]
  by_cases h1 : (p.h.begin [n, t]).1 ≠ 0
  · rw [if_pos h1]; exact hb
  · rw [if_neg h1]
    have ht := (begin_names2 (Decidable.not_not.1 h1)).2
    cases hg : Nmd.get F.name n p.fs with
    | none => exact hb
    | some f =>
      dsimp only
      by_cases hnt : n = t
      · rw [if_pos hnt]; exact hb
      · rw [if_neg hnt]
        cases hg2 : Nmd.get F.name t p.fs with
        | none => exact hb.moved hg hg2 ht
        | some y =>
          have h2 := hb.del hg2
          refine h2.moved ?_ ?_ ht
          · rw [Nmd.get_del, if_neg (fun e => hnt e.symm)]; exact hg
          · rw [Nmd.get_del, if_pos rfl]
theorem Good.lay {p : P} (h : Good p) (n t : List UInt8) : Good (p.lay n t).2 := by
  unfold P.lay
  have hcn := h.cnt
  by_cases h1 : isName n = false
  · rw [if_pos h1]; exact h
  · rw [if_neg h1]
    have hn : isName n = true := by simpa using h1
    cases hg : Nmd.get F.name n p.fs with
    | none =>
      dsimp only
      by_cases h2 : 200 ≤ p.fs.length ∨ p.h.room - p.h.used < t.length
      · rw [if_pos h2]; exact h
      · rw [if_neg h2]
        exact Good.ins_ (fs := p.fs) (s := p.h) h ⟨n, t, t.length⟩ hg (by omega) hn (Nat.le_refl _) (by dsimp only; omega)
    | some f =>
      dsimp only
      by_cases h2 : p.h.room - p.h.used + f.l.length < t.length
      · rw [if_pos h2]; exact h
      · rw [if_neg h2]
        have hl := Nmd.length_del h.up hg
        exact Good.ins_ (Good.del (fs := p.fs) (s := p.h) h hg) ⟨n, t, t.length⟩ (by rw [Nmd.get_del, if_pos rfl]) (by omega) hn (Nat.le_refl _) (by dsimp only; omega)
theorem Good.flip {p : P} (h : Good p) (n : List UInt8) (x : Int) (b : UInt8) : Good (p.flip n x b).2 := by
  unfold P.flip
  cases hg : Nmd.get F.name n p.fs with
  | none => exact h
  | some f =>
    dsimp only
    by_cases h2 : b = 0 ∨ x < 0 ∨ (f.l.length : Int) ≤ x
    · rw [if_pos h2]; exact h
    · rw [if_neg h2]
      have hm := (Nmd.get_mem hg).1
      refine Good.upd (fs := p.fs) (s := p.h) h (x := ⟨f.name, f.l.set x.toNat (f.l[x.toNat]! ^^^ b), f.safe⟩) hm rfl ?_ p.h ?_ h.room h.ops
      · show f.safe ≤ (f.l.set _ _).length
        rw [List.length_set]; exact h.safe f hm
      · dsimp only
        rw [List.length_set]; omega
end Plk
end Go.Proofs.Ytbiikihapfpkfaa

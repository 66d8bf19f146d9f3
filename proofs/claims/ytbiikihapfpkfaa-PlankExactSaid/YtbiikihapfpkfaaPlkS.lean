/- A disk that a law holds; the operations on it. -/
import Derived.Test.YtbiikihapfpkfaaPlkR
set_option linter.unusedSimpArgs false
set_option linter.unusedVariables false
set_option linter.unusedSectionVars false
namespace Go.Proofs.Ytbiikihapfpkfaa
open Go Go.RowKit
namespace Plk
structure Hold (W0 w : World) (d : Nat) (p : P) : Prop where
  ext : Reg.Ext W0 w
  good : Good p
  dk : ∃ mp es, Dk w d mp es p.h ∧ es.map E.f = p.fs ∧ ∀ i, Own d mp es i → W0.heap.size ≤ i
theorem Hold.step {W0 w w' : World} {d mp : Nat} {es es' : List E} {s' : H} {p' : P} (hx : Reg.Ext W0 w) (ho : ∀ i, Own d mp es i → W0.heap.size ≤ i) (hD : Dk w' d mp es' s') (hT : Turn d mp w es w' es') (hp : pl es' s' = p') (hg : Good p') : Hold W0 w' d p' := by
  subst hp
  refine ⟨⟨hT.os.trans hx.os, hT.tape.trans hx.tape, hT.output.trans hx.output, Nat.le_trans hx.size hT.size, fun i hi => ?_⟩, hg, mp, es', hD, rfl, fun i hi => ?_⟩
  · refine (hT.kept i (Nat.lt_of_lt_of_le hi hx.size) fun o => ?_).trans (hx.block i hi)
    have := ho i o
    omega
  · rcases hT.own i hi with h | h
    · exact ho i h
    · exact Nat.le_trans hx.size h
theorem Hold.more {W0 w w' : World} {d : Nat} {p : P} (h : Hold W0 w d p) (hx : Reg.Ext w w') : Hold W0 w' d p := by
  obtain ⟨h1, h2, mp, es, h3, h4, h5⟩ := h
  exact ⟨h1.trans hx, h2, mp, es, h3.ext hx, h4, h5⟩
abbrev big : Int := 4611686018427387904
theorem good_len {es : List E} {s : H} (hg : Good ⟨es.map E.f, s⟩) : ∀ e ∈ es, e.f.l.length ≤ 4194304 := by
  intro e he
  have h1 := len_sum (List.mem_map.2 ⟨e, he, rfl⟩ : e.f ∈ es.map E.f)
  have h2 := hg.used
  have h3 := hg.room
  dsimp only at h2 h3
  omega
theorem good_room {p : P} (hg : Good p) : 0 ≤ p.h.used ∧ p.h.used ≤ p.h.room ∧ p.h.room ≤ 4194304 := by
  have h2 := hg.used
  have h3 := hg.room
  omega
theorem Hold.new (room : Int) (W : World) : Calls Try.prog 8 #[.int .i64 room] W fun e w' => ∃ d, e = .returned (.pointer (some ⟨d, 0, none⟩)) ∧ Hold W w' d (new room) := by
  refine (new_any room W).mono ?_
  rintro e w' ⟨d, mp, rfl, hD, h1, h2, hx⟩
  refine ⟨d, rfl, hx, good_new room, mp, [], hD, rfl, fun i hi => ?_⟩
  rcases hi with rfl | rfl | ⟨e, he, _⟩
  · exact h1
  · exact h2
  · cases he
theorem arm_keep (s : H) (x k m : Int) : (s.arm x k m).room = s.room ∧ (s.arm x k m).used = s.used ∧ (s.arm x k m).ops = s.ops ∧ (s.arm x k m).off = s.off := by
  unfold H.arm
  split <;> exact ⟨rfl, rfl, rfl, rfl⟩
section
variable {W0 w : World} {d : Nat} {p : P} (h : Hold W0 w d p)
include h
theorem Hold.create (n : List UInt8) (h1 : p.h.ops < big) : Calls Try.prog 9 #[.pointer (some ⟨d, 0, none⟩), str n] w fun e w' => e = .returned (.int .i64 (p.create n).1) ∧ Hold W0 w' d (p.create n).2 := by
  obtain ⟨hx, hg, mp, es, hD, hfs, ho⟩ := h
  obtain ⟨fs, s⟩ := p
  dsimp only at hD hfs
  subst hfs
  refine (create_any w d mp es s hD n hg.ops h1 (by have := hg.cnt; simpa using this)).mono ?_
  rintro e w' ⟨es', s', rfl, h2, h3, h4⟩
  exact ⟨rfl, Hold.step hx ho h2 h3 h4 (hg.create n)⟩
theorem Hold.append (n t : List UInt8) (h1 : p.h.ops < big) (ht : t.length ≤ 4294967296) : Calls Try.prog 11 #[.pointer (some ⟨d, 0, none⟩), str n, str t] w fun e w' => e = .returned (.int .i64 (p.append n t).1) ∧ Hold W0 w' d (p.append n t).2 := by
  obtain ⟨hx, hg, mp, es, hD, hfs, ho⟩ := h
  obtain ⟨fs, s⟩ := p
  dsimp only at hD hfs
  subst hfs
  refine (append_any w d mp es s hD n t hg.ops h1 (good_room hg) (good_len hg) ht).mono ?_
  rintro e w' ⟨es', s', rfl, h2, h3, h4⟩
  exact ⟨rfl, Hold.step hx ho h2 h3 h4 (hg.append n t)⟩
theorem Hold.sync (n : List UInt8) (h1 : p.h.ops < big) : Calls Try.prog 12 #[.pointer (some ⟨d, 0, none⟩), str n] w fun e w' => e = .returned (.int .i64 (p.sync n).1) ∧ Hold W0 w' d (p.sync n).2 := by
  obtain ⟨hx, hg, mp, es, hD, hfs, ho⟩ := h
  obtain ⟨fs, s⟩ := p
  dsimp only at hD hfs
  subst hfs
  refine (sync_any w d mp es s hD n hg.ops h1).mono ?_
  rintro e w' ⟨es', s', rfl, h2, h3, h4⟩
  exact ⟨rfl, Hold.step hx ho h2 h3 h4 (hg.sync n)⟩
theorem Hold.delete (n : List UInt8) (h1 : p.h.ops < big) : Calls Try.prog 34 #[.pointer (some ⟨d, 0, none⟩), str n] w fun e w' => e = .returned (.int .i64 (p.delete n).1) ∧ Hold W0 w' d (p.delete n).2 := by
  obtain ⟨hx, hg, mp, es, hD, hfs, ho⟩ := h
  obtain ⟨fs, s⟩ := p
  dsimp only at hD hfs
  subst hfs
  refine (delete_any w d mp es s hD n hg.ops h1 (by have := good_room hg; dsimp only at this; omega) (good_len hg)).mono ?_
  rintro e w' ⟨es', s', rfl, h2, h3, h4⟩
  exact ⟨rfl, Hold.step hx ho h2 h3 h4 (hg.delete n)⟩
theorem Hold.off : Calls Try.prog 13 #[.pointer (some ⟨d, 0, none⟩)] w fun e w' => e = .returned (.tuple #[]) ∧ Hold W0 w' d ⟨p.fs, { p.h with off := true, ak := 0, af := 0, al := 0 }⟩ := by
  obtain ⟨hx, hg, mp, es, hD, hfs, ho⟩ := h
  obtain ⟨fs, s⟩ := p
  dsimp only at hD hfs
  subst hfs
  refine (off_any w d mp es s hD).mono ?_
  rintro e w' ⟨rfl, h2, h3⟩
  exact ⟨rfl, Hold.step hx ho h2 (Turn.of_but h3) rfl ⟨hg.up, hg.used, hg.room, hg.safe, hg.cnt, hg.names, hg.ops⟩⟩
theorem Hold.arm (x k m : Int) (h1 : p.h.ops < big) : Calls Try.prog 10 #[.pointer (some ⟨d, 0, none⟩), .int .i64 x, .int .i64 k, .int .i64 m] w fun e w' => e = .returned (.tuple #[]) ∧ Hold W0 w' d ⟨p.fs, p.h.arm x k m⟩ := by
  obtain ⟨hx, hg, mp, es, hD, hfs, ho⟩ := h
  obtain ⟨fs, s⟩ := p
  dsimp only at hD hfs
  subst hfs
  refine (arm_any w d mp es s hD x k m hg.ops h1).mono ?_
  rintro e w' ⟨rfl, h2, h3⟩
  obtain ⟨k1, k2, k3, _⟩ := arm_keep s x k m
  refine ⟨rfl, Hold.step hx ho h2 (Turn.of_but h3) rfl ⟨hg.up, ?_, ?_, hg.safe, hg.cnt, hg.names, ?_⟩⟩
  · exact k2.trans hg.used
  · show (s.arm x k m).used ≤ (s.arm x k m).room ∧ (s.arm x k m).room ≤ _
    rw [k1, k2]; exact hg.room
  · show 0 ≤ (s.arm x k m).ops
    rw [k3]; exact hg.ops
theorem Hold.read (n : List UInt8) (x k : Int) (h1 : p.h.ops < big) : Calls Try.prog 18 #[.pointer (some ⟨d, 0, none⟩), str n, .int .i64 x, .int .i64 k] w fun e w' => e = .returned (.tuple #[str (p.read n x k).1, .int .i64 (p.read n x k).2.1]) ∧ Hold W0 w' d (p.read n x k).2.2 := by
  obtain ⟨hx, hg, mp, es, hD, hfs, ho⟩ := h
  obtain ⟨fs, s⟩ := p
  dsimp only at hD hfs
  subst hfs
  refine (read_any w d mp es s hD n x k hg.ops h1 (good_len hg)).mono ?_
  rintro e w' ⟨s', rfl, h2, h3, h4⟩
  refine ⟨rfl, Hold.step hx ho h2 (Turn.of_but h3) h4 ?_⟩
  show Good (P.read ⟨es.map E.f, s⟩ n x k).2.2
  have hb := hg.find_ n
  unfold P.read
  split
  · exact hg
  · split
    · exact hb
    · split
      · exact hb
      · exact hb
theorem Hold.on1 (k : Int) : Calls Try.prog 14 #[.pointer (some ⟨d, 0, none⟩), .slice (some ⟨w.heap.size, 0, none⟩) 1 1] (w.alloc (.cells #[.int .i64 k] 3)) fun e w' => e = .returned (.tuple #[]) ∧ Hold W0 w' d (p.on [k]) := by
  obtain ⟨hx, hg, mp, es, hD, hfs, ho⟩ := h
  obtain ⟨fs, s⟩ := p
  dsimp only at hD hfs
  subst hfs
  have hxa := Reg.Ext.alloc w (.cells #[.int .i64 k] 3)
  have hD1 := hD.ext hxa
  have hk : KR (w.alloc (.cells #[.int .i64 k] 3)) d mp es (.slice (some ⟨w.heap.size, 0, none⟩) 1 1) [k] := by
    refine ⟨_, 1, rfl, Nat.le_refl _, by unfold maxLen; omega, fun j hj => ⟨w.heap.size, 0, rfl, by simp, fun o => ?_, ?_⟩⟩
    · have := hD.own_lt o
      omega
    · have : j = 0 := by simpa using hj
      subst this
      simp
  have hr := good_room hg
  dsimp only at hr
  refine (on_any _ d mp es s hD1 _ [k] hk (by have := hg.cnt; simpa using this) (fun e he => hg.safe e.f (List.mem_map.2 ⟨e, he, rfl⟩)) hg.used (by omega) (fun e he => ?_)).mono ?_
  · have := hg.names e.f (List.mem_map.2 ⟨e, he, rfl⟩)
    unfold isName at this
    simp at this
    exact this.2
  · rintro e w' ⟨rfl, es', s', h2, h3, h4⟩
    exact ⟨rfl, Hold.step (hx.trans hxa) ho h2 h3 h4 (hg.on [k])⟩
theorem Hold.used : Calls Try.prog 21 #[.pointer (some ⟨d, 0, none⟩)] w fun e w' => e = .returned (.int .i64 p.h.used) ∧ w' = w := by
  obtain ⟨hx, hg, mp, es, hD, hfs, ho⟩ := h
  obtain ⟨fs, s⟩ := p
  dsimp only at hD hfs
  subst hfs
  exact used_any w d mp es s hD
theorem Hold.down : Calls Try.prog 17 #[.pointer (some ⟨d, 0, none⟩)] w fun e w' => e = .returned (.bool p.h.off) ∧ w' = w := by
  obtain ⟨hx, hg, mp, es, hD, hfs, ho⟩ := h
  obtain ⟨fs, s⟩ := p
  dsimp only at hD hfs
  subst hfs
  exact down_any w d mp es s hD
theorem Hold.bytes (n : List UInt8) (hn : n.length ≤ maxLen) : Calls Try.prog 15 #[.pointer (some ⟨d, 0, none⟩), str n] w fun e w' => e = .returned (str (match Nmd.get F.name n p.fs with | none => [] | some f => f.l)) ∧ w' = w := by
  obtain ⟨hx, hg, mp, es, hD, hfs, ho⟩ := h
  obtain ⟨fs, s⟩ := p
  dsimp only at hD hfs
  subst hfs
  dsimp only
  rw [get_pl]
  refine (bytes_any w d mp es s hD n hn).mono ?_
  rintro e w' ⟨rfl, rfl⟩
  cases Nmd.get E.nm n es <;> exact ⟨rfl, rfl⟩
theorem Hold.safe (n : List UInt8) (hn : n.length ≤ maxLen) : Calls Try.prog 16 #[.pointer (some ⟨d, 0, none⟩), str n] w fun e w' => e = .returned (.int .i64 (match Nmd.get F.name n p.fs with | none => 0 | some f => (f.safe : Int))) ∧ w' = w := by
  obtain ⟨hx, hg, mp, es, hD, hfs, ho⟩ := h
  obtain ⟨fs, s⟩ := p
  dsimp only at hD hfs
  subst hfs
  dsimp only
  rw [get_pl]
  refine (safe_any w d mp es s hD n hn).mono ?_
  rintro e w' ⟨rfl, rfl⟩
  cases Nmd.get E.nm n es <;> exact ⟨rfl, rfl⟩
end
end Plk
end Go.Proofs.Ytbiikihapfpkfaa

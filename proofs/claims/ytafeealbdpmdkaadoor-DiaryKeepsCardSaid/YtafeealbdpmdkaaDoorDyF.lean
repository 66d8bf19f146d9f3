/- The log's disk where an operation fails. -/
import Derived.Test.YtafeealbdpmdkaaDoorDyQ
set_option linter.unusedSimpArgs false
set_option linter.unusedVariables false
set_option linter.unusedSectionVars false
namespace Go.Proofs.YtafeealbdpmdkaaDoor
open Go Go.RowKit
namespace Plk
open Slp (S good frame body frames allP Row)
/-- the next operation fails -/
def Bad (s : H) (e : Int) (s' : H) : Prop := e ≠ 0 ∧ ∀ ns, (∀ n ∈ ns, isName n = true) → s.begin ns = (e, s')
theorem bad_io {s : H} (h0 : s.off = false) (h1 : s.ak = 1) (h2 : s.af = s.ops + 1) (h3 : s.al = s.ops + 1) : Bad s 11 s.tick := by
  obtain ⟨room, used, ops, off, ak, af, al⟩ := s
  dsimp only at h0 h1 h2 h3
  subst h0 h1 h2 h3
  refine ⟨by decide, fun ns hn => ?_⟩
  unfold H.begin
  rw [if_neg (by simp; exact hn), if_neg Bool.false_ne_true]
  dsimp only
  rw [if_neg (by omega), if_neg (by omega)]
  rfl
def H.dead (s : H) : H := { s with ops := s.ops + 1, off := true, ak := 0, af := 0, al := 0 }
theorem bad_power {s : H} (h0 : s.off = false) (h1 : s.ak = 2) (h2 : s.af = s.ops + 1) (h3 : s.al = s.ops + 1) : Bad s 12 s.dead := by
  obtain ⟨room, used, ops, off, ak, af, al⟩ := s
  dsimp only at h0 h1 h2 h3
  subst h0 h1 h2 h3
  refine ⟨by decide, fun ns hn => ?_⟩
  unfold H.begin
  rw [if_neg (by simp; exact hn), if_neg Bool.false_ne_true]
  dsimp only
  rw [if_neg (by omega), if_pos rfl]
  rfl
section
variable {s s' : H} {e : Int} (h : Bad s e s') (fs : List F)
include h
theorem Bad.find {n : List UInt8} (hn : isName n = true) : P.find ⟨fs, s⟩ n = (e, s', none) := by
  unfold P.find
  rw [h.2 _ (ns1 hn)]
  dsimp only
  rw [if_pos h.1]
theorem Bad.create {n : List UInt8} (hn : isName n = true) : P.create ⟨fs, s⟩ n = (e, ⟨fs, s'⟩) := by
  unfold P.create
  rw [h.2 _ (ns1 hn)]
  dsimp only
  rw [if_pos h.1]
theorem Bad.append {n : List UInt8} (hn : isName n = true) (t : List UInt8) : P.append ⟨fs, s⟩ n t = (e, ⟨fs, s'⟩) := by
  unfold P.append
  rw [h.find fs hn]
theorem Bad.sync {n : List UInt8} (hn : isName n = true) : P.sync ⟨fs, s⟩ n = (e, ⟨fs, s'⟩) := by
  unfold P.sync
  rw [h.find fs hn]
theorem Bad.rename : P.rename ⟨fs, s⟩ nN nD = (e, ⟨fs, s'⟩) := by
  unfold P.rename
  rw [h.2 _ nsR]
  dsimp only
  rw [if_pos h.1]
theorem Bad.add {x : S} {y : Y} (hy : y.sick = false) (hg : good x = true) : addP ⟨fs, s⟩ y x = (e, ⟨fs, s'⟩, { y with sick := true }) := by
  unfold addP
  rw [if_neg (by rw [hy]; decide), if_neg (by rw [hg]; decide), h.append fs nameD, if_pos h.1]
theorem Bad.lsync {y : Y} (hy : y.sick = false) (hs : y.sure ≠ y.n) : syncP ⟨fs, s⟩ y = (e, ⟨fs, s'⟩, { y with sick := true }) := by
  unfold syncP
  rw [if_neg (by rw [hy]; decide), if_neg hs, h.sync fs nameD, if_pos h.1]
end
theorem rew_err {p q : P} {y : Y} {xs : List S} {e : Int} (hg : allGood xs = true) (h : p.replace (frames xs) = (e, q)) (he : e ≠ 0) : rewP p y xs = (e, q, y) := by
  unfold rewP
  rw [if_neg (by rw [hg]; decide), h, if_pos he]
theorem frames_ne {xs : List S} (h : xs ≠ []) : frames xs ≠ [] := by
  obtain ⟨y, ys, rfl⟩ := List.exists_cons_of_ne_nil h
  rw [Slp.frames_cons]
  intro h
  have := congrArg List.length h
  rw [List.length_append, Slp.frame_len] at this
  simp at this
/-- armed for the next operation: what is added is not -/
theorem io_add {s : H} {R u o : Int} (h : Calm s R u o) (fs : List F) {x : S} {y : Y} (hy : y.sick = false) (hg : good x = true) : ∃ s', addP ⟨fs, s.arm 1 1 0⟩ y x = (11, ⟨fs, s'⟩, { y with sick := true }) ∧ Calm s' R u (o + 1) := by
  obtain ⟨room, used, ops, off, ak, af, al⟩ := s
  obtain ⟨h0, h1, h2, h3, h4⟩ := h
  dsimp only at h0 h1 h2 h3 h4
  have e : H.arm ⟨room, used, ops, off, ak, af, al⟩ 1 1 0 = ⟨room, used, ops, off, 1, ops + 1, ops + 1⟩ := by
    unfold H.arm
    rw [if_neg (by omega), show min (max (0 : Int) 0) 1099511627776 = 0 by decide]
    simp
  rw [e]
  refine ⟨_, (bad_io (s := ⟨room, used, ops, off, 1, ops + 1, ops + 1⟩) h0 rfl rfl rfl).add fs hy hg, h0, .inr ?_, h2, h3, ?_⟩
  · show ops + 1 < ops + 1 + 1
    omega
  · show ops + 1 ≤ o + 1
    omega
/-- armed for the second operation: what is written anew is not -/
theorem io_rew {s : H} {R u o : Int} (h : Calm s R u o) (l : List UInt8) (k : Nat) (y : Y) (xs : List S) (hx : xs ≠ []) (hg : allGood xs = true) : ∃ s', rewP ⟨d1 l k, s.arm 2 1 0⟩ y xs = (11, ⟨d2 l k [] 0, s'⟩, y) ∧ Calm s' R u (o + 2) := by
  obtain ⟨room, used, ops, off, ak, af, al⟩ := s
  obtain ⟨h0, h1, h2, h3, h4⟩ := h
  dsimp only at h0 h1 h2 h3 h4
  have e : H.arm ⟨room, used, ops, off, ak, af, al⟩ 2 1 0 = ⟨room, used, ops, off, 1, ops + 2, ops + 2⟩ := by
    unfold H.arm
    rw [if_neg (by omega), show min (max (0 : Int) 0) 1099511627776 = 0 by decide]
    simp
  rw [e]
  have f1 : Free ⟨room, used, ops, off, 1, ops + 2, ops + 2⟩ := ⟨h0, .inr (.inl (by show ops + 1 < ops + 2; omega))⟩
  have b2 : Bad (H.tick ⟨room, used, ops, off, 1, ops + 2, ops + 2⟩) 11 (H.tick (H.tick ⟨room, used, ops, off, 1, ops + 2, ops + 2⟩)) := bad_io h0 rfl (by show ops + 2 = ops + 1 + 1; omega) (by show ops + 2 = ops + 1 + 1; omega)
  refine ⟨H.tick (H.tick ⟨room, used, ops, off, 1, ops + 2, ops + 2⟩), rew_err hg ?_ (by decide), h0, .inr ?_, h2, h3, ?_⟩
  · unfold P.replace
    rw [pthen_ok (sweep_d1 l k _), pthen_ok (create_d1 f1 l k)]
    refine pthen_err ?_ (by decide)
    unfold P.put
    rw [if_neg (frames_ne hx), b2.append _ nameN]
  · show ops + 2 < ops + 1 + 1 + 1
    omega
  · show ops + 1 + 1 ≤ o + 2
    omega
end Plk
end Go.Proofs.YtafeealbdpmdkaaDoor

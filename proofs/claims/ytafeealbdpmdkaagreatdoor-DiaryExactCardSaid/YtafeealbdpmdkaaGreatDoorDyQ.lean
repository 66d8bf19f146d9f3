/- The log's disk while nothing fails. -/
import Derived.Test.YtafeealbdpmdkaaGreatDoorDyP
import Derived.Test.YtafeealbdpmdkaaGreatDoorDyC
set_option linter.unusedSimpArgs false
set_option linter.unusedVariables false
set_option linter.unusedSectionVars false
-- squeezed
namespace Go.Proofs.YtafeealbdpmdkaaGreatDoor
open Go Go.RowKit
namespace Plk
open Slp (S good frame body frames allP Row)
/-- nothing fails; so much room there is, so much is used; no more operations than that -/
structure Calm (s : H) (R u o : Int) : Prop where
 off : s.off = false
 ak : s.ak = 0 ∨ s.al < s.ops + 1
 room : s.room = R
 used : s.used = u
 ops : s.ops ≤ o
theorem Calm.free {s : H} {R u o : Int} (h : Calm s R u o) : Free s := ⟨h.off, h.ak.imp id .inr⟩
theorem Calm.tick {s : H} {R u o : Int} (h : Calm s R u o) : Calm s.tick R u (o + 1) := ⟨h.off, h.ak.imp id (fun h => by show s.al < s.ops + 1 + 1; omega), h.room, h.used, by have := h.ops; show s.ops + 1 ≤ _; omega⟩
theorem Calm.more {s : H} {R u o : Int} (h : Calm s R u o) (n : Int) : Calm (s.more n) R (u + n) o := ⟨h.off, h.ak, h.room, by have := h.used; show s.used + n = _; omega, h.ops⟩
theorem Calm.le {s : H} {R u u' o o' : Int} (h : Calm s R u o) (h1 : u = u') (h2 : o ≤ o') : Calm s R u' o' := ⟨h.off, h.ak, h.room, by rw [h.used, h1], by have := h.ops; omega⟩
section
variable {s : H} {R u o : Int} (h : Calm s R u o) (l m t : List UInt8) (k j : Nat)
theorem sweep_d1 (s : H) : P.sweep ⟨d1 l k, s⟩ = (0, ⟨d1 l k, s⟩) := rfl
theorem make_d1 (s : H) : P.make ⟨d1 l k, s⟩ = (0, ⟨d1 l k, s⟩) := rfl
theorem sweep_d0 (s : H) : P.sweep ⟨[], s⟩ = (0, ⟨[], s⟩) := rfl
theorem make_d0 (s : H) : P.make ⟨[], s⟩ = P.create ⟨[], s⟩ nD := rfl
theorem lenD_d1 (s : H) : P.lenD ⟨d1 l k, s⟩ = (l.length : Int) := rfl
theorem load_of {p q : P} {s : H} (hb : p.begun = (0, q)) (hq : q = ⟨d1 l k, s⟩) (hs : Free s) (ht : Free s.tick) : p.load = (l, 0, ⟨d1 l l.length, s.tick.tick⟩) := by
 subst hq
 unfold P.load
 rw [hb]
 dsimp only
 rw [if_neg (fun h => h rfl), lenD_d1, read_d1 hs]
 dsimp only
 rw [if_neg (fun h => h rfl), sync_d1 ht]
include h
theorem load0 : ∃ s', P.load ⟨[], s⟩ = ([], 0, ⟨d1 [] 0, s'⟩) ∧ Calm s' R u (o + 3) := by
 refine ⟨s.tick.tick.tick, load_of (q := ⟨d1 [] 0, s.tick⟩) (s := s.tick) [] 0 ?_ rfl h.tick.free h.tick.tick.free, h.tick.tick.tick.le rfl (by omega)⟩
 unfold P.begun
 rw [pthen_ok (sweep_d0 s), make_d0, create_d0 h.free]
theorem load1 : ∃ s', P.load ⟨d1 l k, s⟩ = (l, 0, ⟨d1 l l.length, s'⟩) ∧ Calm s' R u (o + 2) := by
 refine ⟨s.tick.tick, load_of (q := ⟨d1 l k, s⟩) (s := s) l k ?_ rfl h.free h.tick.free, h.tick.tick.le rfl (by omega)⟩
 unfold P.begun
 rw [pthen_ok (sweep_d1 l k s), make_d1]
theorem rep1 (hr : (t.length : Int) ≤ R - u) : ∃ s', P.replace ⟨d1 l k, s⟩ t = (0, ⟨d1 t t.length, s'⟩) ∧ Calm s' R (u + t.length - l.length) (o + 4) := by
 unfold P.replace
 rw [pthen_ok (sweep_d1 l k s), pthen_ok (create_d1 h.free l k)]
 by_cases ht : t = []
 ·subst ht
  have h1 := h.tick.tick.tick.more (-(l.length : Int))
  refine ⟨_, ?_, h1.le (by simp; omega) (by omega)⟩
  unfold P.put
  rw [if_pos rfl, pthen_ok rfl, pthen_ok (sync_d2 h.tick.free l [] k 0), rename_d2 h.tick.tick.free]
 ·have h1 := h.tick.tick.more (t.length : Int)
  have h2 := h1.tick.tick.more (-(l.length : Int))
  refine ⟨_, ?_, h2.le (by omega) (by omega)⟩
  unfold P.put
  rw [if_neg ht, append_d2 h.tick.free l [] t k 0 (by have := h.tick.room; have := h.tick.used; omega), pthen_ok rfl, pthen_ok (sync_d2 h1.free _ _ _ _), rename_d2 h1.tick.free]
  rfl
theorem add1 {x : S} {y : Y} (hy : y.sick = false) (hg : good x = true) (hr : ((frame (body x)).length : Int) ≤ R - u) : ∃ s', addP ⟨d1 l k, s⟩ y x = (0, ⟨d1 (l ++ frame (body x)) k, s'⟩, ⟨y.n + 1, y.sure, y.size + ((frame (body x)).length : Int), false⟩) ∧ Calm s' R (u + (frame (body x)).length) (o + 1) := by
 refine ⟨_, ?_, h.tick.more _⟩
 unfold addP
 rw [if_neg (by rw [hy]; decide), if_neg (by rw [hg]; decide), append_d1 h.free l _ k (by have := h.room; have := h.used; omega), if_neg (fun h => h rfl)]
theorem syn1 {y : Y} (hy : y.sick = false) : ∃ s' k', syncP ⟨d1 l k, s⟩ y = (0, ⟨d1 l k', s'⟩, { y with sure := y.n }) ∧ Calm s' R u (o + 1) ∧ (y.sure ≠ y.n → k' = l.length) ∧ (y.sure = y.n → k' = k) := by
 unfold syncP
 rw [if_neg (by rw [hy]; decide)]
 by_cases hs : y.sure = y.n
 ·rw [if_pos hs]
  refine ⟨s, k, ?_, h.le rfl (by omega), fun h => absurd hs h, fun _ => rfl⟩
  obtain ⟨n, sure, size, sick⟩ := y
  dsimp only at hs
  rw [hs]
 ·rw [if_neg hs, sync_d1 h.free, if_neg (fun h => h rfl)]
  exact ⟨_, _, rfl, h.tick, fun _ => rfl, fun e => absurd e hs⟩
end
theorem add_sick {p : P} {y : Y} {x : S} (hy : y.sick = true) : addP p y x = (8, p, y) := by
 unfold addP
 rw [if_pos hy]
theorem rew1 {s : H} {R u o : Int} (h : Calm s R u o) (l : List UInt8) (k : Nat) (y : Y) (xs : List S) (hg : allGood xs = true) (hr : ((frames xs).length : Int) ≤ R - u) : ∃ s', rewP ⟨d1 l k, s⟩ y xs = (0, ⟨d1 (frames xs) (frames xs).length, s'⟩, ⟨(xs.length : Int), (xs.length : Int), ((frames xs).length : Int), false⟩) ∧ Calm s' R (u + (frames xs).length - l.length) (o + 4) := by
 obtain ⟨s', e, h1⟩ := rep1 h l (frames xs) k hr
 refine ⟨s', ?_, h1⟩
 unfold rewP
 rw [if_neg (by rw [hg]; decide), e, if_neg (fun h => h rfl)]
/-- behind a power failure -/
theorem on_d1 (l : List UInt8) (k : Nat) (s : H) (hk : k ≤ l.length) (ks : List Int) : ∃ m, k ≤ m ∧ m ≤ l.length ∧ (P.on ⟨d1 l k, { s with off := true, ak := 0, af := 0, al := 0 }⟩ ks) = ⟨d1 (l.take m) m, { s with off := false, ak := 0, af := 0, al := 0, used := (m : Int) }⟩ ∧ (k ≠ l.length → m = keptN ⟨nD, l, k⟩ (max (ks.headD 0) 0).toNat) := by
 unfold P.on
 rw [if_pos rfl]
 unfold d1 onL
 by_cases hs : k = l.length
 ·refine ⟨l.length, hk, Nat.le_refl _, ?_, fun h => absurd hs h⟩
  rw [if_pos hs, List.take_length, ← hs]
  unfold onL
  simp [sum, hs]
 ·refine ⟨keptN ⟨nD, l, k⟩ (max (ks.headD 0) 0).toNat, by unfold keptN; dsimp only; omega, keptN_le _ _ hk, ?_, fun _ => rfl⟩
  rw [if_neg hs]
  unfold onL lost
  have := keptN_le ⟨nD, l, k⟩ (max (ks.headD 0) 0).toNat hk
  have e : (l.take (keptN ⟨nD, l, k⟩ (max (ks.headD 0) 0).toNat)).length = keptN ⟨nD, l, k⟩ (max (ks.headD 0) 0).toNat := by rw [List.length_take]; exact Nat.min_eq_left this
  show (⟨d1 _ _, _⟩ : P) = ⟨d1 _ _, _⟩
  unfold sum
  rw [List.map_cons, List.map_nil, List.sum_cons, List.sum_nil, Nat.add_zero, e]
theorem calm_on {s : H} {R o : Int} (h1 : s.room = R) (h2 : s.ops ≤ o) (m : Int) : Calm { s with off := false, ak := 0, af := 0, al := 0, used := m } R m o := ⟨rfl, .inl rfl, h1, rfl, h2⟩
section
variable {w : World} {d mp : Nat} {es : List E} {p q : P} {g : Nat} {y z : Y} {v : Int} (h : Dy w d mp es p g y)
include h
theorem add_eq (hy : y.Fine) (h1 : p.h.ops < big) (x : S) (hx : x.dig.length = 32) (hT : Crc.Tab w) (e : addP p y x = (v, q, z)) :
  Calls Tryz.prog 21 #[.pointer (some ⟨g, 0, none⟩), .agg x.cells.toArray] w (ResY d mp g w es (.int .i64 v) q z) := by
 have := add_any h hy h1 x hx hT
 rw [e] at this; exact this
theorem sync_eq (h1 : p.h.ops < big) (e : syncP p y = (v, q, z)) : Calls Tryz.prog 23 #[.pointer (some ⟨g, 0, none⟩)] w (ResY d mp g w es (.int .i64 v) q z) := by
 have := lsync_any h h1
 rw [e] at this; exact this
end
end Plk
end Go.Proofs.YtafeealbdpmdkaaGreatDoor

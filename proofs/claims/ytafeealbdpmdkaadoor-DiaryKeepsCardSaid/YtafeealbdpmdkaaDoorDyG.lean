/- The power goes in a rewrite. -/
import Derived.Test.YtafeealbdpmdkaaDoorDyF
set_option linter.unusedSimpArgs false
set_option linter.unusedVariables false
set_option linter.unusedSectionVars false
namespace Go.Proofs.YtafeealbdpmdkaaDoor
open Go Go.RowKit
namespace Plk
open Slp (S good frame body frames allP Row)
/-- the power goes at the j-th operation -/
structure Armed (s : H) (j : Nat) : Prop where
  pos : 1 ≤ j
  off : s.off = false
  ak : s.ak = 2
  af : s.af = s.ops + j
  al : s.al = s.ops + j
theorem Armed.more {s : H} {j : Nat} (h : Armed s j) (n : Int) : Armed (s.more n) j := ⟨h.pos, h.off, h.ak, h.af, h.al⟩
theorem Armed.cases {s : H} {j : Nat} (h : Armed s j) : Bad s 12 s.dead ∨ ∃ i, Free s ∧ Armed s.tick i := by
  obtain ⟨h0, h1, h2, h3, h4⟩ := h
  by_cases hj : j = 1
  · subst hj
    exact .inl (bad_power h1 h2 h3 h4)
  · obtain ⟨i, rfl⟩ : ∃ i, j = i + 1 := ⟨j - 1, by omega⟩
    refine .inr ⟨i, ⟨h1, .inr (.inl ?_)⟩, by omega, h1, h2, ?_, ?_⟩
    · rw [h3]; omega
    · show s.af = s.ops + 1 + (i : Int)
      rw [h3]; omega
    · show s.al = s.ops + 1 + (i : Int)
      rw [h4]; omega
theorem armed_arm {s : H} {R u o : Int} (h : Calm s R u o) (k : Nat) (h1 : 1 ≤ k) (h2 : k ≤ 1000) : Armed (s.arm k 2 0) k := by
  have e : s.arm k 2 0 = { s with ak := 2, af := s.ops + k, al := s.ops + k } := by
    unfold H.arm
    rw [if_neg (by omega), show min (max (0 : Int) 0) 1099511627776 = 0 by decide]
    simp
  rw [e]
  exact ⟨h1, h.off, rfl, rfl, rfl⟩
/-- what was there is there, safe -/
def Old (l : List UInt8) (fs : List F) : Prop := fs = d1 l l.length ∨ ∃ m j, j ≤ m.length ∧ fs = d2 l l.length m j
def RewOut (l : List UInt8) (R o : Int) (y : Y) (xs : List S) (r : Int × P × Y) : Prop :=
  (r.1 = 12 ∧ r.2.2 = y ∧ Old l r.2.1.fs ∧ r.2.1.h.room = R ∧ r.2.1.h.ops ≤ o) ∨
  (∃ s', r = (0, ⟨d1 (frames xs) (frames xs).length, s'⟩, ⟨(xs.length : Int), (xs.length : Int), ((frames xs).length : Int), false⟩) ∧ s'.room = R ∧ s'.ops ≤ o)
theorem power_rew {s : H} {R u o : Int} {k : Nat} (ha : Armed s k) (hR : s.room = R) (hu : s.used = u) (ho : s.ops ≤ o) (l : List UInt8) (y : Y) (xs : List S) (hg : allGood xs = true) (hr : ((frames xs).length : Int) ≤ R - u) :
    RewOut l R (o + 5) y xs (rewP ⟨d1 l l.length, s⟩ y xs) := by
  have bad : ∀ {p q : P}, P.replace ⟨d1 l l.length, s⟩ (frames xs) = (12, q) → Old l q.fs → q.h.room = R → q.h.ops ≤ o + 5 → RewOut l R (o + 5) y xs (rewP ⟨d1 l l.length, s⟩ y xs) := fun {p q} e h1 h2 h3 => by
    rw [rew_err hg e (by decide)]
    exact .inl ⟨rfl, rfl, h1, h2, h3⟩
  have fine : ∀ {s'}, P.replace ⟨d1 l l.length, s⟩ (frames xs) = (0, ⟨d1 (frames xs) (frames xs).length, s'⟩) → s'.room = R → s'.ops ≤ o + 5 → RewOut l R (o + 5) y xs (rewP ⟨d1 l l.length, s⟩ y xs) := fun {s'} e h1 h2 => by
    refine .inr ⟨s', ?_, h1, h2⟩
    unfold rewP
    rw [if_neg (by rw [hg]; decide), e, if_neg (fun h => h rfl)]
  generalize frames xs = t at *
  have h0 : ∀ f : P → Int × P, pthen (P.sweep ⟨d1 l l.length, s⟩) f = f ⟨d1 l l.length, s⟩ := fun f => pthen_ok (sweep_d1 l _ s)
  rcases ha.cases with hb | ⟨k1, f1, a1⟩
  · refine bad (p := ⟨[], s⟩) (q := ⟨d1 l l.length, s.dead⟩) ?_ (.inl rfl) hR (by show s.ops + 1 ≤ _; omega)
    unfold P.replace
    rw [h0, pthen_err (hb.create _ nameN) (by decide)]
  · have h1 : ∀ f : P → Int × P, pthen (P.create ⟨d1 l l.length, s⟩ nN) f = f ⟨d2 l l.length [] 0, s.tick⟩ := fun f => pthen_ok (create_d1 f1 l _)
    -- behind the bytes: s2
    have tail : ∀ (s2 : H) (k2 : Nat), Armed s2 k2 → s2.room = R → s2.ops ≤ o + 2 → (∀ f : P → Int × P, pthen (P.put ⟨d2 l l.length [] 0, s.tick⟩ t) f = f ⟨d2 l l.length t 0, s2⟩) → RewOut l R (o + 5) y xs (rewP ⟨d1 l l.length, s⟩ y xs) := by
      intro s2 k2 a2 r2 o2 h2
      rcases a2.cases with hb | ⟨k3, f3, a3⟩
      · refine bad (p := ⟨[], s⟩) (q := ⟨d2 l l.length t 0, s2.dead⟩) ?_ (.inr ⟨t, 0, Nat.zero_le _, rfl⟩) r2 (by show s2.ops + 1 ≤ _; omega)
        unfold P.replace
        rw [h0, h1, h2, pthen_err (hb.sync _ nameN) (by decide)]
      · have h3 : ∀ f : P → Int × P, pthen (P.sync ⟨d2 l l.length t 0, s2⟩ nN) f = f ⟨d2 l l.length t t.length, s2.tick⟩ := fun f => pthen_ok (sync_d2 f3 l t _ 0)
        rcases a3.cases with hb | ⟨k4, f4, a4⟩
        · refine bad (p := ⟨[], s⟩) (q := ⟨d2 l l.length t t.length, s2.tick.dead⟩) ?_ (.inr ⟨t, t.length, Nat.le_refl _, rfl⟩) r2 (by show s2.ops + 1 + 1 ≤ _; omega)
          unfold P.replace
          rw [h0, h1, h2, h3, hb.rename]
        · refine fine (s' := s2.tick.tick.more (-(l.length : Int))) ?_ r2 (by show s2.ops + 1 + 1 ≤ _; omega)
          unfold P.replace
          rw [h0, h1, h2, h3, rename_d2 f4]
    by_cases ht : t = []
    · subst ht
      refine tail s.tick k1 a1 hR (by show s.ops + 1 ≤ _; omega) fun f => pthen_ok ?_
      unfold P.put
      rw [if_pos rfl]
    · rcases a1.cases with hb | ⟨k2, f2, a2⟩
      · refine bad (p := ⟨[], s⟩) (q := ⟨d2 l l.length [] 0, s.tick.dead⟩) ?_ (.inr ⟨[], 0, Nat.le_refl _, rfl⟩) hR (by show s.ops + 1 + 1 ≤ _; omega)
        unfold P.replace
        rw [h0, h1, pthen_err (show P.put _ t = (12, ⟨d2 l l.length [] 0, s.tick.dead⟩) from ?_) (by decide)]
        unfold P.put
        rw [if_neg ht, hb.append _ nameN]
      · refine tail (s.tick.tick.more t.length) k2 (a2.more _) hR (by show s.ops + 1 + 1 ≤ _; omega) fun f => pthen_ok ?_
        unfold P.put
        rw [if_neg ht, append_d2 f2 l [] t _ 0 (by show (t.length : Int) ≤ s.room - s.used; omega)]
        rfl
/-- behind the power: what was there is read -/
theorem old_load {l : List UInt8} {fs : List F} (h : Old l fs) {s : H} {R o : Int} (hR : s.room = R) (ho : s.ops ≤ o) (ks : List Int) :
    ∃ s' u, P.load (P.on ⟨fs, { s with off := true, ak := 0, af := 0, al := 0 }⟩ ks) = (l, 0, ⟨d1 l l.length, s'⟩) ∧ Calm s' R u (o + 3) := by
  rcases h with rfl | ⟨m, j, hj, rfl⟩
  · have e : P.on ⟨d1 l l.length, { s with off := true, ak := 0, af := 0, al := 0 }⟩ ks = ⟨d1 l l.length, { s with off := false, ak := 0, af := 0, al := 0, used := (sum (d1 l l.length) : Int) }⟩ := by
      unfold P.on d1 onL
      rw [if_pos rfl, if_pos rfl]
      rfl
    rw [e]
    obtain ⟨s', h1, h2⟩ := load1 (calm_on hR ho _) l l.length
    exact ⟨s', _, h1, h2.le rfl (by omega)⟩
  · obtain ⟨m', j', e⟩ : ∃ m' j', P.on ⟨d2 l l.length m j, { s with off := true, ak := 0, af := 0, al := 0 }⟩ ks = ⟨d2 l l.length m' j', { s with off := false, ak := 0, af := 0, al := 0, used := (sum (d2 l l.length m' j') : Int) }⟩ := by
      unfold P.on d2 onL
      rw [if_pos rfl, if_pos rfl]
      unfold onL
      by_cases hs : j = m.length
      · refine ⟨m, j, ?_⟩
        rw [if_pos hs]
        rfl
      · rw [if_neg hs]
        exact ⟨_, _, rfl⟩
    rw [e]
    obtain ⟨s', h1, h2⟩ := load2 (calm_on hR ho _) l m' l.length j'
    exact ⟨s', _, h1, h2⟩
end Plk
end Go.Proofs.YtafeealbdpmdkaaDoor

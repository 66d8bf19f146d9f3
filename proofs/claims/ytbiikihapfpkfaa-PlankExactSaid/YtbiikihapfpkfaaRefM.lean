/- The document's disk beside the plain one: Lay. -/
import Derived.Test.YtbiikihapfpkfaaRefK
set_option linter.unusedSimpArgs false
set_option linter.unusedVariables false
set_option linter.unusedSectionVars false
namespace Go.Proofs.Ytbiikihapfpkfaa
open Go Go.RowKit
namespace Rk
open Plk (F P H isName sum)
set_option maxRecDepth 100000 in
set_option maxHeartbeats 1000000 in
theorem lay_ref {w : World} {b : Nat} {v : Value} {r : R} {p : P} (h : Both w b v r p) (n t : List UInt8) (ht : t.length ≤ 4294967296) :
    Calls Try.prog 40 #[.pointer (some ⟨b, 0, none⟩), .string ⟨n.toArray⟩, .string ⟨t.toArray⟩] w (RP b w v (.int .i64 (p.lay n t).1) (p.lay n t).2) := by
  have hR := h.rd
  have hS := h.sim
  obtain ⟨A, cap, hv⟩ := h.rd.row.len
  rw [h.sim.l] at hv
  subst hv
  have hu := h.good.up
  have hcn := h.good.cnt
  have hus := h.good.used
  have hro := h.good.room
  have hgood := Lib.hid h.good
  obtain ⟨fs, s⟩ := p
  dsimp only at *
  generalize hres : P.lay ⟨fs, s⟩ n t = res
  unfold P.lay at hres
  have hrk := Lib.hid hres
  clear hres h
  have z1 := bz n
  have z2 := bz t
  have hsm : sum fs ≤ 4194304 := by omega
  have hu0 : 0 ≤ s.used := by omega
  have HUS := Lib.hid hus
  have HL := Lib.hid hS.l
  have HSM := Lib.hid hsm
  obtain ⟨hr1, hr2⟩ := hro
  have hpl := Both.placed hR hS.l hcn n
  have HC0 : Hid (∀ w', Reg.Ext w w' → w'.cell? ⟨b, 0, none⟩ = some (.slice A fs.length cap)) := Lib.hid fun w' hx => (hR.ext hx).c.1
  have HC1 : Hid (∀ w', Reg.Ext w w' → w'.cell? ⟨b, 1, none⟩ = some (.int .i64 s.room)) := Lib.hid fun w' hx => by
    have := (hR.ext hx).c.2.1
    rw [hS.room] at this
    exact this
  have HU : Hid (∀ w', Reg.Ext w w' → Calls Try.prog 41 #[.pointer (some ⟨b, 0, none⟩)] w' fun e w3 => e = .returned (.int .i64 s.used) ∧ w3 = w') := Lib.hid fun w' hx => by
    have := used_any w' b _ r (hR.ext hx) (by rw [HL.out]; exact hcn) (by rw [HL.out]; exact hsm)
    rw [HL.out, ← HUS.out] at this
    exact this
  clear hus hsm
  by_cases hn1 : n.length < 1
  · have hrs := hrk.out
    rw [if_pos ((isN n).2 (.inl hn1))] at hrs
    subst hrs
    go_enter Try.func40, Try.ntmps40
    go_wp2_with fail
    go_ret
    exact ⟨rfl, _, r, hR, hS, But.refl _ _, Newer.refl _ _⟩
  by_cases hn2 : 80 < n.length
  · have hrs := hrk.out
    rw [if_pos ((isN n).2 (.inr hn2))] at hrs
    subst hrs
    go_enter Try.func40, Try.ntmps40
    go_wp2_with fail
    go_ret
    exact ⟨rfl, _, r, hR, hS, But.refl _ _, Newer.refl _ _⟩
  have hnm : ¬ isName n = false := fun e => by rcases (isN n).1 e with h | h <;> omega
  have hrs0 := hrk.out
  rw [if_neg hnm] at hrs0
  clear hrk hnm
  rcases place_get hu n with ⟨hg, hpv⟩ | ⟨k, f, hk, hf, hg, hpv, hd, hx⟩
  · rw [hg] at hrs0
    dsimp only at hrs0
    rw [hpv] at hpl
    by_cases hc2 : 200 ≤ fs.length
    · rw [if_pos (.inl hc2)] at hrs0
      subst hrs0
      have hq2 : decide ((200 : Int) ≤ (fs.length : Int)) = true := decide_eq_true (by omega)
      clear hpv hg hu
      go_enter Try.func40, Try.ntmps40
      go_wp2_with (go_at_call 50; refine hpl.mono ?_; rintro e w2 ⟨rfl, e2⟩; subst e2)
      have d1 : decide ((n.length : Int) < 1) = false := decide_eq_false (by omega)
      have d2 : decide (80 < (n.length : Int)) = false := decide_eq_false (by omega)
      simp only [d1, d2, Bool.or_false]
      clear d1 d2
      apply Reg.wp_tab Reg.Ext (by kernel_rfl) (by kernel_rfl) Reg.Ext.refl (fun _ _ _ => Reg.Ext.trans) (Reg.Ext.drew _)
      case' h =>
        intro O
        repeat (first
          | (apply Reg.TW.move_ Reg.Ext.refl _ rfl rfl
             · simp only [Act.put, Act.eval, List.setIfInBounds_toArray, List.set_cons_zero, List.set_cons_succ, Nat.reduceAdd, Array.getD_eq_getD_getElem?, List.getElem?_toArray, List.getElem?_cons_succ, List.getElem?_cons_zero, Option.getD_some]
               rfl)
          | (apply Reg.TW.assign_ Reg.Ext.refl _ rfl rfl
             · simp only [Act.put, Act.eval, List.setIfInBounds_toArray, List.set_cons_zero, List.set_cons_succ, Nat.reduceAdd, Array.getD_eq_getD_getElem?, List.getElem?_toArray, List.getElem?_cons_succ, List.getElem?_cons_zero, Option.getD_some]
               rfl)
          | (apply Reg.TW.skip_ rfl
             · simp only [Act.put, Act.eval, List.setIfInBounds_toArray, List.set_cons_zero, List.set_cons_succ, Nat.reduceAdd, Array.getD_eq_getD_getElem?, List.getElem?_toArray, List.getElem?_cons_succ, List.getElem?_cons_zero, Option.getD_some]
               rfl)
          | (apply Reg.TW.pure_ rfl
             · intro w1 hw1 hf K hK
               simp only [Act.put, List.setIfInBounds_toArray, List.set_cons_zero, List.set_cons_succ] at hK
               have HK := Lib.hid hK
               clear hf hK
               have c0 := HC0.out _ hw1; have c1 := HC1.out _ hw1
               unfold Reg.One; dsimp only
               go_wp2_with fail
               exact HK.out _ (Reg.Ext.refl _)
             · simp only [Act.put, Act.eval, List.setIfInBounds_toArray, List.set_cons_zero, List.set_cons_succ, Nat.reduceAdd, Array.getD_eq_getD_getElem?, List.getElem?_toArray, List.getElem?_cons_succ, List.getElem?_cons_zero, Option.getD_some]
               rfl))
        refine Reg.TW.nil_ ?_
        intro wa hwa _
        go_wp2_with fail
        go_ret
        exact ⟨rfl, _, r, hR.ext hwa, hS, But.of_ext hwa, Newer.refl _ _⟩
      all_goals rfl
    · have hc3 : fs.length < 200 := by omega
      have hq2 : decide ((200 : Int) ≤ (fs.length : Int)) = false := decide_eq_false (by omega)
      have hnn := Nmd.get_none hg
      have HNN := Lib.hid hnn
      by_cases hf : s.room - s.used < t.length
      · rw [if_pos (.inr hf)] at hrs0
        subst hrs0
        have hq : decide (s.room - s.used < (t.length : Int)) = true := decide_eq_true hf
        clear hf hc2 hpv hg hu hnn
        go_enter Try.func40, Try.ntmps40
        go_wp2_with (go_at_call 50; refine hpl.mono ?_; rintro e w2 ⟨rfl, e2⟩; subst e2)
        have d1 : decide ((n.length : Int) < 1) = false := decide_eq_false (by omega)
        have d2 : decide (80 < (n.length : Int)) = false := decide_eq_false (by omega)
        simp only [d1, d2, Bool.or_false]
        clear d1 d2
        apply Reg.wp_tab Reg.Ext (by kernel_rfl) (by kernel_rfl) Reg.Ext.refl (fun _ _ _ => Reg.Ext.trans) (Reg.Ext.drew _)
        case' h =>
          intro O
          repeat (first
            | (apply Reg.TW.move_ Reg.Ext.refl _ rfl rfl
               · simp only [Act.put, Act.eval, List.setIfInBounds_toArray, List.set_cons_zero, List.set_cons_succ, Nat.reduceAdd, Array.getD_eq_getD_getElem?, List.getElem?_toArray, List.getElem?_cons_succ, List.getElem?_cons_zero, Option.getD_some]
                 rfl)
            | (apply Reg.TW.assign_ Reg.Ext.refl _ rfl rfl
               · simp only [Act.put, Act.eval, List.setIfInBounds_toArray, List.set_cons_zero, List.set_cons_succ, Nat.reduceAdd, Array.getD_eq_getD_getElem?, List.getElem?_toArray, List.getElem?_cons_succ, List.getElem?_cons_zero, Option.getD_some]
                 rfl)
            | (apply Reg.TW.skip_ rfl
               · simp only [Act.put, Act.eval, List.setIfInBounds_toArray, List.set_cons_zero, List.set_cons_succ, Nat.reduceAdd, Array.getD_eq_getD_getElem?, List.getElem?_toArray, List.getElem?_cons_succ, List.getElem?_cons_zero, Option.getD_some]
                 rfl)
            | (apply Reg.TW.pure_ rfl
               · intro w1 hw1 hf K hK
                 simp only [Act.put, List.setIfInBounds_toArray, List.set_cons_zero, List.set_cons_succ] at hK
                 have HK := Lib.hid hK
                 clear hf hK
                 have c0 := HC0.out _ hw1; have c1 := HC1.out _ hw1
                 unfold Reg.One; dsimp only
                 go_wp2_with fail
                 exact HK.out _ (Reg.Ext.refl _)
               · simp only [Act.put, Act.eval, List.setIfInBounds_toArray, List.set_cons_zero, List.set_cons_succ, Nat.reduceAdd, Array.getD_eq_getD_getElem?, List.getElem?_toArray, List.getElem?_cons_succ, List.getElem?_cons_zero, Option.getD_some]
                 rfl))
          apply Reg.TW.call_ (c := .int .i64 s.used) (fun _ => True) rfl (fun _ _ _ h => h)
          · intro w1 hw1 hf K hK
            simp only [Act.put, List.setIfInBounds_toArray, List.set_cons_zero, List.set_cons_succ] at hK
            have HK := Lib.hid hK
            clear hK
            unfold Reg.One; dsimp only
            go_wp2_with fail
            refine (HU.out _ hw1).mono ?_
            rintro e w' ⟨rfl, rfl⟩
            go_wp2_with fail
            exact HK.out _ (Reg.Ext.refl _) trivial
          · simp only [Act.put, Act.eval, List.setIfInBounds_toArray, List.set_cons_zero, List.set_cons_succ, Nat.reduceAdd, Array.getD_eq_getD_getElem?, List.getElem?_toArray, List.getElem?_cons_succ, List.getElem?_cons_zero, Option.getD_some]
            rfl
          repeat (first
            | (apply Reg.TW.move_ Reg.Ext.refl _ rfl rfl
               · simp only [Act.put, Act.eval, List.setIfInBounds_toArray, List.set_cons_zero, List.set_cons_succ, Nat.reduceAdd, Array.getD_eq_getD_getElem?, List.getElem?_toArray, List.getElem?_cons_succ, List.getElem?_cons_zero, Option.getD_some]
                 rfl)
            | (apply Reg.TW.assign_ Reg.Ext.refl _ rfl rfl
               · simp only [Act.put, Act.eval, List.setIfInBounds_toArray, List.set_cons_zero, List.set_cons_succ, Nat.reduceAdd, Array.getD_eq_getD_getElem?, List.getElem?_toArray, List.getElem?_cons_succ, List.getElem?_cons_zero, Option.getD_some]
                 rfl)
            | (apply Reg.TW.skip_ rfl
               · simp only [Act.put, Act.eval, List.setIfInBounds_toArray, List.set_cons_zero, List.set_cons_succ, Nat.reduceAdd, Array.getD_eq_getD_getElem?, List.getElem?_toArray, List.getElem?_cons_succ, List.getElem?_cons_zero, Option.getD_some]
                 rfl)
            | (apply Reg.TW.pure_ rfl
               · intro w1 hw1 hf K hK
                 simp only [Act.put, List.setIfInBounds_toArray, List.set_cons_zero, List.set_cons_succ] at hK
                 have HK := Lib.hid hK
                 clear hf hK
                 have c0 := HC0.out _ hw1; have c1 := HC1.out _ hw1
                 unfold Reg.One; dsimp only
                 go_wp2_with fail
                 exact HK.out _ (Reg.Ext.refl _)
               · simp only [Act.put, Act.eval, List.setIfInBounds_toArray, List.set_cons_zero, List.set_cons_succ, Nat.reduceAdd, Array.getD_eq_getD_getElem?, List.getElem?_toArray, List.getElem?_cons_succ, List.getElem?_cons_zero, Option.getD_some]
                 rfl))
          refine Reg.TW.nil_ ?_
          intro wa hwa _
          go_wp2_with fail
          go_ret
          exact ⟨rfl, _, r, hR.ext hwa, hS, But.of_ext hwa, Newer.refl _ _⟩
        all_goals rfl
      · rw [if_neg (by omega)] at hrs0
        subst hrs0
        have hq : decide (s.room - s.used < (t.length : Int)) = false := decide_eq_false hf
        clear hf hc2 hpv hg hu hnn
        go_enter Try.func40, Try.ntmps40
        go_wp2_with (go_at_call 50; refine hpl.mono ?_; rintro e w2 ⟨rfl, e2⟩; subst e2)
        have d1 : decide ((n.length : Int) < 1) = false := decide_eq_false (by omega)
        have d2 : decide (80 < (n.length : Int)) = false := decide_eq_false (by omega)
        simp only [d1, d2, Bool.or_false]
        clear d1 d2
        apply Reg.wp_tab Reg.Ext (by kernel_rfl) (by kernel_rfl) Reg.Ext.refl (fun _ _ _ => Reg.Ext.trans) (Reg.Ext.drew _)
        case' h =>
          intro O
          repeat (first
            | (apply Reg.TW.move_ Reg.Ext.refl _ rfl rfl
               · simp only [Act.put, Act.eval, List.setIfInBounds_toArray, List.set_cons_zero, List.set_cons_succ, Nat.reduceAdd, Array.getD_eq_getD_getElem?, List.getElem?_toArray, List.getElem?_cons_succ, List.getElem?_cons_zero, Option.getD_some]
                 rfl)
            | (apply Reg.TW.assign_ Reg.Ext.refl _ rfl rfl
               · simp only [Act.put, Act.eval, List.setIfInBounds_toArray, List.set_cons_zero, List.set_cons_succ, Nat.reduceAdd, Array.getD_eq_getD_getElem?, List.getElem?_toArray, List.getElem?_cons_succ, List.getElem?_cons_zero, Option.getD_some]
                 rfl)
            | (apply Reg.TW.skip_ rfl
               · simp only [Act.put, Act.eval, List.setIfInBounds_toArray, List.set_cons_zero, List.set_cons_succ, Nat.reduceAdd, Array.getD_eq_getD_getElem?, List.getElem?_toArray, List.getElem?_cons_succ, List.getElem?_cons_zero, Option.getD_some]
                 rfl)
            | (apply Reg.TW.pure_ rfl
               · intro w1 hw1 hf K hK
                 simp only [Act.put, List.setIfInBounds_toArray, List.set_cons_zero, List.set_cons_succ] at hK
                 have HK := Lib.hid hK
                 clear hf hK
                 have c0 := HC0.out _ hw1; have c1 := HC1.out _ hw1
                 unfold Reg.One; dsimp only
                 go_wp2_with fail
                 exact HK.out _ (Reg.Ext.refl _)
               · simp only [Act.put, Act.eval, List.setIfInBounds_toArray, List.set_cons_zero, List.set_cons_succ, Nat.reduceAdd, Array.getD_eq_getD_getElem?, List.getElem?_toArray, List.getElem?_cons_succ, List.getElem?_cons_zero, Option.getD_some]
                 rfl))
          apply Reg.TW.call_ (c := .int .i64 s.used) (fun _ => True) rfl (fun _ _ _ h => h)
          · intro w1 hw1 hf K hK
            simp only [Act.put, List.setIfInBounds_toArray, List.set_cons_zero, List.set_cons_succ] at hK
            have HK := Lib.hid hK
            clear hK
            unfold Reg.One; dsimp only
            go_wp2_with fail
            refine (HU.out _ hw1).mono ?_
            rintro e w' ⟨rfl, rfl⟩
            go_wp2_with fail
            exact HK.out _ (Reg.Ext.refl _) trivial
          · simp only [Act.put, Act.eval, List.setIfInBounds_toArray, List.set_cons_zero, List.set_cons_succ, Nat.reduceAdd, Array.getD_eq_getD_getElem?, List.getElem?_toArray, List.getElem?_cons_succ, List.getElem?_cons_zero, Option.getD_some]
            rfl
          repeat (first
            | (apply Reg.TW.move_ Reg.Ext.refl _ rfl rfl
               · simp only [Act.put, Act.eval, List.setIfInBounds_toArray, List.set_cons_zero, List.set_cons_succ, Nat.reduceAdd, Array.getD_eq_getD_getElem?, List.getElem?_toArray, List.getElem?_cons_succ, List.getElem?_cons_zero, Option.getD_some]
                 rfl)
            | (apply Reg.TW.assign_ Reg.Ext.refl _ rfl rfl
               · simp only [Act.put, Act.eval, List.setIfInBounds_toArray, List.set_cons_zero, List.set_cons_succ, Nat.reduceAdd, Array.getD_eq_getD_getElem?, List.getElem?_toArray, List.getElem?_cons_succ, List.getElem?_cons_zero, Option.getD_some]
                 rfl)
            | (apply Reg.TW.skip_ rfl
               · simp only [Act.put, Act.eval, List.setIfInBounds_toArray, List.set_cons_zero, List.set_cons_succ, Nat.reduceAdd, Array.getD_eq_getD_getElem?, List.getElem?_toArray, List.getElem?_cons_succ, List.getElem?_cons_zero, Option.getD_some]
                 rfl)
            | (apply Reg.TW.pure_ rfl
               · intro w1 hw1 hf K hK
                 simp only [Act.put, List.setIfInBounds_toArray, List.set_cons_zero, List.set_cons_succ] at hK
                 have HK := Lib.hid hK
                 clear hf hK
                 have c0 := HC0.out _ hw1; have c1 := HC1.out _ hw1
                 unfold Reg.One; dsimp only
                 go_wp2_with fail
                 exact HK.out _ (Reg.Ext.refl _)
               · simp only [Act.put, Act.eval, List.setIfInBounds_toArray, List.set_cons_zero, List.set_cons_succ, Nat.reduceAdd, Array.getD_eq_getD_getElem?, List.getElem?_toArray, List.getElem?_cons_succ, List.getElem?_cons_zero, Option.getD_some]
                 rfl))
          refine Reg.TW.nil_ ?_
          intro wa hwa _
          go_wp2_with (go_at_call 51; refine (put_any _ b _ _ (hR.ext hwa) ⟨n, t, t.length⟩ (by rw [HL.out]; exact HNN.out) (by rw [HL.out]; exact hcn)).mono ?_; rintro e wz ⟨rfl, vz, hRz, hBz, hNz⟩)
          go_ret
          refine ⟨rfl, vz, _, hRz, ?_, (But.of_ext hwa).trans hBz, (Newer.refl _ _).trans hNz hwa.size⟩
          rw [HL.out]
          exact hS.with_ _ _
        all_goals rfl
  · rw [hg] at hrs0
    dsimp only at hrs0
    rw [hpv] at hpl
    have hlf : f.l.length ≤ sum fs := Plk.len_sum (show f ∈ fs by rw [← hf]; exact List.getElem_mem hk)
    have hlu : (f.l.length : Int) ≤ s.used := by rw [HUS.out]; omega
    have hll : f.l.length ≤ 4194304 := by have := HSM.out; omega
    clear hlf
    have z3 := bz f.l
    have hrow : LV w (.slice A fs.length cap) fs := by
      have := hR.row
      rw [HL.out] at this
      exact this
    rcases hrow.form with ⟨_, h2⟩ | ⟨g, cap', h2, _, _, _⟩
    · rw [h2] at hk; exact absurd hk (Nat.not_lt_zero _)
    injection h2 with h2 h2b h3
    clear h2b
    subst h2 h3
    have k1 := hrow.at_ k hk 1 (by omega)
    rw [hf] at k1
    dsimp only [fcs, List.getElem?_cons_zero, List.getElem?_cons_succ] at k1
    have c0 := hR.c.1
    have HD := Lib.hid hd
    have hndel : ∀ y ∈ Nmd.del F.name n fs, y.name ≠ n := fun y hy => (Nmd.mem_del.1 hy).2
    have HND := Lib.hid hndel
    clear hndel hd hx hpv hg hu
    have hdk : decide ((k : Int) < 0) = false := decide_eq_false (by omega)
    have hdk2 : decide (0 ≤ (k : Int)) = true := decide_eq_true (by omega)
    by_cases hfu : s.room - s.used + f.l.length < t.length
    · rw [if_pos hfu] at hrs0
      subst hrs0
      have hq : decide (s.room - s.used + (f.l.length : Int) < (t.length : Int)) = true := decide_eq_true hfu
      clear hfu
      go_enter Try.func40, Try.ntmps40
      go_wp2_with (go_at_call 50; refine hpl.mono ?_; rintro e w2 ⟨rfl, e2⟩; subst e2)
      have d1 : decide ((n.length : Int) < 1) = false := decide_eq_false (by omega)
      have d2 : decide (80 < (n.length : Int)) = false := decide_eq_false (by omega)
      simp only [d1, d2, Bool.or_false]
      clear d1 d2
      try simp only [hdk, hdk2]
      apply Reg.wp_tab Reg.Ext (by kernel_rfl) (by kernel_rfl) Reg.Ext.refl (fun _ _ _ => Reg.Ext.trans) (Reg.Ext.drew _)
      case' h =>
        intro O
        repeat (first
          | (apply Reg.TW.move_ Reg.Ext.refl _ rfl rfl
             · simp only [Act.put, Act.eval, List.setIfInBounds_toArray, List.set_cons_zero, List.set_cons_succ, Nat.reduceAdd, Array.getD_eq_getD_getElem?, List.getElem?_toArray, List.getElem?_cons_succ, List.getElem?_cons_zero, Option.getD_some]
               rfl)
          | (apply Reg.TW.assign_ Reg.Ext.refl _ rfl rfl
             · simp only [Act.put, Act.eval, List.setIfInBounds_toArray, List.set_cons_zero, List.set_cons_succ, Nat.reduceAdd, Array.getD_eq_getD_getElem?, List.getElem?_toArray, List.getElem?_cons_succ, List.getElem?_cons_zero, Option.getD_some]
               rfl)
          | (apply Reg.TW.skip_ rfl
             · simp only [Act.put, Act.eval, List.setIfInBounds_toArray, List.set_cons_zero, List.set_cons_succ, Nat.reduceAdd, Array.getD_eq_getD_getElem?, List.getElem?_toArray, List.getElem?_cons_succ, List.getElem?_cons_zero, Option.getD_some]
               rfl)
          | (apply Reg.TW.pure_ rfl
             · intro w1 hw1 hf K hK
               simp only [Act.put, List.setIfInBounds_toArray, List.set_cons_zero, List.set_cons_succ] at hK
               have HK := Lib.hid hK
               clear hf hK
               have c0 := HC0.out _ hw1; have c1 := HC1.out _ hw1
               unfold Reg.One; dsimp only
               go_wp2_with fail
               exact HK.out _ (Reg.Ext.refl _)
             · simp only [Act.put, Act.eval, List.setIfInBounds_toArray, List.set_cons_zero, List.set_cons_succ, Nat.reduceAdd, Array.getD_eq_getD_getElem?, List.getElem?_toArray, List.getElem?_cons_succ, List.getElem?_cons_zero, Option.getD_some]
               rfl))
        apply Reg.TW.call_ (c := .int .i64 s.used) (fun _ => True) rfl (fun _ _ _ h => h)
        · intro w1 hw1 hf K hK
          simp only [Act.put, List.setIfInBounds_toArray, List.set_cons_zero, List.set_cons_succ] at hK
          have HK := Lib.hid hK
          clear hK
          unfold Reg.One; dsimp only
          go_wp2_with fail
          refine (HU.out _ hw1).mono ?_
          rintro e w' ⟨rfl, rfl⟩
          go_wp2_with fail
          exact HK.out _ (Reg.Ext.refl _) trivial
        · simp only [Act.put, Act.eval, List.setIfInBounds_toArray, List.set_cons_zero, List.set_cons_succ, Nat.reduceAdd, Array.getD_eq_getD_getElem?, List.getElem?_toArray, List.getElem?_cons_succ, List.getElem?_cons_zero, Option.getD_some]
          rfl
        repeat (first
          | (apply Reg.TW.move_ Reg.Ext.refl _ rfl rfl
             · simp only [Act.put, Act.eval, List.setIfInBounds_toArray, List.set_cons_zero, List.set_cons_succ, Nat.reduceAdd, Array.getD_eq_getD_getElem?, List.getElem?_toArray, List.getElem?_cons_succ, List.getElem?_cons_zero, Option.getD_some]
               rfl)
          | (apply Reg.TW.assign_ Reg.Ext.refl _ rfl rfl
             · simp only [Act.put, Act.eval, List.setIfInBounds_toArray, List.set_cons_zero, List.set_cons_succ, Nat.reduceAdd, Array.getD_eq_getD_getElem?, List.getElem?_toArray, List.getElem?_cons_succ, List.getElem?_cons_zero, Option.getD_some]
               rfl)
          | (apply Reg.TW.skip_ rfl
             · simp only [Act.put, Act.eval, List.setIfInBounds_toArray, List.set_cons_zero, List.set_cons_succ, Nat.reduceAdd, Array.getD_eq_getD_getElem?, List.getElem?_toArray, List.getElem?_cons_succ, List.getElem?_cons_zero, Option.getD_some]
               rfl)
          | (apply Reg.TW.pure_ rfl
             · intro w1 hw1 hf K hK
               simp only [Act.put, List.setIfInBounds_toArray, List.set_cons_zero, List.set_cons_succ] at hK
               have HK := Lib.hid hK
               clear hf hK
               have c0 := HC0.out _ hw1; have c1 := HC1.out _ hw1
               unfold Reg.One; dsimp only
               go_wp2_with fail
               exact HK.out _ (Reg.Ext.refl _)
             · simp only [Act.put, Act.eval, List.setIfInBounds_toArray, List.set_cons_zero, List.set_cons_succ, Nat.reduceAdd, Array.getD_eq_getD_getElem?, List.getElem?_toArray, List.getElem?_cons_succ, List.getElem?_cons_zero, Option.getD_some]
               rfl))
        refine Reg.TW.nil_ ?_
        intro wa hwa _
        go_wp2_with fail
        go_ret
        exact ⟨rfl, _, r, hR.ext hwa, hS, But.of_ext hwa, Newer.refl _ _⟩
      all_goals rfl
    · rw [if_neg hfu] at hrs0
      subst hrs0
      have hq : decide (s.room - s.used + (f.l.length : Int) < (t.length : Int)) = false := decide_eq_false hfu
      clear hfu
      go_enter Try.func40, Try.ntmps40
      go_wp2_with (go_at_call 50; refine hpl.mono ?_; rintro e w2 ⟨rfl, e2⟩; subst e2)
      have d1 : decide ((n.length : Int) < 1) = false := decide_eq_false (by omega)
      have d2 : decide (80 < (n.length : Int)) = false := decide_eq_false (by omega)
      simp only [d1, d2, Bool.or_false]
      clear d1 d2
      try simp only [hdk, hdk2]
      apply Reg.wp_tab Reg.Ext (by kernel_rfl) (by kernel_rfl) Reg.Ext.refl (fun _ _ _ => Reg.Ext.trans) (Reg.Ext.drew _)
      case' h =>
        intro O
        repeat (first
          | (apply Reg.TW.move_ Reg.Ext.refl _ rfl rfl
             · simp only [Act.put, Act.eval, List.setIfInBounds_toArray, List.set_cons_zero, List.set_cons_succ, Nat.reduceAdd, Array.getD_eq_getD_getElem?, List.getElem?_toArray, List.getElem?_cons_succ, List.getElem?_cons_zero, Option.getD_some]
               rfl)
          | (apply Reg.TW.assign_ Reg.Ext.refl _ rfl rfl
             · simp only [Act.put, Act.eval, List.setIfInBounds_toArray, List.set_cons_zero, List.set_cons_succ, Nat.reduceAdd, Array.getD_eq_getD_getElem?, List.getElem?_toArray, List.getElem?_cons_succ, List.getElem?_cons_zero, Option.getD_some]
               rfl)
          | (apply Reg.TW.skip_ rfl
             · simp only [Act.put, Act.eval, List.setIfInBounds_toArray, List.set_cons_zero, List.set_cons_succ, Nat.reduceAdd, Array.getD_eq_getD_getElem?, List.getElem?_toArray, List.getElem?_cons_succ, List.getElem?_cons_zero, Option.getD_some]
               rfl)
          | (apply Reg.TW.pure_ rfl
             · intro w1 hw1 hf K hK
               simp only [Act.put, List.setIfInBounds_toArray, List.set_cons_zero, List.set_cons_succ] at hK
               have HK := Lib.hid hK
               clear hf hK
               have c0 := HC0.out _ hw1; have c1 := HC1.out _ hw1
               unfold Reg.One; dsimp only
               go_wp2_with fail
               exact HK.out _ (Reg.Ext.refl _)
             · simp only [Act.put, Act.eval, List.setIfInBounds_toArray, List.set_cons_zero, List.set_cons_succ, Nat.reduceAdd, Array.getD_eq_getD_getElem?, List.getElem?_toArray, List.getElem?_cons_succ, List.getElem?_cons_zero, Option.getD_some]
               rfl))
        apply Reg.TW.call_ (c := .int .i64 s.used) (fun _ => True) rfl (fun _ _ _ h => h)
        · intro w1 hw1 hf K hK
          simp only [Act.put, List.setIfInBounds_toArray, List.set_cons_zero, List.set_cons_succ] at hK
          have HK := Lib.hid hK
          clear hK
          unfold Reg.One; dsimp only
          go_wp2_with fail
          refine (HU.out _ hw1).mono ?_
          rintro e w' ⟨rfl, rfl⟩
          go_wp2_with fail
          exact HK.out _ (Reg.Ext.refl _) trivial
        · simp only [Act.put, Act.eval, List.setIfInBounds_toArray, List.set_cons_zero, List.set_cons_succ, Nat.reduceAdd, Array.getD_eq_getD_getElem?, List.getElem?_toArray, List.getElem?_cons_succ, List.getElem?_cons_zero, Option.getD_some]
          rfl
        repeat (first
          | (apply Reg.TW.move_ Reg.Ext.refl _ rfl rfl
             · simp only [Act.put, Act.eval, List.setIfInBounds_toArray, List.set_cons_zero, List.set_cons_succ, Nat.reduceAdd, Array.getD_eq_getD_getElem?, List.getElem?_toArray, List.getElem?_cons_succ, List.getElem?_cons_zero, Option.getD_some]
               rfl)
          | (apply Reg.TW.assign_ Reg.Ext.refl _ rfl rfl
             · simp only [Act.put, Act.eval, List.setIfInBounds_toArray, List.set_cons_zero, List.set_cons_succ, Nat.reduceAdd, Array.getD_eq_getD_getElem?, List.getElem?_toArray, List.getElem?_cons_succ, List.getElem?_cons_zero, Option.getD_some]
               rfl)
          | (apply Reg.TW.skip_ rfl
             · simp only [Act.put, Act.eval, List.setIfInBounds_toArray, List.set_cons_zero, List.set_cons_succ, Nat.reduceAdd, Array.getD_eq_getD_getElem?, List.getElem?_toArray, List.getElem?_cons_succ, List.getElem?_cons_zero, Option.getD_some]
               rfl)
          | (apply Reg.TW.pure_ rfl
             · intro w1 hw1 hf K hK
               simp only [Act.put, List.setIfInBounds_toArray, List.set_cons_zero, List.set_cons_succ] at hK
               have HK := Lib.hid hK
               clear hf hK
               have c0 := HC0.out _ hw1; have c1 := HC1.out _ hw1
               unfold Reg.One; dsimp only
               go_wp2_with fail
               exact HK.out _ (Reg.Ext.refl _)
             · simp only [Act.put, Act.eval, List.setIfInBounds_toArray, List.set_cons_zero, List.set_cons_succ, Nat.reduceAdd, Array.getD_eq_getD_getElem?, List.getElem?_toArray, List.getElem?_cons_succ, List.getElem?_cons_zero, Option.getD_some]
               rfl))
        refine Reg.TW.nil_ ?_
        intro wa hwa _
        go_wp2_with (first
          | (go_at_call 51; refine (put_any _ b _ _ hR3 ⟨n, t, t.length⟩ (by rw [HL3.out]; exact HND.out) (by rw [HL3.out]; exact Nat.le_trans (List.length_filter_le _ _) hcn)).mono ?_; rintro e wz ⟨rfl, vz, hRz, hBz, hNz⟩)
          | (go_at_call 53; refine (drop_any _ b _ r (hR.ext hwa) k (by rw [HL.out]; exact hk) (by rw [HL.out]; exact hcn)).mono ?_; rintro e w3 ⟨rfl, v3, hR3, hB3, hN3⟩; have HL3 : Hid (({ r with l := r.l.take k ++ r.l.drop (k + 1) } : R).l = Nmd.del F.name n fs) := Lib.hid (by show r.l.take k ++ r.l.drop (k + 1) = _; rw [HL.out]; exact HD.out)))
        go_ret
        refine ⟨rfl, vz, _, hRz, ?_, ((But.of_ext hwa).trans hB3).trans hBz, ((Newer.refl _ _).trans hN3 hwa.size).trans hNz (Nat.le_trans hwa.size hB3.size)⟩
        rw [HL3.out]
        exact hS.with_ _ _
      all_goals rfl
end Rk
end Go.Proofs.Ytbiikihapfpkfaa

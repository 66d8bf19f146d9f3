/- The walks of sweep, load, replace. -/
import Derived.Test.YtafeealbdpmdkaaGreatDoorDyA
set_option linter.unusedSimpArgs false
set_option linter.unusedVariables false
set_option linter.unusedSectionVars false
open Go.Lib renaming hid → y_
-- squeezed
namespace Go.Proofs.YtafeealbdpmdkaaGreatDoor
open Go Go.RowKit
namespace Plk
section
variable {w : World} {d mp : Nat} {es : List E} {p q : P} {v : Int} {l : List UInt8}
theorem Dg.sizeD (h : Dg w d mp es p) {k : Int} (e : p.lenD = k) : Calls Tryz.prog 45 #[.pointer (some ⟨d, 0, none⟩), .string { data := #[100, 105, 97, 114, 121] }] w fun e w' => e = .returned (.int .i64 k) ∧ w' = w := by
 subst e; exact h.size nD lD
theorem Dg.sizeN (h : Dg w d mp es p) {k : Int} (e : p.lenN = k) : Calls Tryz.prog 45 #[.pointer (some ⟨d, 0, none⟩), .string { data := #[100, 105, 97, 114, 121, 46, 110, 101, 119] }] w fun e w' => e = .returned (.int .i64 k) ∧ w' = w := by
 subst e; exact h.size nN lN
theorem Dg.deleteN (h : Dg w d mp es p) (h1 : p.h.ops < big) (e : p.delete nN = (v, q)) : Calls Tryz.prog 86 #[.pointer (some ⟨d, 0, none⟩), .string { data := #[100, 105, 97, 114, 121, 46, 110, 101, 119] }] w (ResG d mp w es (.int .i64 v) q) := by
 have := h.delete nN h1; rw [e] at this; exact this
theorem Dg.createN (h : Dg w d mp es p) (h1 : p.h.ops < big) (e : p.create nN = (v, q)) : Calls Tryz.prog 62 #[.pointer (some ⟨d, 0, none⟩), .string { data := #[100, 105, 97, 114, 121, 46, 110, 101, 119] }] w (ResG d mp w es (.int .i64 v) q) := by
 have := h.create nN h1; rw [e] at this; exact this
theorem Dg.createD (h : Dg w d mp es p) (h1 : p.h.ops < big) (e : p.create nD = (v, q)) : Calls Tryz.prog 62 #[.pointer (some ⟨d, 0, none⟩), .string { data := #[100, 105, 97, 114, 121] }] w (ResG d mp w es (.int .i64 v) q) := by
 have := h.create nD h1; rw [e] at this; exact this
theorem Dg.syncN (h : Dg w d mp es p) (h1 : p.h.ops < big) (e : p.sync nN = (v, q)) : Calls Tryz.prog 55 #[.pointer (some ⟨d, 0, none⟩), .string { data := #[100, 105, 97, 114, 121, 46, 110, 101, 119] }] w (ResG d mp w es (.int .i64 v) q) := by
 have := h.sync nN h1; rw [e] at this; exact this
theorem Dg.syncD (h : Dg w d mp es p) (h1 : p.h.ops < big) (e : p.sync nD = (v, q)) : Calls Tryz.prog 55 #[.pointer (some ⟨d, 0, none⟩), .string { data := #[100, 105, 97, 114, 121] }] w (ResG d mp w es (.int .i64 v) q) := by
 have := h.sync nD h1; rw [e] at this; exact this
theorem Dg.readD (h : Dg w d mp es p) (h1 : p.h.ops < big) {k : Int} (e : p.read nD 0 k = (l, v, q)) : Calls Tryz.prog 63 #[.pointer (some ⟨d, 0, none⟩), .string { data := #[100, 105, 97, 114, 121] }, .int .i64 0, .int .i64 k] w (ResG d mp w es (.tuple #[str l, .int .i64 v]) q) := by
 have := h.read nD 0 k h1; rw [e] at this; exact this
theorem Dg.appendD (h : Dg w d mp es p) (h1 : p.h.ops < big) {t : List UInt8} (ht : t.length ≤ 4294967296) (e : p.append nD t = (v, q)) : Calls Tryz.prog 19 #[.pointer (some ⟨d, 0, none⟩), .string { data := #[100, 105, 97, 114, 121] }, .string ⟨t.toArray⟩] w (ResG d mp w es (.int .i64 v) q) := by
 have := h.append nD t h1 ht; rw [e] at this; exact this
theorem Dg.appendN (h : Dg w d mp es p) (h1 : p.h.ops < big) {t : List UInt8} (ht : t.length ≤ 4294967296) (e : p.append nN t = (v, q)) : Calls Tryz.prog 19 #[.pointer (some ⟨d, 0, none⟩), .string { data := #[100, 105, 97, 114, 121, 46, 110, 101, 119] }, .string ⟨t.toArray⟩] w (ResG d mp w es (.int .i64 v) q) := by
 have := h.append nN t h1 ht; rw [e] at this; exact this
theorem Dg.renameND (h : Dg w d mp es p) (h1 : p.h.ops < big) (e : p.rename nN nD = (v, q)) : Calls Tryz.prog 82 #[.pointer (some ⟨d, 0, none⟩), .string { data := #[100, 105, 97, 114, 121, 46, 110, 101, 119] }, .string { data := #[100, 105, 97, 114, 121] }] w (ResG d mp w es (.int .i64 v) q) := by
 have := h.rename nN nD h1; rw [e] at this; exact this
end
set_option maxHeartbeats 1000000 in
theorem sweep_any {w : World} {d mp : Nat} {es : List E} {p : P} (h : Dg w d mp es p) (h1 : p.h.ops < big) {v : Int} {q : P} (e : p.sweep = (v, q)) : Calls Tryz.prog 61 #[.pointer (some ⟨d, 0, none⟩)] w (ResG d mp w es (.int .i64 v) q) := by
 have H := y_ h
 unfold P.sweep at e
 obtain ⟨o, hg⟩ : ∃ o, Nmd.get F.name nN p.fs = o := ⟨_, rfl⟩
 rw [hg] at e
 clear h
 cases o with
 | none =>
   rw [if_neg (by decide)] at e
   injection e with e1 e2
   subst e1 e2
   have HG : Hid (p.lenN = -1) := y_ (by unfold P.lenN; rw [hg])
   clear hg
   go_enter Tryz.func61, Tryz.ntmps61
   go_wp2_with (go_at_call 45; refine (H.out.sizeN HG.out).mono ?_; rintro e _ ⟨rfl, rfl⟩)
   go_ret
   exact ⟨rfl, es, H.out, Turn.refl _ _ _ _⟩
 | some f =>
   rw [if_pos (by rfl)] at e
   have HG : Hid (p.lenN = (f.l.length : Int)) := y_ (by unfold P.lenN; rw [hg])
   clear hg
   have HE := y_ e
   have q0 : decide ((f.l.length : Int) < 0) = false := by rw [decide_eq_false_iff_not]; omega
   clear e
   have H1 := y_ h1
   clear h1
   go_enter Tryz.func61, Tryz.ntmps61
   go_wp2_with (first
    | (go_at_call 45; refine (H.out.sizeN HG.out).mono ?_; rintro e _ ⟨rfl, rfl⟩)
    | (go_at_call 86; refine (H.out.deleteN H1.out HE.out).mono ?_; rintro e w1 ⟨rfl, es1, h2, h3⟩))
   go_ret
   exact ⟨rfl, es1, h2, h3⟩
theorem pthen_err {a : Int × P} {f : P → Int × P} {e : Int} {p : P} (h : a = (e, p)) (he : e ≠ 0) : pthen a f = (e, p) := by
 subst h; unfold pthen; rw [if_pos he]
theorem pthen_ok {a : Int × P} {f : P → Int × P} {p : P} (h : a = (0, p)) : pthen a f = f p := by
 subst h; unfold pthen; rw [if_neg (fun h => h rfl)]
theorem ne_z {e : Int} (he : e ≠ 0) : (e == 0) = false := beq_eq_false_iff_ne.2 he
theorem ops_le {p q : P} {v : Int} {f : P → Int × P} (h : ∀ p, p.h.ops ≤ (f p).2.h.ops ∧ (f p).2.h.ops ≤ p.h.ops + 1) (e : f p = (v, q)) : q.h.ops ≤ p.h.ops + 1 := by
 have := (h p).2; rw [e] at this; exact this
set_option maxHeartbeats 2000000 in
theorem load_any {w : World} {d mp : Nat} {es : List E} {p : P} (h : Dg w d mp es p) (hb : p.h.ops + 4 < big) {l : List UInt8} {v : Int} {q : P} (hw : p.load = (l, v, q)) : Calls Tryz.prog 36 #[.pointer (some ⟨d, 0, none⟩)] w (ResG d mp w es (.tuple #[.string ⟨l.toArray⟩, .int .i64 v]) q) := by
 have H0 := y_ h
 have B0 : Hid (p.h.ops < big) := y_ (by unfold big at *; omega)
 obtain ⟨e1, p1, E1⟩ : ∃ e1 p1, Hid (p.sweep = (e1, p1)) := ⟨_, _, rfl⟩
 have O1 : Hid (p1.h.ops + 3 < big) := y_ (by have := ops_le ops_sweep E1.out; unfold big at *; omega)
 have B1 : Hid (p1.h.ops < big) := y_ (by have := O1.out; unfold big at *; omega)
 clear h hb
 by_cases he1 : e1 = 0
 ·subst he1
  obtain ⟨o, hg⟩ : ∃ o, Nmd.get F.name nD p1.fs = o := ⟨_, rfl⟩
  cases o with
  | some f =>
    obtain ⟨k, hk⟩ : ∃ k, p1.lenD = k := ⟨_, rfl⟩
    have hk2 : p1.lenD = (f.l.length : Int) := by unfold P.lenD; rw [hg]
    have hk0 : decide (k < 0) = false := by rw [decide_eq_false_iff_not, ← hk, hk2]; omega
    have EB : Hid (p.begun = (0, p1)) := y_ (by unfold P.begun; rw [pthen_ok E1.out]; unfold P.make; rw [hg, if_pos (by rfl)])
    have HL : Hid (p1.lenD = k) := y_ hk
    have HS : Hid (p1.lenD = k) := y_ hk
    have O2 : Hid (p1.h.ops + 2 < big) := y_ (by have := O1.out; unfold big at *; omega)
    have B2 := B1
    clear hk2 hk hg
    obtain ⟨l, e3, p3, E3⟩ : ∃ l e3 p3, Hid (p1.read nD 0 k = (l, e3, p3)) := ⟨_, _, _, rfl⟩
    have B3 : Hid (p3.h.ops < big) := y_ (by have h1 := (ops_read p1 nD 0 k).2; rw [E3.out] at h1; dsimp only at h1; have := O2.out; unfold big at *; omega)
    by_cases he3 : e3 = 0
    ·subst he3
     obtain ⟨e4, p4, E4⟩ : ∃ e4 p4, Hid (p3.sync nD = (e4, p4)) := ⟨_, _, rfl⟩
     have hr : p.load = (l, e4, p4) := by unfold P.load; rw [EB.out, if_neg (fun h => h rfl), HL.out, E3.out, if_neg (fun h => h rfl)]; dsimp only; rw [E4.out]
     rw [hr] at hw
     cases hw
     clear hr
     go_enter Tryz.func36, Tryz.ntmps36
     go_wp2_with (first
      | (go_at_call 61; refine (sweep_any H0.out B0.out E1.out).mono ?_; rintro e w1 ⟨rfl, es1, K1, T1⟩; have H1 := y_ K1; have TT1 := y_ T1; clear K1 T1)
      | (go_at_call 62; refine (Dg.createD H1.out B1.out E2.out).mono ?_; rintro e w2 ⟨rfl, es2, K2, T2⟩; have H2 := y_ K2; have TT2 := y_ (TT1.out.trans T2); clear K2 T2)
      | (go_at_call 63; refine (Dg.readD H1.out B2.out E3.out).mono ?_; rintro e w3 ⟨rfl, es3, K3, T3⟩; have H3 := y_ K3; have TT3 := y_ (TT1.out.trans T3); clear K3 T3; unfold str)
      | (go_at_call 55; refine (Dg.syncD H3.out B3.out E4.out).mono ?_; rintro e w4 ⟨rfl, es4, K4, T4⟩; have H4 := y_ K4; have TT4 := y_ (TT3.out.trans T4); clear K4 T4)
      | (go_at_call 45; refine (Dg.sizeD H1.out HL.out).mono ?_; rintro e _ ⟨rfl, rfl⟩)
      | (go_at_call 45; refine (Dg.sizeD H1.out HS.out).mono ?_; rintro e _ ⟨rfl, rfl⟩))
     go_ret2
     exact ⟨rfl, es4, H4.out, TT4.out⟩
    ·have z3 := ne_z he3
     have hr : p.load = ([], e3, p3) := by unfold P.load; rw [EB.out, if_neg (fun h => h rfl), HL.out, E3.out, if_pos he3]
     rw [hr] at hw
     cases hw
     clear hr he3
     go_enter Tryz.func36, Tryz.ntmps36
     go_wp2_with (first
      | (go_at_call 61; refine (sweep_any H0.out B0.out E1.out).mono ?_; rintro e w1 ⟨rfl, es1, K1, T1⟩; have H1 := y_ K1; have TT1 := y_ T1; clear K1 T1)
      | (go_at_call 62; refine (Dg.createD H1.out B1.out E2.out).mono ?_; rintro e w2 ⟨rfl, es2, K2, T2⟩; have H2 := y_ K2; have TT2 := y_ (TT1.out.trans T2); clear K2 T2)
      | (go_at_call 63; refine (Dg.readD H1.out B2.out E3.out).mono ?_; rintro e w3 ⟨rfl, es3, K3, T3⟩; have H3 := y_ K3; have TT3 := y_ (TT1.out.trans T3); clear K3 T3; unfold str)
      | (go_at_call 55; refine (Dg.syncD H3.out B3.out E4.out).mono ?_; rintro e w4 ⟨rfl, es4, K4, T4⟩; have H4 := y_ K4; have TT4 := y_ (TT3.out.trans T4); clear K4 T4)
      | (go_at_call 45; refine (Dg.sizeD H1.out HL.out).mono ?_; rintro e _ ⟨rfl, rfl⟩)
      | (go_at_call 45; refine (Dg.sizeD H1.out HS.out).mono ?_; rintro e _ ⟨rfl, rfl⟩))
     go_ret2
     exact ⟨rfl, es3, H3.out, TT3.out⟩
  | none =>
    have HS : Hid (p1.lenD = -1) := y_ (by unfold P.lenD; rw [hg])
    obtain ⟨e2, p2, E2⟩ : ∃ e2 p2, Hid (p1.create nD = (e2, p2)) := ⟨_, _, rfl⟩
    have O2 : Hid (p2.h.ops + 2 < big) := y_ (by have := ops_le (fun p => ops_create p nD) E2.out; have := O1.out; unfold big at *; omega)
    have B2 : Hid (p2.h.ops < big) := y_ (by have := O2.out; unfold big at *; omega)
    have EB0 : Hid (p.begun = (e2, p2)) := y_ (by unfold P.begun; rw [pthen_ok E1.out]; unfold P.make; rw [hg, if_neg (by decide)]; exact E2.out)
    clear hg
    by_cases he2 : e2 = 0
    ·subst he2
     have EB := EB0
     obtain ⟨k, hk⟩ : ∃ k, p2.lenD = k := ⟨_, rfl⟩
     have HL : Hid (p2.lenD = k) := y_ hk
     clear hk
     obtain ⟨l, e3, p3, E3⟩ : ∃ l e3 p3, Hid (p2.read nD 0 k = (l, e3, p3)) := ⟨_, _, _, rfl⟩
     have B3 : Hid (p3.h.ops < big) := y_ (by have h1 := (ops_read p2 nD 0 k).2; rw [E3.out] at h1; dsimp only at h1; have := O2.out; unfold big at *; omega)
     by_cases he3 : e3 = 0
     ·subst he3
      obtain ⟨e4, p4, E4⟩ : ∃ e4 p4, Hid (p3.sync nD = (e4, p4)) := ⟨_, _, rfl⟩
      have hr : p.load = (l, e4, p4) := by unfold P.load; rw [EB.out, if_neg (fun h => h rfl), HL.out, E3.out, if_neg (fun h => h rfl)]; dsimp only; rw [E4.out]
      rw [hr] at hw
      cases hw
      clear hr
      go_enter Tryz.func36, Tryz.ntmps36
      go_wp2_with (first
       | (go_at_call 61; refine (sweep_any H0.out B0.out E1.out).mono ?_; rintro e w1 ⟨rfl, es1, K1, T1⟩; have H1 := y_ K1; have TT1 := y_ T1; clear K1 T1)
       | (go_at_call 62; refine (Dg.createD H1.out B1.out E2.out).mono ?_; rintro e w2 ⟨rfl, es2, K2, T2⟩; have H2 := y_ K2; have TT2 := y_ (TT1.out.trans T2); clear K2 T2)
       | (go_at_call 63; refine (Dg.readD H2.out B2.out E3.out).mono ?_; rintro e w3 ⟨rfl, es3, K3, T3⟩; have H3 := y_ K3; have TT3 := y_ (TT2.out.trans T3); clear K3 T3; unfold str)
       | (go_at_call 55; refine (Dg.syncD H3.out B3.out E4.out).mono ?_; rintro e w4 ⟨rfl, es4, K4, T4⟩; have H4 := y_ K4; have TT4 := y_ (TT3.out.trans T4); clear K4 T4)
       | (go_at_call 45; refine (Dg.sizeD H2.out HL.out).mono ?_; rintro e _ ⟨rfl, rfl⟩)
       | (go_at_call 45; refine (Dg.sizeD H1.out HS.out).mono ?_; rintro e _ ⟨rfl, rfl⟩))
      go_ret2
      exact ⟨rfl, es4, H4.out, TT4.out⟩
     ·have z3 := ne_z he3
      have hr : p.load = ([], e3, p3) := by unfold P.load; rw [EB.out, if_neg (fun h => h rfl), HL.out, E3.out, if_pos he3]
      rw [hr] at hw
      cases hw
      clear hr he3
      go_enter Tryz.func36, Tryz.ntmps36
      go_wp2_with (first
       | (go_at_call 61; refine (sweep_any H0.out B0.out E1.out).mono ?_; rintro e w1 ⟨rfl, es1, K1, T1⟩; have H1 := y_ K1; have TT1 := y_ T1; clear K1 T1)
       | (go_at_call 62; refine (Dg.createD H1.out B1.out E2.out).mono ?_; rintro e w2 ⟨rfl, es2, K2, T2⟩; have H2 := y_ K2; have TT2 := y_ (TT1.out.trans T2); clear K2 T2)
       | (go_at_call 63; refine (Dg.readD H2.out B2.out E3.out).mono ?_; rintro e w3 ⟨rfl, es3, K3, T3⟩; have H3 := y_ K3; have TT3 := y_ (TT2.out.trans T3); clear K3 T3; unfold str)
       | (go_at_call 55; refine (Dg.syncD H3.out B3.out E4.out).mono ?_; rintro e w4 ⟨rfl, es4, K4, T4⟩; have H4 := y_ K4; have TT4 := y_ (TT3.out.trans T4); clear K4 T4)
       | (go_at_call 45; refine (Dg.sizeD H2.out HL.out).mono ?_; rintro e _ ⟨rfl, rfl⟩)
       | (go_at_call 45; refine (Dg.sizeD H1.out HS.out).mono ?_; rintro e _ ⟨rfl, rfl⟩))
      go_ret2
      exact ⟨rfl, es3, H3.out, TT3.out⟩
    ·have z2 := ne_z he2
     have hr : p.load = ([], e2, p2) := by unfold P.load; rw [EB0.out, if_pos he2]
     rw [hr] at hw
     cases hw
     clear hr he2
     go_enter Tryz.func36, Tryz.ntmps36
     go_wp2_with (first
      | (go_at_call 61; refine (sweep_any H0.out B0.out E1.out).mono ?_; rintro e w1 ⟨rfl, es1, K1, T1⟩; have H1 := y_ K1; have TT1 := y_ T1; clear K1 T1)
      | (go_at_call 62; refine (Dg.createD H1.out B1.out E2.out).mono ?_; rintro e w2 ⟨rfl, es2, K2, T2⟩; have H2 := y_ K2; have TT2 := y_ (TT1.out.trans T2); clear K2 T2)
      | (go_at_call 63; refine (Dg.readD H2.out B2.out E3.out).mono ?_; rintro e w3 ⟨rfl, es3, K3, T3⟩; have H3 := y_ K3; have TT3 := y_ (TT2.out.trans T3); clear K3 T3; unfold str)
      | (go_at_call 55; refine (Dg.syncD H3.out B3.out E4.out).mono ?_; rintro e w4 ⟨rfl, es4, K4, T4⟩; have H4 := y_ K4; have TT4 := y_ (TT3.out.trans T4); clear K4 T4)
      | (go_at_call 45; refine (Dg.sizeD H2.out HL.out).mono ?_; rintro e _ ⟨rfl, rfl⟩)
      | (go_at_call 45; refine (Dg.sizeD H1.out HS.out).mono ?_; rintro e _ ⟨rfl, rfl⟩))
     go_ret2
     exact ⟨rfl, es2, H2.out, TT2.out⟩
 ·have z1 := ne_z he1
  have hr : p.load = ([], e1, p1) := by unfold P.load P.begun; rw [pthen_err E1.out he1, if_pos he1]
  rw [hr] at hw
  cases hw
  clear hr he1
  go_enter Tryz.func36, Tryz.ntmps36
  go_wp2_with (first
   | (go_at_call 61; refine (sweep_any H0.out B0.out E1.out).mono ?_; rintro e w1 ⟨rfl, es1, K1, T1⟩; have H1 := y_ K1; have TT1 := y_ T1; clear K1 T1)
   | (go_at_call 62; refine (Dg.createD H1.out B1.out E2.out).mono ?_; rintro e w2 ⟨rfl, es2, K2, T2⟩; have H2 := y_ K2; have TT2 := y_ (TT1.out.trans T2); clear K2 T2)
   | (go_at_call 63; refine (Dg.readD H1.out B2.out E3.out).mono ?_; rintro e w3 ⟨rfl, es3, K3, T3⟩; have H3 := y_ K3; have TT3 := y_ (TT1.out.trans T3); clear K3 T3; unfold str)
   | (go_at_call 55; refine (Dg.syncD H3.out B3.out E4.out).mono ?_; rintro e w4 ⟨rfl, es4, K4, T4⟩; have H4 := y_ K4; have TT4 := y_ (TT3.out.trans T4); clear K4 T4)
   | (go_at_call 45; refine (Dg.sizeD H1.out HL.out).mono ?_; rintro e _ ⟨rfl, rfl⟩)
   | (go_at_call 45; refine (Dg.sizeD H1.out HS.out).mono ?_; rintro e _ ⟨rfl, rfl⟩))
  go_ret2
  exact ⟨rfl, es1, H1.out, TT1.out⟩
end Plk
end Go.Proofs.YtafeealbdpmdkaaGreatDoor

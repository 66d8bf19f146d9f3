/- The document's disk beside the plain one: Delete, Sync, Append. -/
import Derived.Test.YtbiikihapfpkfaaRefG
set_option linter.unusedSimpArgs false
set_option linter.unusedVariables false
set_option linter.unusedSectionVars false
namespace Go.Proofs.Ytbiikihapfpkfaa
section
open Go Go.RowKit
namespace Rk
open Plk (F P H isName sum)
theorem ba_append (l t : List UInt8) : (⟨l.toArray⟩ : ByteArray) ++ (⟨t.toArray⟩ : ByteArray) = ⟨(l ++ t).toArray⟩ := by
  apply ByteArray.ext
  simp [ByteArray.data_append]
/-- P.find, with begin's answer in hand -/
theorem find_of {fs : List F} {s s1 : H} {n : List UInt8} {er : Int} (hb : s.begin [n] = (er, s1)) : P.find ⟨fs, s⟩ n = if er ≠ 0 then (er, s1, none) else match Nmd.get F.name n fs with
  | none => (7, s1, none)
  | some f => (0, s1, some f) := by
  unfold P.find
  dsimp only
  rw [hb]
  cases Nmd.get F.name n fs <;> rfl
set_option maxRecDepth 100000 in
set_option maxHeartbeats 1000000 in
theorem delete_ref {w : World} {b : Nat} {v : Value} {r : R} {p : P} (h : Both w b v r p) (n : List UInt8) :
    Calls Try.prog 35 #[.pointer (some ⟨b, 0, none⟩), .string ⟨n.toArray⟩] w (RP b w v (.int .i64 (p.delete n).1) (p.delete n).2) := by
  have hb := begin1 h n
  obtain ⟨A, cap, hv⟩ := h.rd.row.len
  rw [h.sim.l] at hv
  subst hv
  have hu := h.good.up
  have hcn := h.good.cnt
  have hgood := Lib.hid h.good
  have hsr := Lib.hid h.sim
  obtain ⟨fs, s⟩ := p
  dsimp only at *
  generalize hres : P.delete ⟨fs, s⟩ n = res
  unfold P.delete at hres
  generalize hsb : s.begin [n] = sb at hb
  obtain ⟨er, s1⟩ := sb
  rw [find_of hsb] at hres
  dsimp only at hb hres
  have hrk := Lib.hid hres
  clear hres h hsb
  by_cases he : er = 0
  · subst he
    have hrs := hrk.out
    rw [if_neg (fun h => h rfl)] at hrs
    rcases place_get hu n with ⟨hg, hpv⟩ | ⟨k, f, hk, hf, hg, hpv, hd, hx⟩
    · rw [hg] at hrs
      dsimp only at hrs
      subst hrs
      go_enter Try.func35, Try.ntmps35
      go_wp2_with (first
        | (go_at_call 49; refine hb.mono ?_; rintro e w1 ⟨rfl, r1, hR1, hS1, hB1⟩; have hpl := Both.placed hR1 hS1.l hcn n; rw [hpv] at hpl)
        | (go_at_call 50; refine hpl.mono ?_; rintro e _ ⟨rfl, rfl⟩))
      go_ret
      exact ⟨rfl, _, r1, hR1, hS1, hB1, Newer.refl _ _⟩
    · rw [hg] at hrs
      dsimp only at hrs
      subst hrs
      go_enter Try.func35, Try.ntmps35
      go_wp2_with (first
        | (go_at_call 49; refine hb.mono ?_; rintro e w1 ⟨rfl, r1, hR1, hS1, hB1⟩; have hpl := Both.placed hR1 hS1.l hcn n; rw [hpv] at hpl; have HL := Lib.hid hS1.l)
        | (go_at_call 50; refine hpl.mono ?_; rintro e _ ⟨rfl, rfl⟩)
        | (go_at_call 53; refine (drop_any _ b _ r1 hR1 k (by rw [HL.out]; exact hk) (by rw [HL.out]; exact hcn)).mono ?_; rintro e w2 ⟨rfl, v2, hR2, hB2, hN2⟩))
      go_ret
      refine ⟨rfl, v2, _, hR2, ?_, hB1.trans hB2, (Newer.refl _ _).trans hN2 hB1.size⟩
      rw [HL.out, hd]
      exact hS1.with_ _ _
  · have hrs := hrk.out
    rw [if_pos he] at hrs
    dsimp only at hrs
    subst hrs
    have he' : (er == 0) = false := beq_eq_false_iff_ne.2 he
    go_enter Try.func35, Try.ntmps35
    go_wp2_with (go_at_call 49; refine hb.mono ?_; rintro e w1 ⟨rfl, r1, hR1, hS1, hB1⟩)
    go_ret
    exact ⟨rfl, _, r1, hR1, hS1, hB1, Newer.refl _ _⟩
end Rk
end
section
open Go Go.RowKit
namespace Rk
open Plk (F P H isName sum)
theorem RD.later {w w' : World} {b : Nat} {v : Value} {r : R} (h : RD w b v r) (hx : Reg.Ext w w') : RD w' b v r := h.ext hx
set_option maxRecDepth 100000 in
set_option maxHeartbeats 1000000 in
theorem sync_ref {w : World} {b : Nat} {v : Value} {r : R} {p : P} (h : Both w b v r p) (n : List UInt8) :
    Calls Try.prog 31 #[.pointer (some ⟨b, 0, none⟩), .string ⟨n.toArray⟩] w (RP b w v (.int .i64 (p.sync n).1) (p.sync n).2) := by
  have hb := begin1 h n
  obtain ⟨A, cap, hv⟩ := h.rd.row.len
  rw [h.sim.l] at hv
  subst hv
  have hu := h.good.up
  have hcn := h.good.cnt
  have hgood := Lib.hid h.good
  have hsr := Lib.hid h.sim
  obtain ⟨fs, s⟩ := p
  dsimp only at *
  generalize hres : P.sync ⟨fs, s⟩ n = res
  unfold P.sync at hres
  generalize hsb : s.begin [n] = sb at hb
  obtain ⟨er, s1⟩ := sb
  rw [find_of hsb] at hres
  dsimp only at hb hres
  have hrk := Lib.hid hres
  clear hres h hsb
  by_cases he : er = 0
  · subst he
    have hrs := hrk.out
    rw [if_neg (fun h => h rfl)] at hrs
    rcases place_get hu n with ⟨hg, hpv⟩ | ⟨k, f, hk, hf, hg, hpv, hd, hx⟩
    · rw [hg] at hrs
      dsimp only at hrs
      subst hrs
      go_enter Try.func31, Try.ntmps31
      go_wp2_with (first
        | (go_at_call 49; refine hb.mono ?_; rintro e w1 ⟨rfl, r1, hR1, hS1, hB1⟩; have hpl := Both.placed hR1 hS1.l hcn n; rw [hpv] at hpl)
        | (go_at_call 50; refine hpl.mono ?_; rintro e _ ⟨rfl, rfl⟩))
      go_ret
      exact ⟨rfl, _, r1, hR1, hS1, hB1, Newer.refl _ _⟩
    · rw [hg] at hrs
      dsimp only at hrs
      subst hrs
      have hll := Lib.hid (show f.l.length ≤ 4194304 by
        have h1 := Plk.len_sum (show f ∈ fs by rw [← hf]; exact List.getElem_mem hk)
        have h2 := hgood.out.used
        have h3 := hgood.out.room
        dsimp only at h2 h3
        omega)
      go_enter Try.func31, Try.ntmps31
      go_upto_region 7 with (first
        | (go_at_call 49; refine hb.mono ?_; rintro e w1 ⟨rfl, r1, hR1, hS1, hB1⟩; have hpl := Both.placed hR1 hS1.l hcn n; rw [hpv] at hpl; have c0 := hR1.c.1; have HL := Lib.hid hS1.l)
        | (go_at_call 50; refine hpl.mono ?_; rintro e w2 ⟨rfl, e2⟩; subst e2))
      have hrow : LV w2 (.slice A fs.length cap) fs := by
        have := hR1.row
        rw [HL.out] at this
        exact this
      rcases hrow.form with ⟨_, h2⟩ | ⟨g, cap', h2, _, _, _⟩
      · rw [h2] at hk; exact absurd hk (Nat.not_lt_zero _)
      injection h2 with h2 h2b h3
      clear h2b
      subst h2 h3
      have hrg := hrow.range k hk
      rw [hf] at hrg
      refine wp_region_lit ?_
      iterate 18 go_step
      refine wpList_file rfl _ rfl g (k * 3) rfl f hrg ?_
      simp only [Act.put, Act.eval, List.setIfInBounds_toArray, List.set_cons_zero, List.set_cons_succ, Nat.reduceAdd, Array.getD_eq_getD_getElem?, List.getElem?_toArray, List.getElem?_cons_succ, List.getElem?_cons_zero, Option.getD_some]
      iterate 3 go_step
      have hbf := Blk.new w2 59 #[.string ⟨#[]⟩, .string ⟨#[]⟩, .int .i64 0]
      refine wpList_stfile rfl _ _ rfl (w2).heap.size 0 f rfl rfl (hbf.there 3 (Nat.le_refl _)) ?_
      simp only [Act.put, Act.eval, List.setIfInBounds_toArray, List.set_cons_zero, List.set_cons_succ, Nat.reduceAdd, Array.getD_eq_getD_getElem?, List.getElem?_toArray, List.getElem?_cons_succ, List.getElem?_cons_zero, Option.getD_some]
      clear hbf
      obtain ⟨hb8, hx8⟩ := newfile w2 f #[.string ⟨#[]⟩, .string ⟨#[]⟩, .int .i64 0] rfl
      generalize hw8 : ((w2).alloc (Obj.cells #[.string ⟨#[]⟩, .string ⟨#[]⟩, .int .i64 0] 59)).setCells (w2).heap.size 0 (fcs f) = w8 at *
      clear hw8
      have k1 := hb8.cell 1
      have k2 := hb8.cell 2
      have fz := hb8.frozen 2
      dsimp only [fcs, List.getElem?_cons_zero, List.getElem?_cons_succ] at k1 k2
      have hz := bz f.l
      have hb9 : Blk (w8.setCell ⟨w2.heap.size, 2, none⟩ (.int .i64 (f.l.length : Int))) w2.heap.size 59 (fcs ⟨f.name, f.l, f.l.length⟩) := hb8.set_ 2 _
      have hx9 : Reg.Ext w2 (w8.setCell ⟨w2.heap.size, 2, none⟩ (.int .i64 (f.l.length : Int))) := hx8.trans_but (But.set_ w2.heap.size w8 2 _) (Nat.le_refl _)
      have HB9 := Lib.hid hb9
      have HX9 := Lib.hid hx9
      clear hb9 hx9 hb8 hx8
      go_upto_region 9 with (fail)
      generalize w8.setCell ⟨w2.heap.size, 2, none⟩ (.int .i64 (f.l.length : Int)) = w9 at *
      refine wp_region_lit ?_
      iterate 6 go_step
      refine wpList_file rfl _ rfl w2.heap.size 0 rfl ⟨f.name, f.l, f.l.length⟩ (blk_range HB9.out) ?_
      simp only [Act.put, Act.eval, List.setIfInBounds_toArray, List.set_cons_zero, List.set_cons_succ, Nat.reduceAdd, Array.getD_eq_getD_getElem?, List.getElem?_toArray, List.getElem?_cons_succ, List.getElem?_cons_zero, Option.getD_some]
      go_wp2_with (go_at_call 52; refine (turn_any _ b _ r1 (hR1.ext HX9.out) k ⟨f.name, f.l, f.l.length⟩ (by rw [HL.out]; exact hk) (by rw [HL.out]; exact hcn)).mono ?_; rintro e w5 ⟨rfl, v5, hR5, hB5, hN5⟩)
      go_ret
      refine ⟨rfl, v5, _, hR5, ?_, (hB1.trans (But.of_ext HX9.out)).trans hB5, (Newer.refl _ _).trans hN5 (Nat.le_trans hB1.size HX9.out.size)⟩
      rw [HL.out, hx ⟨f.name, f.l, f.l.length⟩ rfl]
      exact hS1.with_ _ _
  · have hrs := hrk.out
    rw [if_pos he] at hrs
    dsimp only at hrs
    subst hrs
    have he' : (er == 0) = false := beq_eq_false_iff_ne.2 he
    go_enter Try.func31, Try.ntmps31
    go_wp2_with (go_at_call 49; refine hb.mono ?_; rintro e w1 ⟨rfl, r1, hR1, hS1, hB1⟩)
    go_ret
    exact ⟨rfl, _, r1, hR1, hS1, hB1, Newer.refl _ _⟩
end Rk
end
section
open Go Go.RowKit
namespace Rk
open Plk (F P H isName sum)
set_option maxRecDepth 100000 in
set_option maxHeartbeats 400000 in
theorem append_ref {w : World} {b : Nat} {v : Value} {r : R} {p : P} (h : Both w b v r p) (n t : List UInt8) (ht : t.length ≤ 4294967296) :
    Calls Try.prog 29 #[.pointer (some ⟨b, 0, none⟩), .string ⟨n.toArray⟩, .string ⟨t.toArray⟩] w (RP b w v (.int .i64 (p.append n t).1) (p.append n t).2) := by
  have hb := begin1 h n
  obtain ⟨A, cap, hv⟩ := h.rd.row.len
  rw [h.sim.l] at hv
  subst hv
  have hu := h.good.up
  have hcn := h.good.cnt
  have hgood := Lib.hid h.good
  have hsr := Lib.hid h.sim
  obtain ⟨fs, s⟩ := p
  dsimp only at *
  have hkp := Plk.begin_keep s [n]
  generalize hres : P.append ⟨fs, s⟩ n t = res
  unfold P.append at hres
  generalize hsb : s.begin [n] = sb at hb hkp
  obtain ⟨er, s1⟩ := sb
  rw [find_of hsb] at hres
  dsimp only at hb hres hkp
  have hrk := Lib.hid hres
  have HKP := Lib.hid hkp
  clear hres h hsb hkp
  by_cases he : er = 0
  · subst he
    have hrs := hrk.out
    rw [if_neg (fun h => h rfl)] at hrs
    rcases place_get hu n with ⟨hg, hpv⟩ | ⟨k, f, hk, hf, hg, hpv, hd, hx⟩
    · rw [hg] at hrs
      dsimp only at hrs
      subst hrs
      clear hrk
      go_enter Try.func29, Try.ntmps29
      go_wp2_with (first
        | (go_at_call 49; refine hb.mono ?_; rintro e w1 ⟨rfl, r1, hR1, hS1, hB1⟩; have hpl := Both.placed hR1 hS1.l hcn n; rw [hpv] at hpl)
        | (go_at_call 50; refine hpl.mono ?_; rintro e _ ⟨rfl, rfl⟩))
      go_ret
      exact ⟨rfl, _, r1, hR1, hS1, hB1, Newer.refl _ _⟩
    · rw [hg] at hrs
      dsimp only at hrs
      have hll : f.l.length ≤ 4194304 := by
        have h1 := Plk.len_sum (show f ∈ fs by rw [← hf]; exact List.getElem_mem hk)
        have h2 := hgood.out.used
        have h3 := hgood.out.room
        dsimp only at h2 h3
        omega
      have hus := hgood.out.used
      have hro := hgood.out.room
      dsimp only at hus hro
      have hsm : sum fs ≤ 4194304 := by omega
      have hu0 : 0 ≤ s.used := by omega
      have HUS := Lib.hid hus
      obtain ⟨hr1, hr2⟩ := hro
      have hz1 := bz f.l
      have hz2 := bz t
      clear hus hrk
      obtain ⟨full, hfull⟩ : ∃ full, decide (s.room - s.used < (t.length : Int)) = full := ⟨_, rfl⟩
      have HFL := Lib.hid hfull
      have HRS := Lib.hid hrs
      clear hrs
      go_enter Try.func29, Try.ntmps29
      go_upto_region 7 with (first
        | (go_at_call 49; refine hb.mono ?_; rintro e w1 ⟨rfl, r1, hR1, hS1, hB1⟩; have hpl := Both.placed hR1 hS1.l hcn n; rw [hpv] at hpl; have c0 := hR1.c.1; have HL := Lib.hid hS1.l)
        | (go_at_call 50; refine hpl.mono ?_; rintro e w2 ⟨rfl, e2⟩; subst e2))
      have hrow : LV w2 (.slice A fs.length cap) fs := by
        have := hR1.row
        rw [HL.out] at this
        exact this
      rcases hrow.form with ⟨_, h2⟩ | ⟨g, cap', h2, _, _, _⟩
      · rw [h2] at hk; exact absurd hk (Nat.not_lt_zero _)
      injection h2 with h2 h2b h3
      clear h2b
      subst h2 h3
      have hrg := hrow.range k hk
      rw [hf] at hrg
      have HC1 : Hid (∀ w', Reg.Ext w2 w' → w'.cell? ⟨b, 1, none⟩ = some (.int .i64 s.room)) := Lib.hid fun w' hx => by
        have := (hR1.ext hx).c.2.1
        rw [hS1.room] at this
        rw [this]
        exact congrArg some (congrArg (Value.int .i64) HKP.out.1)
      have HU : Hid (∀ w', Reg.Ext w2 w' → Calls Try.prog 41 #[.pointer (some ⟨b, 0, none⟩)] w' fun e w3 => e = .returned (.int .i64 s.used) ∧ w3 = w') := Lib.hid fun w' hx => by
        have := used_any w' b _ r1 (hR1.ext hx) (by rw [HL.out]; exact hcn) (by rw [HL.out]; exact hsm)
        rw [HL.out, ← HUS.out] at this
        exact this
      have HXX := Lib.hid hx
      have HHF := Lib.hid hf
      clear hx hd hf hg hpv hu hpl hrow hcn hsm
      have hdk : decide ((k : Int) < 0) = false := decide_eq_false (by omega)
      simp only [hdk]
      clear hdk
      apply Reg.wp_tab Reg.Ext (by kernel_rfl) (by kernel_rfl) Reg.Ext.refl (fun _ _ _ => Reg.Ext.trans) (Reg.Ext.drew _)
      case' h =>
        intro O
        repeat (first
          | (apply Reg.TW.move_ Reg.Ext.refl _ rfl rfl
             · simp only [Act.put, Act.eval, List.setIfInBounds_toArray, List.set_cons_zero, List.set_cons_succ, Nat.reduceAdd, Array.getD_eq_getD_getElem?, List.getElem?_toArray, List.getElem?_cons_succ, List.getElem?_cons_zero, Option.getD_some]
               rfl)
          | (apply Reg.TW.assign_ Reg.Ext.refl _ rfl rfl
             · simp only [Act.put, Act.eval, List.setIfInBounds_toArray, List.set_cons_zero, List.set_cons_succ, Nat.reduceAdd, Array.getD_eq_getD_getElem?, List.getElem?_toArray, List.getElem?_cons_succ, List.getElem?_cons_zero, Option.getD_some]
               rfl)
          | (apply Reg.TW.skip_ rfl
             · simp only [Act.put, Act.eval, List.setIfInBounds_toArray, List.set_cons_zero, List.set_cons_succ, Nat.reduceAdd, Array.getD_eq_getD_getElem?, List.getElem?_toArray, List.getElem?_cons_succ, List.getElem?_cons_zero, Option.getD_some]
               rfl)
          | (apply Reg.TW.pure_ rfl
             · intro w1 hw1 hf K hK
               simp only [Act.put, List.setIfInBounds_toArray, List.set_cons_zero, List.set_cons_succ] at hK
               have HK := Lib.hid hK
               clear hf hK
               have c1 := HC1.out _ hw1
               unfold Reg.One; dsimp only
               go_wp2_with fail
               exact HK.out _ (Reg.Ext.refl _)
             · simp only [Act.put, Act.eval, List.setIfInBounds_toArray, List.set_cons_zero, List.set_cons_succ, Nat.reduceAdd, Array.getD_eq_getD_getElem?, List.getElem?_toArray, List.getElem?_cons_succ, List.getElem?_cons_zero, Option.getD_some]
               rfl))
        apply Reg.TW.call_ (c := .int .i64 s.used) (fun _ => True) rfl (fun _ _ _ h => h)
        · intro w1 hw1 hf K hK
          simp only [Act.put, List.setIfInBounds_toArray, List.set_cons_zero, List.set_cons_succ] at hK
          have HK := Lib.hid hK
          clear hK
          unfold Reg.One; dsimp only
          go_wp2_with fail
          refine (HU.out _ hw1).mono ?_
          rintro e w' ⟨rfl, rfl⟩
          go_wp2_with fail
          exact HK.out _ (Reg.Ext.refl _) trivial
        · simp only [Act.put, Act.eval, List.setIfInBounds_toArray, List.set_cons_zero, List.set_cons_succ, Nat.reduceAdd, Array.getD_eq_getD_getElem?, List.getElem?_toArray, List.getElem?_cons_succ, List.getElem?_cons_zero, Option.getD_some]
          rfl
        repeat (first
          | (apply Reg.TW.move_ Reg.Ext.refl _ rfl rfl
             · simp only [Act.put, Act.eval, List.setIfInBounds_toArray, List.set_cons_zero, List.set_cons_succ, Nat.reduceAdd, Array.getD_eq_getD_getElem?, List.getElem?_toArray, List.getElem?_cons_succ, List.getElem?_cons_zero, Option.getD_some]
               rfl)
          | (apply Reg.TW.assign_ Reg.Ext.refl _ rfl rfl
             · simp only [Act.put, Act.eval, List.setIfInBounds_toArray, List.set_cons_zero, List.set_cons_succ, Nat.reduceAdd, Array.getD_eq_getD_getElem?, List.getElem?_toArray, List.getElem?_cons_succ, List.getElem?_cons_zero, Option.getD_some]
               rfl)
          | (apply Reg.TW.skip_ rfl
             · simp only [Act.put, Act.eval, List.setIfInBounds_toArray, List.set_cons_zero, List.set_cons_succ, Nat.reduceAdd, Array.getD_eq_getD_getElem?, List.getElem?_toArray, List.getElem?_cons_succ, List.getElem?_cons_zero, Option.getD_some]
               rfl)
          | (apply Reg.TW.pure_ rfl
             · intro w1 hw1 hf K hK
               simp only [Act.put, List.setIfInBounds_toArray, List.set_cons_zero, List.set_cons_succ] at hK
               have HK := Lib.hid hK
               clear hf hK
               have c1 := HC1.out _ hw1
               unfold Reg.One; dsimp only
               go_wp2_with fail
               exact HK.out _ (Reg.Ext.refl _)
             · simp only [Act.put, Act.eval, List.setIfInBounds_toArray, List.set_cons_zero, List.set_cons_succ, Nat.reduceAdd, Array.getD_eq_getD_getElem?, List.getElem?_toArray, List.getElem?_cons_succ, List.getElem?_cons_zero, Option.getD_some]
               rfl))
        refine Reg.TW.nil_ ?_
        intro wa hwa _
        try simp only [hfull]
        cases full with
        | true =>
          have hrs := HRS.out
          rw [if_pos (of_decide_eq_true HFL.out)] at hrs
          subst hrs
          go_wp2_with fail
          go_ret
          exact ⟨rfl, _, r1, hR1.ext hwa, hS1, hB1.trans (But.of_ext hwa), Newer.refl _ _⟩
        | false =>
          have hrs := HRS.out
          rw [if_neg (of_decide_eq_false HFL.out)] at hrs
          subst hrs
          have hRa := hR1.ext hwa
          have c0 := hRa.c.1
          have hrg : wa.rangeAt g (k * 3) (fcs f) := fun i v hv => hwa.at_ (hrg i v hv)
          go_upto_region 9 with (fail)
          have hf := HHF.out
          refine wp_region_lit ?_
          iterate 18 go_step
          refine wpList_file rfl _ rfl g (k * 3) rfl f hrg ?_
          simp only [Act.put, Act.eval, List.setIfInBounds_toArray, List.set_cons_zero, List.set_cons_succ, Nat.reduceAdd, Array.getD_eq_getD_getElem?, List.getElem?_toArray, List.getElem?_cons_succ, List.getElem?_cons_zero, Option.getD_some]
          iterate 3 go_step
          have hbf := Blk.new wa 59 #[.string ⟨#[]⟩, .string ⟨#[]⟩, .int .i64 0]
          refine wpList_stfile rfl _ _ rfl (wa).heap.size 0 f rfl rfl (hbf.there 3 (Nat.le_refl _)) ?_
          simp only [Act.put, Act.eval, List.setIfInBounds_toArray, List.set_cons_zero, List.set_cons_succ, Nat.reduceAdd, Array.getD_eq_getD_getElem?, List.getElem?_toArray, List.getElem?_cons_succ, List.getElem?_cons_zero, Option.getD_some]
          clear hbf
          obtain ⟨hb8, hx8⟩ := newfile wa f #[.string ⟨#[]⟩, .string ⟨#[]⟩, .int .i64 0] rfl
          generalize hw8 : ((wa).alloc (Obj.cells #[.string ⟨#[]⟩, .string ⟨#[]⟩, .int .i64 0] 59)).setCells (wa).heap.size 0 (fcs f) = w8 at *
          clear hw8
          have k1 := hb8.cell 1
          have fz := hb8.frozen 1
          dsimp only [fcs, List.getElem?_cons_zero, List.getElem?_cons_succ] at k1
          have hz1 := bz f.l
          have hb9 : Blk (w8.setCell ⟨wa.heap.size, 1, none⟩ (.string ((⟨f.l.toArray⟩ : ByteArray) ++ (⟨t.toArray⟩ : ByteArray)))) wa.heap.size 59 (fcs ⟨f.name, f.l ++ t, f.safe⟩) := by
            rw [ba_append]
            exact hb8.set_ 1 _
          have hx9 : Reg.Ext wa (w8.setCell ⟨wa.heap.size, 1, none⟩ (.string ((⟨f.l.toArray⟩ : ByteArray) ++ (⟨t.toArray⟩ : ByteArray)))) := hx8.trans_but (But.set_ wa.heap.size w8 1 _) (Nat.le_refl _)
          have HB9 := Lib.hid hb9
          have HX9 := Lib.hid hx9
          clear hb9 hx9 hb8 hx8
          go_upto_region 11 with (fail)
          generalize w8.setCell ⟨wa.heap.size, 1, none⟩ (.string ((⟨f.l.toArray⟩ : ByteArray) ++ (⟨t.toArray⟩ : ByteArray))) = w9 at *
          refine wp_region_lit ?_
          iterate 6 go_step
          refine wpList_file rfl _ rfl wa.heap.size 0 rfl ⟨f.name, f.l ++ t, f.safe⟩ (blk_range HB9.out) ?_
          simp only [Act.put, Act.eval, List.setIfInBounds_toArray, List.set_cons_zero, List.set_cons_succ, Nat.reduceAdd, Array.getD_eq_getD_getElem?, List.getElem?_toArray, List.getElem?_cons_succ, List.getElem?_cons_zero, Option.getD_some]
          have hkk := hk
          go_wp2_with (go_at_call 52; refine (turn_any _ b _ r1 (hRa.ext HX9.out) k ⟨f.name, f.l ++ t, f.safe⟩ (by rw [HL.out]; exact hkk) (by rw [HL.out]; exact hgood.out.cnt)).mono ?_; rintro e w5 ⟨rfl, v5, hR5, hB5, hN5⟩)
          go_ret
          refine ⟨rfl, v5, _, hR5, ?_, ((hB1.trans (But.of_ext hwa)).trans (But.of_ext HX9.out)).trans hB5, (Newer.refl _ _).trans hN5 (Nat.le_trans (Nat.le_trans hB1.size hwa.size) HX9.out.size)⟩
          rw [HL.out, HXX.out ⟨f.name, f.l ++ t, f.safe⟩ rfl]
          exact hS1.with_ _ _
      all_goals rfl
  · have hrs := hrk.out
    rw [if_pos he] at hrs
    dsimp only at hrs
    subst hrs
    have he' : (er == 0) = false := beq_eq_false_iff_ne.2 he
    go_enter Try.func29, Try.ntmps29
    go_wp2_with (go_at_call 49; refine hb.mono ?_; rintro e w1 ⟨rfl, r1, hR1, hS1, hB1⟩)
    go_ret
    exact ⟨rfl, _, r1, hR1, hS1, hB1, Newer.refl _ _⟩
end Rk
end
end Go.Proofs.Ytbiikihapfpkfaa

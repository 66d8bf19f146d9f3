/- Made by merge.py from: RefK RefM RefN RefO. -/
import Derived.Test.YtafeealbdpmdkaaGreatDoorRfA
import Derived.Test.YtafeealbdpmdkaaGreatDoorPkC
import Derived.Test.YtafeealbdpmdkaaGreatDoorPkD
import Derived.Test.YtafeealbdpmdkaaGreatDoorPkE
import Derived.BigRegion
set_option linter.unusedSimpArgs false
set_option linter.unusedVariables false
set_option linter.unusedSectionVars false
set_option maxRecDepth 100000
/- The document's disk beside the plain one: Read, Arm, Off, Rename. -/
open Go.Act renaming put → z_1, eval → z_2
open List renaming setIfInBounds_toArray → z_3, set_cons_zero → z_4, set_cons_succ → z_5, getElem?_toArray → z_7, getElem?_cons_succ → z_8, getElem?_cons_zero → z_9
open Array renaming getD_eq_getD_getElem? → z_6
open Option renaming getD_some → z_0
open Go.Lib renaming hid → y_
open Nat renaming reduceAdd → z_b
-- squeezed
namespace Go.Proofs.YtafeealbdpmdkaaGreatDoor
section
open Go Go.RowKit
namespace Rk
open Plk (F P H isName sum)
theorem rd_ext (l : List UInt8) (j m : Nat) (hj : j ≤ l.length) : (⟨l.toArray⟩ : ByteArray).extract j ((j : Int) + min (m : Int) ((l.length : Int) - (j : Int))).toNat = ⟨(Plk.rd l (j : Int) (m : Int)).toArray⟩ := by
 have e : ((j : Int) + min (m : Int) ((l.length : Int) - (j : Int))).toNat = j + min m (l.length - j) := by omega
 rw [e]
 apply ByteArray.ext
 rw [ByteArray.data_extract]
 apply Array.ext'
 unfold Plk.rd
 simp [Array.toList_extract, List.extract_eq_take_drop]
theorem bad_begin {s : H} {n : List UInt8} (h : isName n = false) : s.begin [n] = (1, s) := by
 unfold H.begin
 rw [if_pos (by simp [h])]
set_option maxRecDepth 100000 in
set_option maxHeartbeats 1000000 in
theorem read_ref {w : World} {b : Nat} {v : Value} {r : R} {p : P} (h : Both w b v r p) (n : List UInt8) (x k : Int) :
  Calls Tryz.prog 41 #[.pointer (some ⟨b, 0, none⟩), .string ⟨n.toArray⟩, .int .i64 x, .int .i64 k] w (RP b w v (.tuple #[.string ⟨(p.read n x k).1.toArray⟩, .int .i64 (p.read n x k).2.1]) (p.read n x k).2.2) := by
 have HRD := y_ h.rd
 have z1 := bz n
 have hb := begin1 h n
 obtain ⟨A, cap, hv⟩ := h.rd.row.len
 rw [h.sim.l] at hv
 subst hv
 have hu := h.good.up
 have hcn := h.good.cnt
 have hgood := y_ h.good
 have hsr := y_ h.sim
 obtain ⟨fs, s⟩ := p
 dsimp only at *
 generalize hres : P.read ⟨fs, s⟩ n x k = res
 unfold P.read at hres
 have hrk := y_ hres
 clear hres
 by_cases hn1 : n.length < 1
 ·have hbb := bad_begin (s := s) ((isN n).2 (.inl hn1))
  have hrs := hrk.out
  rw [find_of hbb] at hrs
  have hrs : ([], 1, ⟨fs, s⟩) = res := by rw [← hrs]; by_cases hc : x < 0 ∨ k < 0 <;> simp [hc]
  subst hrs
  clear hrk h hb hu
  go_enter Tryz.func41, Tryz.ntmps41
  go_wp2_with fail
  go_ret2
  exact ⟨rfl, _, r, HRD.out, hsr.out, But.refl _ _, Newer.refl _ _⟩
 by_cases hn2 : 80 < n.length
 ·have hbb := bad_begin (s := s) ((isN n).2 (.inr hn2))
  have hrs := hrk.out
  rw [find_of hbb] at hrs
  have hrs : ([], 1, ⟨fs, s⟩) = res := by rw [← hrs]; by_cases hc : x < 0 ∨ k < 0 <;> simp [hc]
  subst hrs
  clear hrk h hb hu
  go_enter Tryz.func41, Tryz.ntmps41
  go_wp2_with fail
  go_ret2
  exact ⟨rfl, _, r, HRD.out, hsr.out, But.refl _ _, Newer.refl _ _⟩
 by_cases hx0 : x < 0
 ·have hrs := hrk.out
  rw [if_pos (.inl hx0)] at hrs
  subst hrs
  clear hrk h hb hu
  go_enter Tryz.func41, Tryz.ntmps41
  go_wp2_with fail
  go_ret2
  exact ⟨rfl, _, r, HRD.out, hsr.out, But.refl _ _, Newer.refl _ _⟩
 by_cases hk0 : k < 0
 ·have hrs := hrk.out
  rw [if_pos (.inr hk0)] at hrs
  subst hrs
  clear hrk h hb hu
  go_enter Tryz.func41, Tryz.ntmps41
  go_wp2_with fail
  go_ret2
  exact ⟨rfl, _, r, HRD.out, hsr.out, But.refl _ _, Newer.refl _ _⟩
 obtain ⟨j, rfl⟩ := Int.eq_ofNat_of_zero_le (Int.not_lt.1 hx0)
 obtain ⟨m, rfl⟩ := Int.eq_ofNat_of_zero_le (Int.not_lt.1 hk0)
 clear hx0 hk0
 have hrs0 := hrk.out
 rw [if_neg (by omega)] at hrs0
 clear hrk
 generalize hsb : s.begin [n] = sb at hb
 obtain ⟨er, s1⟩ := sb
 rw [find_of hsb] at hrs0
 dsimp only at hb
 have hrk := y_ hrs0
 clear hrs0 h hsb
 have hn3 : n.length ≤ 80 := by omega
 have hn4 : 1 ≤ n.length := by omega
 clear hn1 hn2
 by_cases he : er = 0
 ·subst he
  have hrs := hrk.out
  rw [if_neg (fun h => h rfl)] at hrs
  rcases place_get hu n with ⟨hg, hpv⟩ | ⟨k, f, hk, hf, hg, hpv, hd, hx⟩
  ·rw [hg] at hrs
   dsimp only at hrs
   subst hrs
   clear hrk
   go_enter Tryz.func41, Tryz.ntmps41
   go_wp2_with (first
    | (go_at_call 48; refine hb.mono ?_; rintro e w1 ⟨rfl, r1, hR1, hS1, hB1⟩; have hpl := Both.placed hR1 hS1.l hcn n; rw [hpv] at hpl)
    | (go_at_call 38; refine hpl.mono ?_; rintro e _ ⟨rfl, rfl⟩))
   go_ret2
   exact ⟨rfl, _, r1, hR1, hS1, hB1, Newer.refl _ _⟩
  ·rw [hg] at hrs
   dsimp only at hrs
   have hll : f.l.length ≤ 4194304 := by
    have h1 := Plk.len_sum (show f ∈ fs by rw [← hf]; exact List.getElem_mem hk)
    have h2 := hgood.out.used
    have h3 := hgood.out.room
    dsimp only at h2 h3
    omega
   have hz1 := bz f.l
   clear hrk hd hx
   by_cases hjl : (f.l.length : Int) < (j : Int)
   ·rw [if_pos hjl] at hrs
    subst hrs
    go_enter Tryz.func41, Tryz.ntmps41
    go_upto_region 9 with (first
     | (go_at_call 48; refine hb.mono ?_; rintro e w1 ⟨rfl, r1, hR1, hS1, hB1⟩; have hpl := Both.placed hR1 hS1.l hcn n; rw [hpv] at hpl; have c0 := hR1.c.1; have HL := y_ hS1.l)
     | (go_at_call 38; refine hpl.mono ?_; rintro e w2 ⟨rfl, e2⟩; subst e2))
    have hrow : LV w2 (.slice A fs.length cap) fs := by
     have := hR1.row
     rw [HL.out] at this
     exact this
    rcases hrow.form with ⟨_, h2⟩ | ⟨g, cap', h2, _, _, _⟩
    ·rw [h2] at hk; exact absurd hk (Nat.not_lt_zero _)
    injection h2 with h2 h2b h3
    clear h2b
    subst h2 h3
    have hrg := hrow.range k hk
    rw [hf] at hrg
    have k1 := hrow.at_ k hk 1 (by omega)
    rw [hf] at k1
    dsimp only [fcs, List.getElem?_cons_zero, List.getElem?_cons_succ] at k1
    go_wp2_with fail
    go_ret2
    exact ⟨rfl, _, r1, hR1, hS1, hB1, Newer.refl _ _⟩
   ·rw [if_neg hjl] at hrs
    subst hrs
    go_enter Tryz.func41, Tryz.ntmps41
    go_upto_region 9 with (first
     | (go_at_call 48; refine hb.mono ?_; rintro e w1 ⟨rfl, r1, hR1, hS1, hB1⟩; have hpl := Both.placed hR1 hS1.l hcn n; rw [hpv] at hpl; have c0 := hR1.c.1; have HL := y_ hS1.l)
     | (go_at_call 38; refine hpl.mono ?_; rintro e w2 ⟨rfl, e2⟩; subst e2))
    have hrow : LV w2 (.slice A fs.length cap) fs := by
     have := hR1.row
     rw [HL.out] at this
     exact this
    rcases hrow.form with ⟨_, h2⟩ | ⟨g, cap', h2, _, _, _⟩
    ·rw [h2] at hk; exact absurd hk (Nat.not_lt_zero _)
    injection h2 with h2 h2b h3
    clear h2b
    subst h2 h3
    have hrg := hrow.range k hk
    rw [hf] at hrg
    have k1 := hrow.at_ k hk 1 (by omega)
    rw [hf] at k1
    dsimp only [fcs, List.getElem?_cons_zero, List.getElem?_cons_succ] at k1
    have hre := y_ (rd_ext f.l j m (by omega))
    go_wp2_with fail
    go_ret2
    refine ⟨?_, _, r1, hR1, hS1, hB1, Newer.refl _ _⟩
    rw [← hre.out]
    rfl
 ·have hrs := hrk.out
  rw [if_pos he] at hrs
  dsimp only at hrs
  subst hrs
  have he' : (er == 0) = false := beq_eq_false_iff_ne.2 he
  go_enter Tryz.func41, Tryz.ntmps41
  go_wp2_with (go_at_call 48; refine hb.mono ?_; rintro e w1 ⟨rfl, r1, hR1, hS1, hB1⟩)
  go_ret2
  exact ⟨rfl, _, r1, hR1, hS1, hB1, Newer.refl _ _⟩
theorem arm_any (w : World) (b : Nat) (v : Value) (r : R) (h : RD w b v r) (x k m : Int) (h0 : 0 ≤ r.ops) (h1 : r.ops < 4611686018427387904) :
  Calls Tryz.prog 12 #[.pointer (some ⟨b, 0, none⟩), .int .i64 x, .int .i64 k, .int .i64 m] w fun e w' => e = .returned (.tuple #[]) ∧ RD w' b v (if 1 ≤ x ∧ (k = 1 ∨ k = 2) ∧ x ≤ 1099511627776 then { r with kind := k, at_ := r.ops + x, more := m } else { r with kind := 0 }) ∧ But b w w' := by
 have fz := h.blk.frozen
 have f4 := fz 4
 have f3 := fz 3
 have f5 := fz 5
 obtain ⟨c0, c1, c2, c3, c4, c5, c6⟩ := h.c
 have hA : RD (w.setCell ⟨b, 4, none⟩ (.int .i64 0)) b v { r with kind := 0 } := h.set_ 4 _ rfl rfl
 have bA := But.set_ b w 4 (.int .i64 0)
 clear fz
 by_cases t1 : 1 ≤ x
 ·by_cases t2 : k = 1
  ·by_cases t3 : x ≤ 1099511627776
   ·rw [if_pos ⟨t1, .inl t2, t3⟩]
    subst t2
    go_enter Tryz.func12, Tryz.ntmps12
    go_wp2
    go_end0
    exact ⟨rfl, ((hA.set_ (r' := { r with kind := 1 }) 4 (.int .i64 1) rfl rfl).set_ (r' := { r with kind := 1, at_ := r.ops + x }) 3 (.int .i64 (r.ops + x)) rfl rfl).set_ (r' := { r with kind := 1, at_ := r.ops + x, more := m }) 5 (.int .i64 m) rfl rfl, ((bA.trans (But.set_ b _ 4 _)).trans (But.set_ b _ 3 _)).trans (But.set_ b _ 5 _)⟩
   ·rw [if_neg (by rintro ⟨_, _, h⟩; exact t3 h)]
    subst t2
    go_enter Tryz.func12, Tryz.ntmps12
    go_wp2
    go_end0
    exact ⟨rfl, hA, bA⟩
  ·by_cases t4 : k = 2
   ·by_cases t3 : x ≤ 1099511627776
    ·rw [if_pos ⟨t1, .inr t4, t3⟩]
     subst t4
     go_enter Tryz.func12, Tryz.ntmps12
     go_wp2
     go_end0
     exact ⟨rfl, ((hA.set_ (r' := { r with kind := 2 }) 4 (.int .i64 2) rfl rfl).set_ (r' := { r with kind := 2, at_ := r.ops + x }) 3 (.int .i64 (r.ops + x)) rfl rfl).set_ (r' := { r with kind := 2, at_ := r.ops + x, more := m }) 5 (.int .i64 m) rfl rfl, ((bA.trans (But.set_ b _ 4 _)).trans (But.set_ b _ 3 _)).trans (But.set_ b _ 5 _)⟩
    ·rw [if_neg (by rintro ⟨_, _, h⟩; exact t3 h)]
     subst t4
     go_enter Tryz.func12, Tryz.ntmps12
     go_wp2
     go_end0
     exact ⟨rfl, hA, bA⟩
   ·rw [if_neg (by rintro ⟨_, h | h, _⟩; exact t2 h; exact t4 h)]
    have q1 : (k == 1) = false := beq_eq_false_iff_ne.2 t2
    have q2 : (k == 2) = false := beq_eq_false_iff_ne.2 t4
    clear t2 t4
    go_enter Tryz.func12, Tryz.ntmps12
    go_wp2
    go_end0
    exact ⟨rfl, hA, bA⟩
 ·rw [if_neg (by rintro ⟨h, _⟩; exact t1 h)]
  go_enter Tryz.func12, Tryz.ntmps12
  go_wp2
  go_end0
  exact ⟨rfl, hA, bA⟩
theorem arm_ref {w : World} {b : Nat} {v : Value} {r : R} {p : P} (h : Both w b v r p) (x k m : Int) :
  Calls Tryz.prog 12 #[.pointer (some ⟨b, 0, none⟩), .int .i64 x, .int .i64 k, .int .i64 m] w (RP b w v (.tuple #[]) ⟨p.fs, p.h.arm x k m⟩) := by
 have ho := h.ops
 have h0 := h.good.ops
 have hs := h.sim
 refine (arm_any w b v r h.rd x k m (by rw [hs.ops]; exact h0) (by rw [hs.ops]; omega)).mono ?_
 rintro e w' ⟨rfl, h2, h3⟩
 refine ⟨rfl, v, _, h2, ?_, h3, Newer.refl _ _⟩
 unfold H.arm
 by_cases hc : 1 ≤ x ∧ (k = 1 ∨ k = 2) ∧ x ≤ 1099511627776
 ·rw [if_pos hc, if_neg (by omega)]
  refine ⟨hs.l, hs.room, hs.ops, hs.off, rfl, fun _ => ⟨?_, rfl⟩, fun _ => ?_, ?_⟩
  ·show r.ops + x = p.h.ops + x
   rw [hs.ops]
  ·show p.h.ops < p.h.ops + x
   omega
  ·show 0 ≤ r.ops + x ∧ r.ops + x < _
   rw [hs.ops]
   omega
 ·rw [if_neg hc, if_pos (by omega)]
  exact ⟨hs.l, hs.room, hs.ops, hs.off, rfl, fun e => absurd rfl e, fun e => by have e : (0 : Int) = 2 := e; omega, hs.at0⟩
theorem off_ref {w : World} {b : Nat} {v : Value} {r : R} {p : P} (h : Both w b v r p) :
  Calls Tryz.prog 14 #[.pointer (some ⟨b, 0, none⟩)] w (RP b w v (.tuple #[]) ⟨p.fs, { p.h with off := true, ak := 0, af := 0, al := 0 }⟩) := by
 have hs := h.sim
 refine (off_any w b v r h.rd).mono ?_
 rintro e w' ⟨rfl, h2, h3⟩
 exact ⟨rfl, v, _, h2, ⟨hs.l, hs.room, hs.ops, rfl, rfl, fun e => absurd rfl e, fun e => by have e : (0 : Int) = 2 := e; omega, hs.at0⟩, h3, Newer.refl _ _⟩
end Rk
end
section
open Go Go.RowKit
namespace Rk
open Plk (F P H isName sum)
theorem ins_del {fs : List F} (hu : Nmd.Up F.name fs) {f : F} (hf : f ∈ fs) : Nmd.ins F.name f (Nmd.del F.name f.name fs) = fs := by
 induction fs with
 | nil => cases hf
 | cons y fs ih =>
   obtain ⟨h1, h2⟩ := List.pairwise_cons.1 hu
   unfold Nmd.del
   rw [List.filter_cons]
   rcases List.mem_cons.1 hf with rfl | hf'
   ·rw [if_neg (by simp), List.filter_eq_self.2]
    ·cases fs with
     | nil => rfl
     | cons z fs =>
       unfold Nmd.ins
       have hz : F.name f < F.name z := h1 z List.mem_cons_self
       rw [if_neg (fun e => List.lt_irrefl _ (List.lt_trans hz e))]
    ·intro z hz
     have : z.name ≠ f.name := fun e => List.lt_irrefl _ (by have := h1 z hz; rw [e] at this; exact this)
     rw [beq_eq_false_iff_ne.2 this]; rfl
   ·have hy : F.name y < F.name f := h1 f hf'
    have hne : F.name y ≠ F.name f := fun e => List.lt_irrefl _ (by rw [e] at hy; exact hy)
    rw [if_pos (by rw [beq_eq_false_iff_ne.2 hne]; rfl)]
    have := ih h2 hf'
    unfold Nmd.del at this
    show Nmd.ins F.name f (y :: _) = _
    unfold Nmd.ins
    rw [if_pos hy, this]
theorem del_comm (n t : List UInt8) (fs : List F) : Nmd.del F.name n (Nmd.del F.name t fs) = Nmd.del F.name t (Nmd.del F.name n fs) := by
 unfold Nmd.del
 rw [List.filter_filter, List.filter_filter]
 congr 1
 funext y
 rw [Bool.and_comm]
set_option maxRecDepth 100000 in
set_option maxHeartbeats 1000000 in
theorem rename_ref {w : World} {b : Nat} {v : Value} {r : R} {p : P} (h : Both w b v r p) (n t : List UInt8) :
  Calls Tryz.prog 58 #[.pointer (some ⟨b, 0, none⟩), .string ⟨n.toArray⟩, .string ⟨t.toArray⟩] w (RP b w v (.int .i64 (p.rename n t).1) (p.rename n t).2) := by
 have hb := begin2 h n t
 obtain ⟨A, cap, hv⟩ := h.rd.row.len
 rw [h.sim.l] at hv
 subst hv
 have hu := h.good.up
 have hcn := h.good.cnt
 obtain ⟨fs, s⟩ := p
 dsimp only at *
 generalize hres : P.rename ⟨fs, s⟩ n t = res
 unfold P.rename at hres
 dsimp only at hres
 generalize s.begin [n, t] = sb at hb hres
 obtain ⟨er, s1⟩ := sb
 dsimp only at hb hres
 have hrk := y_ hres
 clear hres h
 by_cases he : er = 0
 ·subst he
  have hrs := hrk.out
  rw [if_neg (fun h => h rfl)] at hrs
  rcases place_get hu n with ⟨hg, hpv⟩ | ⟨k, f, hk, hf, hg, hpv, hd, hx⟩
  ·rw [hg] at hrs
   dsimp only at hrs
   subst hrs
   clear hrk
   go_enter Tryz.func58, Tryz.ntmps58
   go_wp2_with (first
    | (go_at_call 48; refine hb.mono ?_; rintro e w1 ⟨rfl, r1, hR1, hS1, hB1⟩; have hpl := Both.placed hR1 hS1.l hcn n; rw [hpv] at hpl)
    | (go_at_call 38; refine hpl.mono ?_; rintro e _ ⟨rfl, rfl⟩))
   go_ret
   exact ⟨rfl, _, r1, hR1, hS1, hB1, Newer.refl _ _⟩
  ·rw [hg] at hrs
   dsimp only at hrs
   have hfn : f.name = n := (Nmd.get_mem hg).2
   have hfm := (Nmd.get_mem hg).1
   have hu2 : Nmd.Up F.name (Nmd.del F.name n fs) := hu.del n
   have hcn2 : (Nmd.del F.name n fs).length ≤ 200 := Nat.le_trans (List.length_filter_le _ _) hcn
   -- what the rest gives: the list that is put at last
   have hfin : Hid (∃ u : Int, ((0 : Int), (⟨Nmd.ins F.name ⟨t, f.l, f.safe⟩ (Nmd.del F.name t (Nmd.del F.name n fs)), { s1 with used := u }⟩ : P)) = res) := y_ (by
    by_cases hnt : n = t
    ·rw [if_pos hnt] at hrs
     refine ⟨s1.used, ?_⟩
     rw [← hrs, ← hnt]
     have e1 : (⟨n, f.l, f.safe⟩ : F) = f := by rw [← hfn]
     have e2 : Nmd.del F.name n (Nmd.del F.name n fs) = Nmd.del F.name n fs := by
      unfold Nmd.del
      rw [List.filter_filter]
      simp
     rw [e1, e2, ← hfn, ins_del hu hfm]
    ·rw [if_neg hnt] at hrs
     cases hg2 : Nmd.get F.name t fs with
     | none =>
       rw [hg2] at hrs
       dsimp only at hrs
       refine ⟨s1.used, ?_⟩
       rw [← hrs]
       have : Nmd.del F.name t (Nmd.del F.name n fs) = Nmd.del F.name n fs := by
        unfold Nmd.del
        apply List.filter_eq_self.2
        intro y hy
        have hy2 := (List.mem_filter.1 hy).1
        rw [beq_eq_false_iff_ne.2 (Nmd.get_none hg2 y hy2)]; rfl
       rw [this]
     | some g =>
       rw [hg2] at hrs
       dsimp only at hrs
       refine ⟨s1.used - g.l.length, ?_⟩
       rw [← hrs, del_comm])
   clear hrs hrk
   have hndel : ∀ y ∈ Nmd.del F.name t (Nmd.del F.name n fs), y.name ≠ t := fun y hy => (Nmd.mem_del.1 hy).2
   have HND := y_ hndel
   have HD := y_ hd
   clear hndel hd hx hg hfm
   go_enter Tryz.func58, Tryz.ntmps58
   go_upto_region 7 with (first
    | (go_at_call 48; refine hb.mono ?_; rintro e w1 ⟨rfl, r1, hR1, hS1, hB1⟩; have hpl := Both.placed hR1 hS1.l hcn n; rw [hpv] at hpl; have c0 := hR1.c.1; have HL := y_ hS1.l)
    | (go_at_call 38; refine hpl.mono ?_; rintro e w2 ⟨rfl, e2⟩; subst e2))
   have hrow : LV w2 (.slice A fs.length cap) fs := by
    have := hR1.row
    rw [HL.out] at this
    exact this
   rcases hrow.form with ⟨_, h2⟩ | ⟨g, cap', h2, _, _, _⟩
   ·rw [h2] at hk; exact absurd hk (Nat.not_lt_zero _)
   injection h2 with h2 h2b h3
   clear h2b
   subst h2 h3
   have hrg := hrow.range k hk
   rw [hf] at hrg
   refine wp_region_lit ?_
   iterate 18 go_step
   refine wpList_file rfl _ rfl g (k * 3) rfl f hrg ?_
   simp only [z_1, z_2, z_3, z_4, z_5, z_b, z_6, z_7, z_8, z_9, z_0]
   iterate 3 go_step
   have hbf := Blk.new w2 65 #[.string ⟨#[]⟩, .string ⟨#[]⟩, .int .i64 0]
   refine wpList_stfile rfl _ _ rfl (w2).heap.size 0 f rfl rfl (hbf.there 3 (Nat.le_refl _)) ?_
   simp only [z_1, z_2, z_3, z_4, z_5, z_b, z_6, z_7, z_8, z_9, z_0]
   clear hbf
   obtain ⟨hb8, hx8⟩ := newfile w2 f #[.string ⟨#[]⟩, .string ⟨#[]⟩, .int .i64 0] rfl
   generalize hw8 : ((w2).alloc (Obj.cells #[.string ⟨#[]⟩, .string ⟨#[]⟩, .int .i64 0] 65)).setCells (w2).heap.size 0 (fcs f) = w8 at *
   clear hw8
   have HB8 := y_ hb8
   have HX8 := y_ hx8
   have k0 := hb8.cell 0
   have fz := hb8.frozen 0
   have hgl : w2.heap.size < w8.heap.size := hb8.lt
   have hR8 := hR1.ext hx8
   have hgg : g < w2.heap.size := hR1.row.lt rfl
   have hX8s : w2.heap.size ≤ w8.heap.size := hx8.size
   have hbl : b < w2.heap.size := hR1.blk.lt
   clear hb8 hx8 hpv hpl k0 fz
   generalize hg8 : w2.heap.size = g8 at *
   have hB8 : But b w w8 := hB1.trans (But.of_ext HX8.out)
   rcases place_get hu2 t with ⟨ht, hpt⟩ | ⟨k2, f2, hk2, hf2, ht, hpt, hd2, hx2⟩
   ·have hdt : Nmd.del F.name t (Nmd.del F.name n fs) = Nmd.del F.name n fs := by
     conv => lhs; unfold Nmd.del
     apply List.filter_eq_self.2
     intro y hy
     rw [beq_eq_false_iff_ne.2 (Nmd.get_none ht y hy)]; rfl
    have HDT := y_ hdt
    clear hdt
    go_upto_region 12 with (first
     | (go_at_call 65; refine (drop_any _ b _ r1 hR8 k (by rw [HL.out]; exact hk) (by rw [HL.out]; exact hcn)).mono ?_; rintro e w3 ⟨rfl, v3, hR3, hB3, hN3⟩; have HL3 : Hid (({ r1 with l := r1.l.take k ++ r1.l.drop (k + 1) } : R).l = Nmd.del F.name n fs) := y_ (by show r1.l.take k ++ r1.l.drop (k + 1) = _; rw [HL.out]; exact HD.out); have hpl2 := Both.placed hR3 HL3.out hcn2 t; rw [hpt] at hpl2)
     | (go_at_call 38; refine hpl2.mono ?_; rintro e w4 ⟨rfl, e4⟩; subst e4))
    have hb4 : Blk w4 g8 65 (fcs f) := (hB3.block g8 hgl (fun e => by injection e with e; omega)).trans HB8.out
    have hnv : v3.ownBlock ≠ some g8 := by
     rcases hN3 with e | e
     ·rw [e]
      intro e2
      have e2 : some g = some g8 := e2
      injection e2 with e2
      omega
     ·intro e2
      have := e _ e2
      omega
    have k0 := hb4.cell 0
    have fz := hb4.frozen 0
    dsimp only [fcs, List.getElem?_cons_zero, List.getElem?_cons_succ] at k0
    have hb9 : Blk (w4.setCell ⟨g8, 0, none⟩ (.string ⟨t.toArray⟩)) g8 65 (fcs ⟨t, f.l, f.safe⟩) := hb4.set_ 0 _
    have hR9 := RD.grown hR3 (But.set_ g8 w4 0 (.string ⟨t.toArray⟩)) (by omega) hnv
    have hB9 : But b w (w4.setCell ⟨g8, 0, none⟩ (.string ⟨t.toArray⟩)) := by
     have h1 := hB8.trans hB3
     have hww := hB1.size
     refine ⟨h1.os, h1.tape, h1.output, by rw [World.size_setCell]; exact h1.size, fun i hi hib => ?_⟩
     exact (Below.heap_setCell w4 ⟨g8, 0, none⟩ _ i (by show i ≠ g8; omega)).trans (h1.block i hi hib)
    have HB9 := y_ hb9
    have HR9 := y_ hR9
    have HBB := y_ hB9
    have hs9 : w.heap.size ≤ (w4.setCell ⟨g8, 0, none⟩ (.string ⟨t.toArray⟩)).heap.size := hB9.size
    clear hb9 hR9 hB9 hb4
    go_upto_region 13 with (fail)
    generalize w4.setCell ⟨g8, 0, none⟩ (.string ⟨t.toArray⟩) = w9 at *
    refine wp_region_lit ?_
    iterate 3 go_step
    refine wpList_file rfl _ rfl g8 0 rfl ⟨t, f.l, f.safe⟩ (blk_range HB9.out) ?_
    simp only [z_1, z_2, z_3, z_4, z_5, z_b, z_6, z_7, z_8, z_9, z_0]
    go_wp2_with (go_at_call 66; refine (put_any _ b _ _ HR9.out ⟨t, f.l, f.safe⟩ (by rw [HL3.out]; exact Nmd.get_none ht) (by rw [HL3.out]; exact hcn2)).mono ?_; rintro e wz ⟨rfl, vz, hRz, hBz, hNz⟩)
    go_ret
    obtain ⟨u, hu9⟩ := hfin.out
    subst hu9
    refine ⟨rfl, vz, _, hRz, ?_, HBB.out.trans hBz, ?_⟩
    ·rw [HL3.out, HDT.out]
     exact hS1.with_ _ u
    ·exact ((Newer.refl w _).trans hN3 hB8.size).trans hNz hs9
   ·have HD2 := y_ hd2
    clear hd2 hx2 hf2 ht hu2
    go_upto_region 12 with (first
     | (go_at_call 65; refine (drop_any _ b _ _ hR3 k2 (by rw [HL3.out]; exact hk2) (by rw [HL3.out]; exact hcn2)).mono ?_; rintro e w4 ⟨rfl, v4, hR4, hB4, hN4⟩)
     | (go_at_call 65; refine (drop_any _ b _ r1 hR8 k (by rw [HL.out]; exact hk) (by rw [HL.out]; exact hcn)).mono ?_; rintro e w3 ⟨rfl, v3, hR3, hB3, hN3⟩; have HL3 : Hid (({ r1 with l := r1.l.take k ++ r1.l.drop (k + 1) } : R).l = Nmd.del F.name n fs) := y_ (by show r1.l.take k ++ r1.l.drop (k + 1) = _; rw [HL.out]; exact HD.out); have hpl2 := Both.placed hR3 HL3.out hcn2 t; rw [hpt] at hpl2)
     | (go_at_call 38; refine hpl2.mono ?_; rintro e w5 ⟨rfl, e4⟩; subst e4))
    have hN4s : Newer w8 _ v4 := hN3.trans hN4 hB3.size
    have hB34 := hB3.trans hB4
    have HL4 : Hid (({ ({ r1 with l := r1.l.take k ++ r1.l.drop (k + 1) } : R) with l := ({ r1 with l := r1.l.take k ++ r1.l.drop (k + 1) } : R).l.take k2 ++ ({ r1 with l := r1.l.take k ++ r1.l.drop (k + 1) } : R).l.drop (k2 + 1) } : R).l = Nmd.del F.name t (Nmd.del F.name n fs)) := y_ (by
     show ({ r1 with l := r1.l.take k ++ r1.l.drop (k + 1) } : R).l.take k2 ++ ({ r1 with l := r1.l.take k ++ r1.l.drop (k + 1) } : R).l.drop (k2 + 1) = _
     rw [HL3.out]
     exact HD2.out)
    have hb4 : Blk w4 g8 65 (fcs f) := (hB34.block g8 hgl (fun e => by injection e with e; omega)).trans HB8.out
    have hnv : v4.ownBlock ≠ some g8 := by
     rcases hN4s with e | e
     ·rw [e]
      intro e2
      have e2 : some g = some g8 := e2
      injection e2 with e2
      omega
     ·intro e2
      have := e _ e2
      omega
    have k0 := hb4.cell 0
    have fz := hb4.frozen 0
    dsimp only [fcs, List.getElem?_cons_zero, List.getElem?_cons_succ] at k0
    have hb9 : Blk (w4.setCell ⟨g8, 0, none⟩ (.string ⟨t.toArray⟩)) g8 65 (fcs ⟨t, f.l, f.safe⟩) := hb4.set_ 0 _
    have hR9 := RD.grown hR4 (But.set_ g8 w4 0 (.string ⟨t.toArray⟩)) (by omega) hnv
    have hB9 : But b w (w4.setCell ⟨g8, 0, none⟩ (.string ⟨t.toArray⟩)) := by
     have h1 := hB8.trans hB34
     have hww := hB1.size
     refine ⟨h1.os, h1.tape, h1.output, by rw [World.size_setCell]; exact h1.size, fun i hi hib => ?_⟩
     exact (Below.heap_setCell w4 ⟨g8, 0, none⟩ _ i (by show i ≠ g8; omega)).trans (h1.block i hi hib)
    have HB9 := y_ hb9
    have HR9 := y_ hR9
    have HBB := y_ hB9
    have hs9 : w.heap.size ≤ (w4.setCell ⟨g8, 0, none⟩ (.string ⟨t.toArray⟩)).heap.size := hB9.size
    clear hb9 hR9 hB9 hb4
    go_upto_region 13 with (fail)
    generalize w4.setCell ⟨g8, 0, none⟩ (.string ⟨t.toArray⟩) = w9 at *
    refine wp_region_lit ?_
    iterate 3 go_step
    refine wpList_file rfl _ rfl g8 0 rfl ⟨t, f.l, f.safe⟩ (blk_range HB9.out) ?_
    simp only [z_1, z_2, z_3, z_4, z_5, z_b, z_6, z_7, z_8, z_9, z_0]
    go_wp2_with (go_at_call 66; refine (put_any _ b _ _ HR9.out ⟨t, f.l, f.safe⟩ (by rw [HL4.out]; exact HND.out) (by rw [HL4.out]; exact Nat.le_trans (List.length_filter_le _ _) hcn2)).mono ?_; rintro e wz ⟨rfl, vz, hRz, hBz, hNz⟩)
    go_ret
    obtain ⟨u, hu9⟩ := hfin.out
    subst hu9
    refine ⟨rfl, vz, _, hRz, ?_, HBB.out.trans hBz, ?_⟩
    ·rw [HL4.out]
     exact hS1.with_ _ u
    ·exact ((Newer.refl w _).trans hN4s hB8.size).trans hNz hs9
 ·have hrs := hrk.out
  rw [if_pos he] at hrs
  subst hrs
  have he' : (er == 0) = false := beq_eq_false_iff_ne.2 he
  go_enter Tryz.func58, Tryz.ntmps58
  go_wp2_with (go_at_call 48; refine hb.mono ?_; rintro e w1 ⟨rfl, r1, hR1, hS1, hB1⟩)
  go_ret
  exact ⟨rfl, _, r1, hR1, hS1, hB1, Newer.refl _ _⟩
end Rk
end
end Go.Proofs.YtafeealbdpmdkaaGreatDoor
/- The document's disk beside the plain one: Lay. -/
namespace Go.Proofs.YtafeealbdpmdkaaGreatDoor
open Go Go.RowKit
namespace Rk
open Plk (F P H isName sum)
end Rk
end Go.Proofs.YtafeealbdpmdkaaGreatDoor
/- The document's disk beside the plain one: On. -/
namespace Go.Proofs.YtafeealbdpmdkaaGreatDoor
open Go Go.RowKit
namespace Rk
open Plk (F P H isName sum onL lost keptN)
/-- what On has gathered -/
structure OnR (w1 wr : World) (fs : List F) (ks : List Int) (kk i : Nat) (v : Value) (out : List F) : Prop where
 own : FOw w1 wr v out
 len : out.length = i
 now : out ++ onL (fs.drop i) (ks.drop kk) = onL fs ks
theorem kept_of (f : F) (x : Int) (hs : f.safe < f.l.length) (hl : f.l.length ≤ 4194304) (hx : 0 < x) : ∃ kp : Nat, wrap64 (x % ((f.l.length : Int) - (f.safe : Int) + 1)) = (kp : Int) ∧ keptN f (max x 0).toNat = f.safe + kp ∧ f.safe + kp ≤ f.l.length := by
 obtain ⟨n, rfl⟩ := Int.eq_ofNat_of_zero_le (Int.le_of_lt hx)
 have e1 : ((f.l.length : Int) - (f.safe : Int) + 1) = ((f.l.length - f.safe + 1 : Nat) : Int) := by omega
 have e2 : (max (n : Int) 0).toNat = n := by omega
 have hlt := Nat.mod_lt n (show 0 < f.l.length - f.safe + 1 by omega)
 refine ⟨n % (f.l.length - f.safe + 1), ?_, ?_, by omega⟩
 ·rw [e1, ← Int.natCast_emod, IntWalk.wrap64_in _ ⟨by omega, by omega⟩]
 ·unfold keptN
  rw [e2]
theorem cut_ext (l : List UInt8) (m : Nat) : (⟨l.toArray⟩ : ByteArray).extract 0 m = ⟨(l.take m).toArray⟩ := by
 apply ByteArray.ext
 rw [ByteArray.data_extract]
 apply Array.ext'
 simp
theorem kept_zero (f : F) : keptN f 0 = f.safe := by
 unfold keptN
 rw [Nat.zero_mod, Nat.add_zero]
set_option maxRecDepth 100000 in
set_option maxHeartbeats 1000000 in
theorem on_any (w : World) (b : Nat) (v : Value) (r : R) (h : RD w b v r) (q : Option Addr) (c : Nat) (ks : List Int) (hk : Rd w q (ks.map (Value.int .i64))) (hkb : ∀ ad, ks ≠ [] → q = some ad → ad.block ≠ b)
  (hx : ∀ x ∈ ks, -9223372036854775808 ≤ x ∧ x ≤ 9223372036854775807) (hks : ks.length ≤ 100) (hl : r.l.length ≤ 200) (hsf : ∀ f ∈ r.l, f.safe ≤ f.l.length) (hll : ∀ f ∈ r.l, f.l.length ≤ 4194304) :
  Calls Tryz.prog 16 #[.pointer (some ⟨b, 0, none⟩), .slice q ks.length c] w fun e w' => e = .returned (.tuple #[]) ∧ ∃ v', RD w' b v' (if r.off = true then { r with off := false, l := onL r.l ks } else r) ∧ But b w w' ∧ Newer w v v' := by
 obtain ⟨c0, c1, c2, c3, c4, c5, c6⟩ := h.c
 have f6 := h.blk.frozen 6
 obtain ⟨A, cap, hv⟩ := h.row.len
 subst hv
 obtain ⟨fs, room, ops, at_, kind, more, off⟩ := r
 dsimp only at *
 cases off with
 | false =>
   rw [if_neg Bool.false_ne_true]
   go_enter Tryz.func16, Tryz.ntmps16
   go_wp2
   refine bodyPost_ret (results_none rfl _ _ _) rfl ?_
   exact ⟨rfl, _, h, But.refl _ _, Newer.refl _ _⟩
 | true =>
   rw [if_pos rfl]
   have h1 : RD (w.setCell ⟨b, 6, none⟩ (.bool false)) b (.slice A fs.length cap) ⟨fs, room, ops, at_, kind, more, false⟩ := h.set_ 6 _ rfl rfl
   have hb1 : But b w (w.setCell ⟨b, 6, none⟩ (.bool false)) := But.set_ b w 6 _
   have hk1 : ∀ j (hj : j < ks.length), ∃ ad, q = some ad ∧ ad.block < (w.setCell ⟨b, 6, none⟩ (.bool false)).heap.size ∧ (w.setCell ⟨b, 6, none⟩ (.bool false)).cell? (ad.add j) = some (.int .i64 ks[j]) := fun j hj => by
    obtain ⟨ad, e, hlt, hcl⟩ := hk j (by rw [List.length_map]; exact hj)
    refine ⟨ad, e, by rw [World.size_setCell]; exact hlt, ?_⟩
    have hbk : (ad.add j).block = ad.block := by unfold Addr.add; split <;> rfl
    rw [World.cell?_of_block (w := w) (by rw [hbk]; exact hb1.block ad.block hlt fun e2 => hkb ad (fun e3 => by rw [e3] at hj; exact absurd hj (Nat.not_lt_zero _)) e (by injection e2)), hcl]
    simp
   have HK := y_ hk1
   have H1 := y_ h1
   have HB1 := y_ hb1
   have HX := y_ hx
   have HSF := y_ hsf
   have HLL := y_ hll
   go_enter Tryz.func16, Tryz.ntmps16
   go_wp2_with fail
   clear c0 c1 c2 c3 c4 c5 c6 f6 h1 hb1 hk1 hx hsf hll hk hkb h
   have hn0 := FOw.new (Reg.Ext.refl (w.setCell ⟨b, 6, none⟩ (.bool false)))
   rw [World.size_setCell] at hn0
   have HN := y_ hn0
   have hsz : Hid (w.heap.size ≤ (w.setCell ⟨b, 6, none⟩ (.bool false)).heap.size) := y_ (by rw [World.size_setCell]; exact Nat.le_refl _)
   clear hn0
   generalize w.setCell ⟨b, 6, none⟩ (.bool false) = w1 at *
   go_loopw [4, 5, 6, 7, 8, 9] (fun k o i _ _ _ wr => ∃ (kk j : Nat) (out : List F), k = .int .i64 (kk : Int) ∧ i = .int .i64 (j : Int) ∧ j ≤ fs.length ∧ kk ≤ j ∧ Hid (OnR w1 wr fs ks kk j o out)) (fun _ _ i _ _ _ _ => fs.length - (intOf i).toNat)
   case atStart => exact ⟨0, 0, [], rfl, rfl, Nat.zero_le _, Nat.le_refl _, y_ ⟨HN.out, rfl, rfl⟩⟩
   case round =>
    obtain ⟨kk, j, out, rfl, rfl, hj, hkj, HO⟩ := hrel
    by_cases hjs : j < fs.length
    ·rcases H1.out.row.form with ⟨_, h2⟩ | ⟨g, cap', h2, _, _, _⟩
     ·have h2 : fs = [] := h2
      rw [h2] at hjs; exact absurd hjs (Nat.not_lt_zero _)
     injection h2 with h2 h2b h3
     clear h2b
     subst h2 h3
     have c0 := (H1.out.ext HO.out.own.2).c.1
     have hrg := (H1.out.ext HO.out.own.2).row.range j hjs
     have hsf := HSF.out _ (List.getElem_mem hjs)
     have hll := HLL.out _ (List.getElem_mem hjs)
     have hdr : fs.drop j = fs[j] :: fs.drop (j + 1) := List.drop_eq_getElem_cons hjs
     have HDR := y_ hdr
     clear hdr
     generalize fs[j] = f at *
     go_upto_region 7 with (fail)
     refine wp_region_lit ?_
     iterate 18 go_step
     refine wpList_file rfl _ rfl g (j * 3) rfl f hrg ?_
     simp only [z_1, z_2, z_3, z_4, z_5, z_b, z_6, z_7, z_8, z_9, z_0]
     iterate 3 go_step
     have hbf := Blk.new wr 65 #[.string ⟨#[]⟩, .string ⟨#[]⟩, .int .i64 0]
     refine wpList_stfile rfl _ _ rfl wr.heap.size 0 f rfl rfl (hbf.there 3 (Nat.le_refl _)) ?_
     simp only [z_1, z_2, z_3, z_4, z_5, z_b, z_6, z_7, z_8, z_9, z_0]
     clear hbf
     obtain ⟨hb8, hx8⟩ := newfile wr f #[.string ⟨#[]⟩, .string ⟨#[]⟩, .int .i64 0] rfl
     generalize (wr.alloc (Obj.cells #[.string ⟨#[]⟩, .string ⟨#[]⟩, .int .i64 0] 65)).setCells wr.heap.size 0 (fcs f) = w8 at *
     have k1 := hb8.cell 1
     have k2 := hb8.cell 2
     have fz1 := hb8.frozen 1
     have fz2 := hb8.frozen 2
     dsimp only [fcs, List.getElem?_cons_zero, List.getElem?_cons_succ] at k1 k2
     have hz := bz f.l
     have HB8 := y_ hb8
     have HX8 := y_ hx8
     clear hb8 hx8 hrg c0
     by_cases hs : f.safe = f.l.length
     ·have hf' : (⟨f.name, f.l, f.l.length⟩ : F) = f := by rw [← hs]
      have HF' := y_ hf'
      have HS' := y_ hs
      clear hf'
      go_upto_region 16 with (fail)
      have hb9 : Blk (w8.setCell ⟨wr.heap.size, 2, none⟩ (.int .i64 (f.l.length : Int))) wr.heap.size 65 (fcs f) := by
       have := HB8.out.set_ 2 (.int .i64 (f.l.length : Int))
       have e : (fcs f).set 2 (.int .i64 (f.l.length : Int)) = fcs f := by
        conv => rhs; rw [← HF'.out]
        rfl
       rw [e] at this
       exact this
      have HB9 := y_ hb9
      have HX9 : Hid (Reg.Ext wr (w8.setCell ⟨wr.heap.size, 2, none⟩ (.int .i64 (f.l.length : Int)))) := y_ (HX8.out.trans_but (But.set_ wr.heap.size w8 2 _) (Nat.le_refl _))
      clear hb9
      generalize w8.setCell ⟨wr.heap.size, 2, none⟩ (.int .i64 (f.l.length : Int)) = w9 at *
      refine wp_region_lit ?_
      iterate 3 go_step
      refine wpList_file rfl _ rfl wr.heap.size 0 rfl f (blk_range HB9.out) ?_
      simp only [z_1, z_2, z_3, z_4, z_5, z_b, z_6, z_7, z_8, z_9, z_0]
      refine one_file rfl _ rfl f rfl _ ?_
      simp only [z_1, z_2, z_3, z_4, z_5, z_b, z_6, z_7, z_8, z_9, z_0]
      refine FOw.push rfl _ _ rfl w1 _ out f rfl _ _ ((HO.out.own.later HX9.out).later (Reg.Ext.alloc _ _)) rfl (Blk.new _ _ _) (by have := HO.out.len; omega) ?_
      intro v3 w3 hf3
      simp only [z_1, z_2, z_3, z_4, z_5, z_b, z_6, z_7, z_8, z_9, z_0]
      have F3 := y_ hf3
      clear hf3
      go_wp2_with fail
      go_roundw
      case rel =>
       refine ⟨kk, j + 1, out ++ [f], rfl, by go_num, by omega, by omega, y_ ⟨F3.out, by rw [List.length_append, HO.out.len]; rfl, ?_⟩⟩
       have h := HO.out.now
       rw [HDR.out] at h
       conv at h => lhs; rhs; unfold onL
       rw [if_pos HS'.out] at h
       rw [List.append_assoc]
       exact h
      case measure => simp [intOf]; omega
     ·have hs2 : f.safe < f.l.length := by omega
      by_cases hkl : kk < ks.length
      ·obtain ⟨ad, rfl, hadl, hkc0⟩ := HK.out kk hkl
       have hkc : w8.cell? (ad.add kk) = some (.int .i64 ks[kk]) := ((HO.out.own.2.trans HX8.out).cell (p := ad.add kk) (by unfold Addr.add; split <;> simpa using hadl)).trans hkc0
       have hxb := HX.out _ (List.getElem_mem hkl)
       have hdk : ks.drop kk = ks[kk] :: ks.drop (kk + 1) := List.drop_eq_getElem_cons hkl
       have HDK := y_ hdk
       clear hdk hkc0
       generalize ks[kk] = x at *
       obtain ⟨x1, x2⟩ := hxb
       by_cases hxp : 0 < x
       ·obtain ⟨kp, hkp, hkn, hkle⟩ := kept_of f x hs2 hll hxp
        have HKN := y_ hkn
        clear hkn
        have HNS := y_ hs
        go_upto_region 15 with (fail)
        rw [cut_ext]
        have hb7 : Blk (w8.setCell ⟨wr.heap.size, 1, none⟩ (.string ⟨(f.l.take (f.safe + kp)).toArray⟩)) wr.heap.size 65 (fcs ⟨f.name, f.l.take (f.safe + kp), f.safe⟩) := HB8.out.set_ 1 _
        have HX7 : Hid (Reg.Ext wr (w8.setCell ⟨wr.heap.size, 1, none⟩ (.string ⟨(f.l.take (f.safe + kp)).toArray⟩))) := y_ (HX8.out.trans_but (But.set_ wr.heap.size w8 1 _) (Nat.le_refl _))
        have htl : (f.l.take (f.safe + kp)).length = (f.safe + kp) := by rw [List.length_take]; omega
        have hzt := bz (f.l.take (f.safe + kp))
        rw [htl] at hzt
        generalize htk : f.l.take (f.safe + kp) = tl at *
        generalize w8.setCell ⟨wr.heap.size, 1, none⟩ (.string ⟨tl.toArray⟩) = w7 at *
        have k3 := hb7.cell 1
        have k4 := hb7.cell 2
        have fz3 := hb7.frozen 2
        dsimp only [fcs, List.getElem?_cons_zero, List.getElem?_cons_succ] at k3 k4
        have hb9 : Blk (w7.setCell ⟨wr.heap.size, 2, none⟩ (.int .i64 ((f.safe : Int) + (kp : Int)))) wr.heap.size 65 (fcs ⟨f.name, tl, (f.safe + kp)⟩) := hb7.set_ 2 _
        have HB9 := y_ hb9
        have HX9 : Hid (Reg.Ext wr (w7.setCell ⟨wr.heap.size, 2, none⟩ (.int .i64 ((f.safe : Int) + (kp : Int))))) := y_ (HX7.out.trans_but (But.set_ wr.heap.size w7 2 _) (Nat.le_refl _))
        have HTK := y_ htk
        clear hb9 hb7 k1 k2 fz1 fz2 htk htl
        go_upto_region 16 with (fail)
        generalize w7.setCell ⟨wr.heap.size, 2, none⟩ (.int .i64 ((f.safe : Int) + (kp : Int))) = w9 at *
        refine wp_region_lit ?_
        iterate 3 go_step
        refine wpList_file rfl _ rfl wr.heap.size 0 rfl ⟨f.name, tl, (f.safe + kp)⟩ (blk_range HB9.out) ?_
        simp only [z_1, z_2, z_3, z_4, z_5, z_b, z_6, z_7, z_8, z_9, z_0]
        refine one_file rfl _ rfl ⟨f.name, tl, (f.safe + kp)⟩ rfl _ ?_
        simp only [z_1, z_2, z_3, z_4, z_5, z_b, z_6, z_7, z_8, z_9, z_0]
        refine FOw.push rfl _ _ rfl w1 _ out ⟨f.name, tl, (f.safe + kp)⟩ rfl _ _ ((HO.out.own.later HX9.out).later (Reg.Ext.alloc _ _)) rfl (Blk.new _ _ _) (by have := HO.out.len; omega) ?_
        intro v3 w3 hf3
        simp only [z_1, z_2, z_3, z_4, z_5, z_b, z_6, z_7, z_8, z_9, z_0]
        have F3 := y_ hf3
        clear hf3
        go_wp2_with fail
        go_roundw
        case rel =>
         refine ⟨kk + 1, j + 1, out ++ [⟨f.name, tl, (f.safe + kp)⟩], by go_num, by go_num, by omega, by omega, y_ ⟨F3.out, by rw [List.length_append, HO.out.len]; rfl, ?_⟩⟩
         have h := HO.out.now
         rw [HDR.out, HDK.out] at h
         conv at h => lhs; rhs; unfold onL
         rw [if_neg HNS.out] at h
         have hlo : lost f (max x 0).toNat = ⟨f.name, tl, (f.safe + kp)⟩ := by
          unfold lost
          rw [HKN.out, HTK.out]
         rw [List.append_assoc]
         refine Eq.trans ?_ h
         show out ++ (⟨f.name, tl, (f.safe + kp)⟩ :: _) = _
         rw [← hlo]
         rfl
        case measure => simp [intOf]; omega
       ·have hkn : keptN f (max x 0).toNat = f.safe := by rw [show (max x 0).toNat = 0 by omega, kept_zero]
        have HKN := y_ hkn
        have HNS := y_ hs
        clear hkn
        go_upto_region 15 with (fail)
        rw [cut_ext]
        have hb7 : Blk (w8.setCell ⟨wr.heap.size, 1, none⟩ (.string ⟨(f.l.take f.safe).toArray⟩)) wr.heap.size 65 (fcs ⟨f.name, f.l.take f.safe, f.safe⟩) := HB8.out.set_ 1 _
        have HX7 : Hid (Reg.Ext wr (w8.setCell ⟨wr.heap.size, 1, none⟩ (.string ⟨(f.l.take f.safe).toArray⟩))) := y_ (HX8.out.trans_but (But.set_ wr.heap.size w8 1 _) (Nat.le_refl _))
        have htl : (f.l.take f.safe).length = f.safe := by rw [List.length_take]; omega
        have hzt := bz (f.l.take f.safe)
        rw [htl] at hzt
        generalize htk : f.l.take f.safe = tl at *
        generalize w8.setCell ⟨wr.heap.size, 1, none⟩ (.string ⟨tl.toArray⟩) = w7 at *
        have k3 := hb7.cell 1
        have k4 := hb7.cell 2
        have fz3 := hb7.frozen 2
        dsimp only [fcs, List.getElem?_cons_zero, List.getElem?_cons_succ] at k3 k4
        have hb9 : Blk (w7.setCell ⟨wr.heap.size, 2, none⟩ (.int .i64 (f.safe : Int))) wr.heap.size 65 (fcs ⟨f.name, tl, f.safe⟩) := hb7.set_ 2 _
        have HB9 := y_ hb9
        have HX9 : Hid (Reg.Ext wr (w7.setCell ⟨wr.heap.size, 2, none⟩ (.int .i64 (f.safe : Int)))) := y_ (HX7.out.trans_but (But.set_ wr.heap.size w7 2 _) (Nat.le_refl _))
        have HTK := y_ htk
        clear hb9 hb7 k1 k2 fz1 fz2 htk htl
        go_upto_region 16 with (fail)
        generalize w7.setCell ⟨wr.heap.size, 2, none⟩ (.int .i64 (f.safe : Int)) = w9 at *
        refine wp_region_lit ?_
        iterate 3 go_step
        refine wpList_file rfl _ rfl wr.heap.size 0 rfl ⟨f.name, tl, f.safe⟩ (blk_range HB9.out) ?_
        simp only [z_1, z_2, z_3, z_4, z_5, z_b, z_6, z_7, z_8, z_9, z_0]
        refine one_file rfl _ rfl ⟨f.name, tl, f.safe⟩ rfl _ ?_
        simp only [z_1, z_2, z_3, z_4, z_5, z_b, z_6, z_7, z_8, z_9, z_0]
        refine FOw.push rfl _ _ rfl w1 _ out ⟨f.name, tl, f.safe⟩ rfl _ _ ((HO.out.own.later HX9.out).later (Reg.Ext.alloc _ _)) rfl (Blk.new _ _ _) (by have := HO.out.len; omega) ?_
        intro v3 w3 hf3
        simp only [z_1, z_2, z_3, z_4, z_5, z_b, z_6, z_7, z_8, z_9, z_0]
        have F3 := y_ hf3
        clear hf3
        go_wp2_with fail
        go_roundw
        case rel =>
         refine ⟨kk + 1, j + 1, out ++ [⟨f.name, tl, f.safe⟩], by go_num, by go_num, by omega, by omega, y_ ⟨F3.out, by rw [List.length_append, HO.out.len]; rfl, ?_⟩⟩
         have h := HO.out.now
         rw [HDR.out, HDK.out] at h
         conv at h => lhs; rhs; unfold onL
         rw [if_neg HNS.out] at h
         have hlo : lost f (max x 0).toNat = ⟨f.name, tl, f.safe⟩ := by
          unfold lost
          rw [HKN.out, HTK.out]
         rw [List.append_assoc]
         refine Eq.trans ?_ h
         show out ++ (⟨f.name, tl, f.safe⟩ :: _) = _
         rw [← hlo]
         rfl
        case measure => simp [intOf]; omega
      ·have hdk : ks.drop kk = [] := List.drop_of_length_le (by omega)
       have HDK := y_ hdk
       have hkn : keptN f (max (0 : Int) 0).toNat = f.safe := kept_zero f
       have HKN := y_ hkn
       have HNS := y_ hs
       have hdk2 : ks.drop (kk + 1) = [] := List.drop_of_length_le (by omega)
       have HDK2 := y_ hdk2
       clear hkn hdk hdk2
       go_upto_region 15 with (fail)
       rw [cut_ext]
       have hb7 : Blk (w8.setCell ⟨wr.heap.size, 1, none⟩ (.string ⟨(f.l.take f.safe).toArray⟩)) wr.heap.size 65 (fcs ⟨f.name, f.l.take f.safe, f.safe⟩) := HB8.out.set_ 1 _
       have HX7 : Hid (Reg.Ext wr (w8.setCell ⟨wr.heap.size, 1, none⟩ (.string ⟨(f.l.take f.safe).toArray⟩))) := y_ (HX8.out.trans_but (But.set_ wr.heap.size w8 1 _) (Nat.le_refl _))
       have htl : (f.l.take f.safe).length = f.safe := by rw [List.length_take]; omega
       have hzt := bz (f.l.take f.safe)
       rw [htl] at hzt
       generalize htk : f.l.take f.safe = tl at *
       generalize w8.setCell ⟨wr.heap.size, 1, none⟩ (.string ⟨tl.toArray⟩) = w7 at *
       have k3 := hb7.cell 1
       have k4 := hb7.cell 2
       have fz3 := hb7.frozen 2
       dsimp only [fcs, List.getElem?_cons_zero, List.getElem?_cons_succ] at k3 k4
       have hb9 : Blk (w7.setCell ⟨wr.heap.size, 2, none⟩ (.int .i64 (f.safe : Int))) wr.heap.size 65 (fcs ⟨f.name, tl, f.safe⟩) := hb7.set_ 2 _
       have HB9 := y_ hb9
       have HX9 : Hid (Reg.Ext wr (w7.setCell ⟨wr.heap.size, 2, none⟩ (.int .i64 (f.safe : Int)))) := y_ (HX7.out.trans_but (But.set_ wr.heap.size w7 2 _) (Nat.le_refl _))
       have HTK := y_ htk
       clear hb9 hb7 k1 k2 fz1 fz2 htk htl
       go_upto_region 16 with (fail)
       generalize w7.setCell ⟨wr.heap.size, 2, none⟩ (.int .i64 (f.safe : Int)) = w9 at *
       refine wp_region_lit ?_
       iterate 3 go_step
       refine wpList_file rfl _ rfl wr.heap.size 0 rfl ⟨f.name, tl, f.safe⟩ (blk_range HB9.out) ?_
       simp only [z_1, z_2, z_3, z_4, z_5, z_b, z_6, z_7, z_8, z_9, z_0]
       refine one_file rfl _ rfl ⟨f.name, tl, f.safe⟩ rfl _ ?_
       simp only [z_1, z_2, z_3, z_4, z_5, z_b, z_6, z_7, z_8, z_9, z_0]
       refine FOw.push rfl _ _ rfl w1 _ out ⟨f.name, tl, f.safe⟩ rfl _ _ ((HO.out.own.later HX9.out).later (Reg.Ext.alloc _ _)) rfl (Blk.new _ _ _) (by have := HO.out.len; omega) ?_
       intro v3 w3 hf3
       simp only [z_1, z_2, z_3, z_4, z_5, z_b, z_6, z_7, z_8, z_9, z_0]
       have F3 := y_ hf3
       clear hf3
       go_wp2_with fail
       go_roundw
       case rel =>
        refine ⟨kk + 1, j + 1, out ++ [⟨f.name, tl, f.safe⟩], by go_num, by go_num, by omega, by omega, y_ ⟨F3.out, by rw [List.length_append, HO.out.len]; rfl, ?_⟩⟩
        have h := HO.out.now
        rw [HDR.out, HDK.out] at h
        conv at h => lhs; rhs; unfold onL
        rw [if_neg HNS.out] at h
        have hlo : lost f (max (0 : Int) 0).toNat = ⟨f.name, tl, f.safe⟩ := by
         unfold lost
         rw [HKN.out, HTK.out]
        rw [List.append_assoc]
        refine Eq.trans ?_ h
        rw [HDK2.out]
        show out ++ (⟨f.name, tl, f.safe⟩ :: _) = _
        rw [← hlo]
        rfl
       case measure => simp [intOf]; omega
    ·have hje : j = fs.length := by omega
     subst hje
     have hfin : out = onL fs ks := by
      have h := HO.out.now
      rw [List.drop_of_length_le (Nat.le_refl _)] at h
      rw [← h]
      unfold onL
      simp
     subst hfin
     have c0 := (H1.out.ext HO.out.own.2).c.1
     obtain ⟨s1, s2, s3, s4⟩ := H1.out.shut HO.out.own
     obtain ⟨A3, cap3, hv3⟩ := HO.out.own.lv.len
     generalize List.length _ = n3 at hv3
     subst hv3
     have f0 := s1.blk.frozen 0
     have S2 := y_ s2
     have S3 := y_ s3
     have S4 := y_ s4
     clear s1 s2 s3 s4
     go_wp2_with fail
     go_end0
     exact ⟨rfl, _, S2.out, HB1.out.trans S3.out, (Newer.refl _ _).trans S4.out HB1.out.size⟩
end Rk
end Go.Proofs.YtafeealbdpmdkaaGreatDoor
/- The document's disk beside the plain one: Flip. -/
namespace Go.Proofs.YtafeealbdpmdkaaGreatDoor
open Go Go.RowKit
namespace Rk
open Plk (F P H isName sum xor_u8)
theorem flip_ext (l : List UInt8) (j : Nat) (c : UInt8) (hj : j < l.length) : (⟨l.toArray⟩ : ByteArray).extract 0 j ++ (⟨#[c]⟩ : ByteArray) ++ (⟨l.toArray⟩ : ByteArray).extract (j + 1) l.length = ⟨(l.set j c).toArray⟩ := by
 apply ByteArray.ext
 rw [ByteArray.data_append, ByteArray.data_append, ByteArray.data_extract, ByteArray.data_extract]
 apply Array.ext'
 rw [List.set_eq_take_append_cons_drop, if_pos hj]
 simp [List.extract_eq_take_drop]
 exact List.take_of_length_le (by rw [List.length_drop]; exact Nat.le_refl _)
set_option maxRecDepth 100000 in
set_option maxHeartbeats 1000000 in
theorem flip_ref {w : World} {b : Nat} {v : Value} {r : R} {p : P} (h : Both w b v r p) (n : List UInt8) (x : Int) (y : UInt8) :
  Calls Tryz.prog 18 #[.pointer (some ⟨b, 0, none⟩), .string ⟨n.toArray⟩, .int .i64 x, .int .u8 (y.toNat : Int)] w (RP b w v (.bool (p.flip n x y).1) (p.flip n x y).2) := by
 have hR := h.rd
 have hS := h.sim
 obtain ⟨A, cap, hv⟩ := h.rd.row.len
 rw [h.sim.l] at hv
 subst hv
 have hu := h.good.up
 have hcn := h.good.cnt
 have hgood := y_ h.good
 obtain ⟨fs, s⟩ := p
 dsimp only at *
 have hpl := Both.placed hR hS.l hcn n
 have HL := y_ hS.l
 have y256 : y.toNat < 256 := y.toNat_lt
 generalize hres : P.flip ⟨fs, s⟩ n x y = res
 unfold P.flip at hres
 have hrk := y_ hres
 clear hres h
 rcases place_get hu n with ⟨hg, hpv⟩ | ⟨k, f, hk, hf, hg, hpv, hd, hx⟩
 ·have hrs := hrk.out
  rw [hg] at hrs
  dsimp only at hrs
  subst hrs
  rw [hpv] at hpl
  clear hrk hpv hg hu
  go_enter Tryz.func18, Tryz.ntmps18
  go_wp2_with (go_at_call 38; refine hpl.mono ?_; rintro e w2 ⟨rfl, e2⟩; subst e2)
  go_ret
  exact ⟨rfl, _, r, hR, hS, But.refl _ _, Newer.refl _ _⟩
 ·have hrs := hrk.out
  rw [hg] at hrs
  dsimp only at hrs
  rw [hpv] at hpl
  have hll : f.l.length ≤ 4194304 := by
   have h1 := Plk.len_sum (show f ∈ fs by rw [← hf]; exact List.getElem_mem hk)
   have h2 := hgood.out.used
   have h3 := hgood.out.room
   dsimp only at h2 h3
   omega
  have z3 := bz f.l
  have hrow : LV w (.slice A fs.length cap) fs := by
   have := hR.row
   rw [HL.out] at this
   exact this
  rcases hrow.form with ⟨_, h2⟩ | ⟨g, cap', h2, _, _, _⟩
  ·rw [h2] at hk; exact absurd hk (Nat.not_lt_zero _)
  injection h2 with h2 h2b h3
  clear h2b
  subst h2 h3
  have k1 := hrow.at_ k hk 1 (by omega)
  rw [hf] at k1
  dsimp only [fcs, List.getElem?_cons_zero, List.getElem?_cons_succ] at k1
  have c0 := hR.c.1
  have hrg := hrow.range k hk
  rw [hf] at hrg
  have HXX := y_ hx
  clear hrk hd hx hpv hg hu
  by_cases hy0 : y = 0
  ·rw [if_pos (.inl hy0)] at hrs
   subst hrs hy0
   go_enter Tryz.func18, Tryz.ntmps18
   go_wp2_with (go_at_call 38; refine hpl.mono ?_; rintro e w2 ⟨rfl, e2⟩; subst e2)
   go_ret
   exact ⟨rfl, _, r, hR, hS, But.refl _ _, Newer.refl _ _⟩
  ·have q0 : (((y.toNat : Nat) : Int) == 0) = false := beq_eq_false_iff_ne.2 fun e => hy0 (UInt8.toNat_inj.1 (by simpa using e))
   have hy0k := y_ hy0
   clear hy0
   by_cases hx0 : x < 0
   ·rw [if_pos (.inr (.inl hx0))] at hrs
    subst hrs
    go_enter Tryz.func18, Tryz.ntmps18
    go_wp2_with (go_at_call 38; refine hpl.mono ?_; rintro e w2 ⟨rfl, e2⟩; subst e2)
    go_ret
    exact ⟨rfl, _, r, hR, hS, But.refl _ _, Newer.refl _ _⟩
   ·obtain ⟨j, rfl⟩ := Int.eq_ofNat_of_zero_le (Int.not_lt.1 hx0)
    clear hx0
    by_cases hj : f.l.length ≤ j
    ·rw [if_pos (.inr (.inr (by omega)))] at hrs
     subst hrs
     go_enter Tryz.func18, Tryz.ntmps18
     go_wp2_with (go_at_call 38; refine hpl.mono ?_; rintro e w2 ⟨rfl, e2⟩; subst e2)
     go_ret
     exact ⟨rfl, _, r, hR, hS, But.refl _ _, Newer.refl _ _⟩
    ·rw [if_neg (by rintro (h | h | h); exact hy0k.out h; omega; omega)] at hrs
     subst hrs
     have hj : j < f.l.length := by omega
     go_enter Tryz.func18, Tryz.ntmps18
     go_upto_region 4 with (go_at_call 38; refine hpl.mono ?_; rintro e w2 ⟨rfl, e2⟩; subst e2)
     refine wp_region_lit ?_
     iterate 18 go_step
     refine wpList_file rfl _ rfl g (k * 3) rfl f hrg ?_
     simp only [z_1, z_2, z_3, z_4, z_5, z_b, z_6, z_7, z_8, z_9, z_0]
     iterate 3 go_step
     have hbf := Blk.new w2 65 #[.string ⟨#[]⟩, .string ⟨#[]⟩, .int .i64 0]
     refine wpList_stfile rfl _ _ rfl (w2).heap.size 0 f rfl rfl (hbf.there 3 (Nat.le_refl _)) ?_
     simp only [z_1, z_2, z_3, z_4, z_5, z_b, z_6, z_7, z_8, z_9, z_0]
     clear hbf
     obtain ⟨hb8, hx8⟩ := newfile w2 f #[.string ⟨#[]⟩, .string ⟨#[]⟩, .int .i64 0] rfl
     generalize hw8 : ((w2).alloc (Obj.cells #[.string ⟨#[]⟩, .string ⟨#[]⟩, .int .i64 0] 65)).setCells (w2).heap.size 0 (fcs f) = w8 at *
     clear hw8
     have m1 := hb8.cell 1
     have fz1 := hb8.frozen 1
     dsimp only [fcs, List.getElem?_cons_zero, List.getElem?_cons_succ] at m1
     have HB8 := y_ hb8
     have HX8 := y_ hx8
     clear hb8 hx8 k1 c0 hrg
     go_wp2_with fail
     obtain ⟨cb, hcb⟩ : ∃ cb : UInt8, f.l[j] ^^^ y = cb := ⟨_, rfl⟩
     have hX : Go.bits .xor .u8 (((⟨f.l.toArray⟩ : ByteArray)[j]'(by rw [z3]; exact hj)).toNat : Int) ((y.toNat : Nat) : Int) = ((cb.toNat : Nat) : Int) := by
      rw [← hcb, ← xor_u8]
      rfl
     have hcv : (convert 84 9 (.slice (some ⟨w8.heap.size, 0, none⟩) 1 1)).run Tryz.prog ((w8.alloc (.cells #[.int .u8 ((cb.toNat : Nat) : Int)] 5)).drew) = .ok (.string ⟨#[cb]⟩) ((w8.alloc (.cells #[.int .u8 ((cb.toNat : Nat) : Int)] 5)).drew) := by
      refine conv_bytes _ _ _ 5 Tryz.underlying84 Tryz.underlying5 Tryz.underlying9 w8.heap.size 0 1 1 [cb] rfl ?_
      intro i hi
      have : i = 0 := by simpa using hi
      subst this
      have := (Blk.new w8 5 #[.int .u8 ((cb.toNat : Nat) : Int)]).cell 0
      exact this
     have HCB := y_ hcb
     clear hcb
     have hxa : Reg.Ext w8 ((w8.alloc (.cells #[.int .u8 ((cb.toNat : Nat) : Int)] 5)).drew) := (Reg.Ext.alloc _ _).trans (Reg.Ext.drew _)
     have hba := HB8.out.ext hxa
     have m2 := hba.cell 1
     have fz2 := hba.frozen 1
     dsimp only [fcs, List.getElem?_cons_zero, List.getElem?_cons_succ] at m2
     have HBA := y_ hba
     have HXA := y_ hxa
     clear hba hxa
     go_region
     rw [flip_ext f.l j cb hj]
     have hb9 : Blk (((w8.alloc (.cells #[.int .u8 ((cb.toNat : Nat) : Int)] 5)).setCell ⟨w2.heap.size, 1, none⟩ (.string ⟨(f.l.set j cb).toArray⟩)).drew) w2.heap.size 65 (fcs ⟨f.name, f.l.set j cb, f.safe⟩) :=
      (HB8.out.ext (Reg.Ext.alloc w8 (.cells #[.int .u8 ((cb.toNat : Nat) : Int)] 5))).set_ 1 _
     have hx9 : Reg.Ext w2 (((w8.alloc (.cells #[.int .u8 ((cb.toNat : Nat) : Int)] 5)).setCell ⟨w2.heap.size, 1, none⟩ (.string ⟨(f.l.set j cb).toArray⟩)).drew) :=
      ((HX8.out.trans (Reg.Ext.alloc w8 _)).trans_but (But.set_ w2.heap.size _ 1 _) (Nat.le_refl _)).trans (Reg.Ext.drew _)
     have HB9 := y_ hb9
     have HX9 := y_ hx9
     clear hb9 hx9 m1 m2 fz1 fz2
     generalize ((w8.alloc (.cells #[.int .u8 ((cb.toNat : Nat) : Int)] 5)).setCell ⟨w2.heap.size, 1, none⟩ (.string ⟨(f.l.set j cb).toArray⟩)).drew = w9 at *
     go_upto_region 6 with (fail)
     refine wp_region_lit ?_
     iterate 6 go_step
     refine wpList_file rfl _ rfl w2.heap.size 0 rfl ⟨f.name, f.l.set j cb, f.safe⟩ (blk_range HB9.out) ?_
     simp only [z_1, z_2, z_3, z_4, z_5, z_b, z_6, z_7, z_8, z_9, z_0]
     go_wp2_with (go_at_call 46; refine (turn_any _ b _ r (hR.ext HX9.out) k ⟨f.name, f.l.set j cb, f.safe⟩ (by rw [HL.out]; exact hk) (by rw [HL.out]; exact hcn)).mono ?_; rintro e w5 ⟨rfl, v5, hR5, hB5, hN5⟩)
     go_ret
     refine ⟨rfl, v5, _, hR5, ?_, (But.of_ext HX9.out).trans hB5, (Newer.refl _ _).trans hN5 HX9.out.size⟩
     rw [HL.out, HXX.out ⟨f.name, f.l.set j cb, f.safe⟩ rfl]
     have e1 : f.l[(j : Int).toNat]! ^^^ y = cb := by
      rw [Int.toNat_natCast, getElem!_pos f.l j hj]
      exact HCB.out
     rw [e1, Int.toNat_natCast]
     exact hS.with_ _ _
end Rk
end Go.Proofs.YtafeealbdpmdkaaGreatDoor

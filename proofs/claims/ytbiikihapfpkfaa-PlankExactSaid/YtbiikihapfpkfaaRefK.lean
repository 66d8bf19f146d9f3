/- The document's disk beside the plain one: Read, Arm, Off, Rename. -/
import Derived.Test.YtbiikihapfpkfaaRefH
import Derived.Test.YtbiikihapfpkfaaPlkK
set_option linter.unusedSimpArgs false
set_option linter.unusedVariables false
set_option linter.unusedSectionVars false
namespace Go.Proofs.Ytbiikihapfpkfaa
section
open Go Go.RowKit
namespace Rk
open Plk (F P H isName sum)
theorem rd_ext (l : List UInt8) (j m : Nat) (hj : j ≤ l.length) : (⟨l.toArray⟩ : ByteArray).extract j ((j : Int) + min (m : Int) ((l.length : Int) - (j : Int))).toNat = ⟨(Plk.rd l (j : Int) (m : Int)).toArray⟩ := by
  have e : ((j : Int) + min (m : Int) ((l.length : Int) - (j : Int))).toNat = j + min m (l.length - j) := by omega
  rw [e]
  apply ByteArray.ext
  rw [ByteArray.data_extract]
  apply Array.ext'
  unfold Plk.rd
  simp [Array.toList_extract, List.extract_eq_take_drop]
theorem bad_begin {s : H} {n : List UInt8} (h : isName n = false) : s.begin [n] = (1, s) := by
  unfold H.begin
  rw [if_pos (by simp [h])]
set_option maxRecDepth 100000 in
set_option maxHeartbeats 1000000 in
theorem read_ref {w : World} {b : Nat} {v : Value} {r : R} {p : P} (h : Both w b v r p) (n : List UInt8) (x k : Int) :
    Calls Try.prog 30 #[.pointer (some ⟨b, 0, none⟩), .string ⟨n.toArray⟩, .int .i64 x, .int .i64 k] w (RP b w v (.tuple #[.string ⟨(p.read n x k).1.toArray⟩, .int .i64 (p.read n x k).2.1]) (p.read n x k).2.2) := by
  have HRD := Lib.hid h.rd
  have z1 := bz n
  have hb := begin1 h n
  obtain ⟨A, cap, hv⟩ := h.rd.row.len
  rw [h.sim.l] at hv
  subst hv
  have hu := h.good.up
  have hcn := h.good.cnt
  have hgood := Lib.hid h.good
  have hsr := Lib.hid h.sim
  obtain ⟨fs, s⟩ := p
  dsimp only at *
  generalize hres : P.read ⟨fs, s⟩ n x k = res
  unfold P.read at hres
  have hrk := Lib.hid hres
  clear hres
  by_cases hn1 : n.length < 1
  · have hbb := bad_begin (s := s) ((isN n).2 (.inl hn1))
    have hrs := hrk.out
    rw [find_of hbb] at hrs
    have hrs : ([], 1, ⟨fs, s⟩) = res := by rw [← hrs]; by_cases hc : x < 0 ∨ k < 0 <;> simp [hc]
    subst hrs
    clear hrk h hb hu
    go_enter Try.func30, Try.ntmps30
    go_wp2_with fail
    go_ret2
    exact ⟨rfl, _, r, HRD.out, hsr.out, But.refl _ _, Newer.refl _ _⟩
  by_cases hn2 : 80 < n.length
  · have hbb := bad_begin (s := s) ((isN n).2 (.inr hn2))
    have hrs := hrk.out
    rw [find_of hbb] at hrs
    have hrs : ([], 1, ⟨fs, s⟩) = res := by rw [← hrs]; by_cases hc : x < 0 ∨ k < 0 <;> simp [hc]
    subst hrs
    clear hrk h hb hu
    go_enter Try.func30, Try.ntmps30
    go_wp2_with fail
    go_ret2
    exact ⟨rfl, _, r, HRD.out, hsr.out, But.refl _ _, Newer.refl _ _⟩
  by_cases hx0 : x < 0
  · have hrs := hrk.out
    rw [if_pos (.inl hx0)] at hrs
    subst hrs
    clear hrk h hb hu
    go_enter Try.func30, Try.ntmps30
    go_wp2_with fail
    go_ret2
    exact ⟨rfl, _, r, HRD.out, hsr.out, But.refl _ _, Newer.refl _ _⟩
  by_cases hk0 : k < 0
  · have hrs := hrk.out
    rw [if_pos (.inr hk0)] at hrs
    subst hrs
    clear hrk h hb hu
    go_enter Try.func30, Try.ntmps30
    go_wp2_with fail
    go_ret2
    exact ⟨rfl, _, r, HRD.out, hsr.out, But.refl _ _, Newer.refl _ _⟩
  obtain ⟨j, rfl⟩ := Int.eq_ofNat_of_zero_le (Int.not_lt.1 hx0)
  obtain ⟨m, rfl⟩ := Int.eq_ofNat_of_zero_le (Int.not_lt.1 hk0)
  clear hx0 hk0
  have hrs0 := hrk.out
  rw [if_neg (by omega)] at hrs0
  clear hrk
  generalize hsb : s.begin [n] = sb at hb
  obtain ⟨er, s1⟩ := sb
  rw [find_of hsb] at hrs0
  dsimp only at hb
  have hrk := Lib.hid hrs0
  clear hrs0 h hsb
  have hn3 : n.length ≤ 80 := by omega
  have hn4 : 1 ≤ n.length := by omega
  clear hn1 hn2
  by_cases he : er = 0
  · subst he
    have hrs := hrk.out
    rw [if_neg (fun h => h rfl)] at hrs
    rcases place_get hu n with ⟨hg, hpv⟩ | ⟨k, f, hk, hf, hg, hpv, hd, hx⟩
    · rw [hg] at hrs
      dsimp only at hrs
      subst hrs
      clear hrk
      go_enter Try.func30, Try.ntmps30
      go_wp2_with (first
        | (go_at_call 49; refine hb.mono ?_; rintro e w1 ⟨rfl, r1, hR1, hS1, hB1⟩; have hpl := Both.placed hR1 hS1.l hcn n; rw [hpv] at hpl)
        | (go_at_call 50; refine hpl.mono ?_; rintro e _ ⟨rfl, rfl⟩))
      go_ret2
      exact ⟨rfl, _, r1, hR1, hS1, hB1, Newer.refl _ _⟩
    · rw [hg] at hrs
      dsimp only at hrs
      have hll : f.l.length ≤ 4194304 := by
        have h1 := Plk.len_sum (show f ∈ fs by rw [← hf]; exact List.getElem_mem hk)
        have h2 := hgood.out.used
        have h3 := hgood.out.room
        dsimp only at h2 h3
        omega
      have hz1 := bz f.l
      clear hrk hd hx
      by_cases hjl : (f.l.length : Int) < (j : Int)
      · rw [if_pos hjl] at hrs
        subst hrs
        go_enter Try.func30, Try.ntmps30
        go_upto_region 9 with (first
          | (go_at_call 49; refine hb.mono ?_; rintro e w1 ⟨rfl, r1, hR1, hS1, hB1⟩; have hpl := Both.placed hR1 hS1.l hcn n; rw [hpv] at hpl; have c0 := hR1.c.1; have HL := Lib.hid hS1.l)
          | (go_at_call 50; refine hpl.mono ?_; rintro e w2 ⟨rfl, e2⟩; subst e2))
        have hrow : LV w2 (.slice A fs.length cap) fs := by
          have := hR1.row
          rw [HL.out] at this
          exact this
        rcases hrow.form with ⟨_, h2⟩ | ⟨g, cap', h2, _, _, _⟩
        · rw [h2] at hk; exact absurd hk (Nat.not_lt_zero _)
        injection h2 with h2 h2b h3
        clear h2b
        subst h2 h3
        have hrg := hrow.range k hk
        rw [hf] at hrg
        have k1 := hrow.at_ k hk 1 (by omega)
        rw [hf] at k1
        dsimp only [fcs, List.getElem?_cons_zero, List.getElem?_cons_succ] at k1
        go_wp2_with fail
        go_ret2
        exact ⟨rfl, _, r1, hR1, hS1, hB1, Newer.refl _ _⟩
      · rw [if_neg hjl] at hrs
        subst hrs
        go_enter Try.func30, Try.ntmps30
        go_upto_region 9 with (first
          | (go_at_call 49; refine hb.mono ?_; rintro e w1 ⟨rfl, r1, hR1, hS1, hB1⟩; have hpl := Both.placed hR1 hS1.l hcn n; rw [hpv] at hpl; have c0 := hR1.c.1; have HL := Lib.hid hS1.l)
          | (go_at_call 50; refine hpl.mono ?_; rintro e w2 ⟨rfl, e2⟩; subst e2))
        have hrow : LV w2 (.slice A fs.length cap) fs := by
          have := hR1.row
          rw [HL.out] at this
          exact this
        rcases hrow.form with ⟨_, h2⟩ | ⟨g, cap', h2, _, _, _⟩
        · rw [h2] at hk; exact absurd hk (Nat.not_lt_zero _)
        injection h2 with h2 h2b h3
        clear h2b
        subst h2 h3
        have hrg := hrow.range k hk
        rw [hf] at hrg
        have k1 := hrow.at_ k hk 1 (by omega)
        rw [hf] at k1
        dsimp only [fcs, List.getElem?_cons_zero, List.getElem?_cons_succ] at k1
        have hre := Lib.hid (rd_ext f.l j m (by omega))
        go_wp2_with fail
        go_ret2
        refine ⟨?_, _, r1, hR1, hS1, hB1, Newer.refl _ _⟩
        rw [← hre.out]
        rfl
  · have hrs := hrk.out
    rw [if_pos he] at hrs
    dsimp only at hrs
    subst hrs
    have he' : (er == 0) = false := beq_eq_false_iff_ne.2 he
    go_enter Try.func30, Try.ntmps30
    go_wp2_with (go_at_call 49; refine hb.mono ?_; rintro e w1 ⟨rfl, r1, hR1, hS1, hB1⟩)
    go_ret2
    exact ⟨rfl, _, r1, hR1, hS1, hB1, Newer.refl _ _⟩
theorem arm_any (w : World) (b : Nat) (v : Value) (r : R) (h : RD w b v r) (x k m : Int) (h0 : 0 ≤ r.ops) (h1 : r.ops < 4611686018427387904) :
    Calls Try.prog 36 #[.pointer (some ⟨b, 0, none⟩), .int .i64 x, .int .i64 k, .int .i64 m] w fun e w' => e = .returned (.tuple #[]) ∧ RD w' b v (if 1 ≤ x ∧ (k = 1 ∨ k = 2) ∧ x ≤ 1099511627776 then { r with kind := k, at_ := r.ops + x, more := m } else { r with kind := 0 }) ∧ But b w w' := by
  have fz := h.blk.frozen
  have f4 := fz 4
  have f3 := fz 3
  have f5 := fz 5
  obtain ⟨c0, c1, c2, c3, c4, c5, c6⟩ := h.c
  have hA : RD (w.setCell ⟨b, 4, none⟩ (.int .i64 0)) b v { r with kind := 0 } := h.set_ 4 _ rfl rfl
  have bA := But.set_ b w 4 (.int .i64 0)
  clear fz
  by_cases t1 : 1 ≤ x
  · by_cases t2 : k = 1
    · by_cases t3 : x ≤ 1099511627776
      · rw [if_pos ⟨t1, .inl t2, t3⟩]
        subst t2
        go_enter Try.func36, Try.ntmps36
        go_wp2
        go_end0
        exact ⟨rfl, ((hA.set_ (r' := { r with kind := 1 }) 4 (.int .i64 1) rfl rfl).set_ (r' := { r with kind := 1, at_ := r.ops + x }) 3 (.int .i64 (r.ops + x)) rfl rfl).set_ (r' := { r with kind := 1, at_ := r.ops + x, more := m }) 5 (.int .i64 m) rfl rfl, ((bA.trans (But.set_ b _ 4 _)).trans (But.set_ b _ 3 _)).trans (But.set_ b _ 5 _)⟩
      · rw [if_neg (by rintro ⟨_, _, h⟩; exact t3 h)]
        subst t2
        go_enter Try.func36, Try.ntmps36
        go_wp2
        go_end0
        exact ⟨rfl, hA, bA⟩
    · by_cases t4 : k = 2
      · by_cases t3 : x ≤ 1099511627776
        · rw [if_pos ⟨t1, .inr t4, t3⟩]
          subst t4
          go_enter Try.func36, Try.ntmps36
          go_wp2
          go_end0
          exact ⟨rfl, ((hA.set_ (r' := { r with kind := 2 }) 4 (.int .i64 2) rfl rfl).set_ (r' := { r with kind := 2, at_ := r.ops + x }) 3 (.int .i64 (r.ops + x)) rfl rfl).set_ (r' := { r with kind := 2, at_ := r.ops + x, more := m }) 5 (.int .i64 m) rfl rfl, ((bA.trans (But.set_ b _ 4 _)).trans (But.set_ b _ 3 _)).trans (But.set_ b _ 5 _)⟩
        · rw [if_neg (by rintro ⟨_, _, h⟩; exact t3 h)]
          subst t4
          go_enter Try.func36, Try.ntmps36
          go_wp2
          go_end0
          exact ⟨rfl, hA, bA⟩
      · rw [if_neg (by rintro ⟨_, h | h, _⟩; exact t2 h; exact t4 h)]
        have q1 : (k == 1) = false := beq_eq_false_iff_ne.2 t2
        have q2 : (k == 2) = false := beq_eq_false_iff_ne.2 t4
        clear t2 t4
        go_enter Try.func36, Try.ntmps36
        go_wp2
        go_end0
        exact ⟨rfl, hA, bA⟩
  · rw [if_neg (by rintro ⟨h, _⟩; exact t1 h)]
    go_enter Try.func36, Try.ntmps36
    go_wp2
    go_end0
    exact ⟨rfl, hA, bA⟩
theorem arm_ref {w : World} {b : Nat} {v : Value} {r : R} {p : P} (h : Both w b v r p) (x k m : Int) :
    Calls Try.prog 36 #[.pointer (some ⟨b, 0, none⟩), .int .i64 x, .int .i64 k, .int .i64 m] w (RP b w v (.tuple #[]) ⟨p.fs, p.h.arm x k m⟩) := by
  have ho := h.ops
  have h0 := h.good.ops
  have hs := h.sim
  refine (arm_any w b v r h.rd x k m (by rw [hs.ops]; exact h0) (by rw [hs.ops]; omega)).mono ?_
  rintro e w' ⟨rfl, h2, h3⟩
  refine ⟨rfl, v, _, h2, ?_, h3, Newer.refl _ _⟩
  unfold H.arm
  by_cases hc : 1 ≤ x ∧ (k = 1 ∨ k = 2) ∧ x ≤ 1099511627776
  · rw [if_pos hc, if_neg (by omega)]
    refine ⟨hs.l, hs.room, hs.ops, hs.off, rfl, fun _ => ⟨?_, rfl⟩, fun _ => ?_, ?_⟩
    · show r.ops + x = p.h.ops + x
      rw [hs.ops]
    · show p.h.ops < p.h.ops + x
      omega
    · show 0 ≤ r.ops + x ∧ r.ops + x < _
      rw [hs.ops]
      omega
  · rw [if_neg hc, if_pos (by omega)]
    exact ⟨hs.l, hs.room, hs.ops, hs.off, rfl, fun e => absurd rfl e, fun e => by have e : (0 : Int) = 2 := e; omega, hs.at0⟩
theorem off_ref {w : World} {b : Nat} {v : Value} {r : R} {p : P} (h : Both w b v r p) :
    Calls Try.prog 37 #[.pointer (some ⟨b, 0, none⟩)] w (RP b w v (.tuple #[]) ⟨p.fs, { p.h with off := true, ak := 0, af := 0, al := 0 }⟩) := by
  have hs := h.sim
  refine (off_any w b v r h.rd).mono ?_
  rintro e w' ⟨rfl, h2, h3⟩
  exact ⟨rfl, v, _, h2, ⟨hs.l, hs.room, hs.ops, rfl, rfl, fun e => absurd rfl e, fun e => by have e : (0 : Int) = 2 := e; omega, hs.at0⟩, h3, Newer.refl _ _⟩
end Rk
end
section
open Go Go.RowKit
namespace Rk
open Plk (F P H isName sum)
theorem ins_del {fs : List F} (hu : Nmd.Up F.name fs) {f : F} (hf : f ∈ fs) : Nmd.ins F.name f (Nmd.del F.name f.name fs) = fs := by
  induction fs with
  | nil => cases hf
  | cons y fs ih =>
    obtain ⟨h1, h2⟩ := List.pairwise_cons.1 hu
    unfold Nmd.del
    rw [List.filter_cons]
    rcases List.mem_cons.1 hf with rfl | hf'
    · rw [if_neg (by simp), List.filter_eq_self.2]
      · cases fs with
        | nil => rfl
        | cons z fs =>
          unfold Nmd.ins
          have hz : F.name f < F.name z := h1 z List.mem_cons_self
          rw [if_neg (fun e => List.lt_irrefl _ (List.lt_trans hz e))]
      · intro z hz
        have : z.name ≠ f.name := fun e => List.lt_irrefl _ (by have := h1 z hz; rw [e] at this; exact this)
        rw [beq_eq_false_iff_ne.2 this]; rfl
    · have hy : F.name y < F.name f := h1 f hf'
      have hne : F.name y ≠ F.name f := fun e => List.lt_irrefl _ (by rw [e] at hy; exact hy)
      rw [if_pos (by rw [beq_eq_false_iff_ne.2 hne]; rfl)]
      have := ih h2 hf'
      unfold Nmd.del at this
      show Nmd.ins F.name f (y :: _) = _
      unfold Nmd.ins
      rw [if_pos hy, this]
theorem del_comm (n t : List UInt8) (fs : List F) : Nmd.del F.name n (Nmd.del F.name t fs) = Nmd.del F.name t (Nmd.del F.name n fs) := by
  unfold Nmd.del
  rw [List.filter_filter, List.filter_filter]
  congr 1
  funext y
  rw [Bool.and_comm]
set_option maxRecDepth 100000 in
set_option maxHeartbeats 1000000 in
theorem rename_ref {w : World} {b : Nat} {v : Value} {r : R} {p : P} (h : Both w b v r p) (n t : List UInt8) :
    Calls Try.prog 33 #[.pointer (some ⟨b, 0, none⟩), .string ⟨n.toArray⟩, .string ⟨t.toArray⟩] w (RP b w v (.int .i64 (p.rename n t).1) (p.rename n t).2) := by
  have hb := begin2 h n t
  obtain ⟨A, cap, hv⟩ := h.rd.row.len
  rw [h.sim.l] at hv
  subst hv
  have hu := h.good.up
  have hcn := h.good.cnt
  obtain ⟨fs, s⟩ := p
  dsimp only at *
  generalize hres : P.rename ⟨fs, s⟩ n t = res
  unfold P.rename at hres
  dsimp only at hres
  generalize s.begin [n, t] = sb at hb hres
  obtain ⟨er, s1⟩ := sb
  dsimp only at hb hres
  have hrk := Lib.hid hres
  clear hres h
  by_cases he : er = 0
  · subst he
    have hrs := hrk.out
    rw [if_neg (fun h => h rfl)] at hrs
    rcases place_get hu n with ⟨hg, hpv⟩ | ⟨k, f, hk, hf, hg, hpv, hd, hx⟩
    · rw [hg] at hrs
      dsimp only at hrs
      subst hrs
      clear hrk
      go_enter Try.func33, Try.ntmps33
      go_wp2_with (first
        | (go_at_call 49; refine hb.mono ?_; rintro e w1 ⟨rfl, r1, hR1, hS1, hB1⟩; have hpl := Both.placed hR1 hS1.l hcn n; rw [hpv] at hpl)
        | (go_at_call 50; refine hpl.mono ?_; rintro e _ ⟨rfl, rfl⟩))
      go_ret
      exact ⟨rfl, _, r1, hR1, hS1, hB1, Newer.refl _ _⟩
    · rw [hg] at hrs
      dsimp only at hrs
      have hfn : f.name = n := (Nmd.get_mem hg).2
      have hfm := (Nmd.get_mem hg).1
      have hu2 : Nmd.Up F.name (Nmd.del F.name n fs) := hu.del n
      have hcn2 : (Nmd.del F.name n fs).length ≤ 200 := Nat.le_trans (List.length_filter_le _ _) hcn
      -- what the rest gives: the list that is put at last
      have hfin : Hid (∃ u : Int, ((0 : Int), (⟨Nmd.ins F.name ⟨t, f.l, f.safe⟩ (Nmd.del F.name t (Nmd.del F.name n fs)), { s1 with used := u }⟩ : P)) = res) := Lib.hid (by
        by_cases hnt : n = t
        · rw [if_pos hnt] at hrs
          refine ⟨s1.used, ?_⟩
          rw [← hrs, ← hnt]
          have e1 : (⟨n, f.l, f.safe⟩ : F) = f := by rw [← hfn]
          have e2 : Nmd.del F.name n (Nmd.del F.name n fs) = Nmd.del F.name n fs := by
            unfold Nmd.del
            rw [List.filter_filter]
            simp
          rw [e1, e2, ← hfn, ins_del hu hfm]
        · rw [if_neg hnt] at hrs
          cases hg2 : Nmd.get F.name t fs with
          | none =>
            rw [hg2] at hrs
            dsimp only at hrs
            refine ⟨s1.used, ?_⟩
            rw [← hrs]
            have : Nmd.del F.name t (Nmd.del F.name n fs) = Nmd.del F.name n fs := by
              unfold Nmd.del
              apply List.filter_eq_self.2
              intro y hy
              have hy2 := (List.mem_filter.1 hy).1
              rw [beq_eq_false_iff_ne.2 (Nmd.get_none hg2 y hy2)]; rfl
            rw [this]
          | some g =>
            rw [hg2] at hrs
            dsimp only at hrs
            refine ⟨s1.used - g.l.length, ?_⟩
            rw [← hrs, del_comm])
      clear hrs hrk
      have hndel : ∀ y ∈ Nmd.del F.name t (Nmd.del F.name n fs), y.name ≠ t := fun y hy => (Nmd.mem_del.1 hy).2
      have HND := Lib.hid hndel
      have HD := Lib.hid hd
      clear hndel hd hx hg hfm
      go_enter Try.func33, Try.ntmps33
      go_upto_region 7 with (first
        | (go_at_call 49; refine hb.mono ?_; rintro e w1 ⟨rfl, r1, hR1, hS1, hB1⟩; have hpl := Both.placed hR1 hS1.l hcn n; rw [hpv] at hpl; have c0 := hR1.c.1; have HL := Lib.hid hS1.l)
        | (go_at_call 50; refine hpl.mono ?_; rintro e w2 ⟨rfl, e2⟩; subst e2))
      have hrow : LV w2 (.slice A fs.length cap) fs := by
        have := hR1.row
        rw [HL.out] at this
        exact this
      rcases hrow.form with ⟨_, h2⟩ | ⟨g, cap', h2, _, _, _⟩
      · rw [h2] at hk; exact absurd hk (Nat.not_lt_zero _)
      injection h2 with h2 h2b h3
      clear h2b
      subst h2 h3
      have hrg := hrow.range k hk
      rw [hf] at hrg
      refine wp_region_lit ?_
      iterate 18 go_step
      refine wpList_file rfl _ rfl g (k * 3) rfl f hrg ?_
      simp only [Act.put, Act.eval, List.setIfInBounds_toArray, List.set_cons_zero, List.set_cons_succ, Nat.reduceAdd, Array.getD_eq_getD_getElem?, List.getElem?_toArray, List.getElem?_cons_succ, List.getElem?_cons_zero, Option.getD_some]
      iterate 3 go_step
      have hbf := Blk.new w2 59 #[.string ⟨#[]⟩, .string ⟨#[]⟩, .int .i64 0]
      refine wpList_stfile rfl _ _ rfl (w2).heap.size 0 f rfl rfl (hbf.there 3 (Nat.le_refl _)) ?_
      simp only [Act.put, Act.eval, List.setIfInBounds_toArray, List.set_cons_zero, List.set_cons_succ, Nat.reduceAdd, Array.getD_eq_getD_getElem?, List.getElem?_toArray, List.getElem?_cons_succ, List.getElem?_cons_zero, Option.getD_some]
      clear hbf
      obtain ⟨hb8, hx8⟩ := newfile w2 f #[.string ⟨#[]⟩, .string ⟨#[]⟩, .int .i64 0] rfl
      generalize hw8 : ((w2).alloc (Obj.cells #[.string ⟨#[]⟩, .string ⟨#[]⟩, .int .i64 0] 59)).setCells (w2).heap.size 0 (fcs f) = w8 at *
      clear hw8
      have HB8 := Lib.hid hb8
      have HX8 := Lib.hid hx8
      have k0 := hb8.cell 0
      have fz := hb8.frozen 0
      have hgl : w2.heap.size < w8.heap.size := hb8.lt
      have hR8 := hR1.ext hx8
      have hgg : g < w2.heap.size := hR1.row.lt rfl
      have hX8s : w2.heap.size ≤ w8.heap.size := hx8.size
      have hbl : b < w2.heap.size := hR1.blk.lt
      clear hb8 hx8 hpv hpl k0 fz
      generalize hg8 : w2.heap.size = g8 at *
      have hB8 : But b w w8 := hB1.trans (But.of_ext HX8.out)
      rcases place_get hu2 t with ⟨ht, hpt⟩ | ⟨k2, f2, hk2, hf2, ht, hpt, hd2, hx2⟩
      · have hdt : Nmd.del F.name t (Nmd.del F.name n fs) = Nmd.del F.name n fs := by
          conv => lhs; unfold Nmd.del
          apply List.filter_eq_self.2
          intro y hy
          rw [beq_eq_false_iff_ne.2 (Nmd.get_none ht y hy)]; rfl
        have HDT := Lib.hid hdt
        clear hdt
        go_upto_region 12 with (first
          | (go_at_call 53; refine (drop_any _ b _ r1 hR8 k (by rw [HL.out]; exact hk) (by rw [HL.out]; exact hcn)).mono ?_; rintro e w3 ⟨rfl, v3, hR3, hB3, hN3⟩; have HL3 : Hid (({ r1 with l := r1.l.take k ++ r1.l.drop (k + 1) } : R).l = Nmd.del F.name n fs) := Lib.hid (by show r1.l.take k ++ r1.l.drop (k + 1) = _; rw [HL.out]; exact HD.out); have hpl2 := Both.placed hR3 HL3.out hcn2 t; rw [hpt] at hpl2)
          | (go_at_call 50; refine hpl2.mono ?_; rintro e w4 ⟨rfl, e4⟩; subst e4))
        have hb4 : Blk w4 g8 59 (fcs f) := (hB3.block g8 hgl (fun e => by injection e with e; omega)).trans HB8.out
        have hnv : v3.ownBlock ≠ some g8 := by
          rcases hN3 with e | e
          · rw [e]
            intro e2
            have e2 : some g = some g8 := e2
            injection e2 with e2
            omega
          · intro e2
            have := e _ e2
            omega
        have k0 := hb4.cell 0
        have fz := hb4.frozen 0
        dsimp only [fcs, List.getElem?_cons_zero, List.getElem?_cons_succ] at k0
        have hb9 : Blk (w4.setCell ⟨g8, 0, none⟩ (.string ⟨t.toArray⟩)) g8 59 (fcs ⟨t, f.l, f.safe⟩) := hb4.set_ 0 _
        have hR9 := RD.grown hR3 (But.set_ g8 w4 0 (.string ⟨t.toArray⟩)) (by omega) hnv
        have hB9 : But b w (w4.setCell ⟨g8, 0, none⟩ (.string ⟨t.toArray⟩)) := by
          have h1 := hB8.trans hB3
          have hww := hB1.size
          refine ⟨h1.os, h1.tape, h1.output, by rw [World.size_setCell]; exact h1.size, fun i hi hib => ?_⟩
          exact (Below.heap_setCell w4 ⟨g8, 0, none⟩ _ i (by show i ≠ g8; omega)).trans (h1.block i hi hib)
        have HB9 := Lib.hid hb9
        have HR9 := Lib.hid hR9
        have HBB := Lib.hid hB9
        have hs9 : w.heap.size ≤ (w4.setCell ⟨g8, 0, none⟩ (.string ⟨t.toArray⟩)).heap.size := hB9.size
        clear hb9 hR9 hB9 hb4
        go_upto_region 13 with (fail)
        generalize w4.setCell ⟨g8, 0, none⟩ (.string ⟨t.toArray⟩) = w9 at *
        refine wp_region_lit ?_
        iterate 3 go_step
        refine wpList_file rfl _ rfl g8 0 rfl ⟨t, f.l, f.safe⟩ (blk_range HB9.out) ?_
        simp only [Act.put, Act.eval, List.setIfInBounds_toArray, List.set_cons_zero, List.set_cons_succ, Nat.reduceAdd, Array.getD_eq_getD_getElem?, List.getElem?_toArray, List.getElem?_cons_succ, List.getElem?_cons_zero, Option.getD_some]
        go_wp2_with (go_at_call 51; refine (put_any _ b _ _ HR9.out ⟨t, f.l, f.safe⟩ (by rw [HL3.out]; exact Nmd.get_none ht) (by rw [HL3.out]; exact hcn2)).mono ?_; rintro e wz ⟨rfl, vz, hRz, hBz, hNz⟩)
        go_ret
        obtain ⟨u, hu9⟩ := hfin.out
        subst hu9
        refine ⟨rfl, vz, _, hRz, ?_, HBB.out.trans hBz, ?_⟩
        · rw [HL3.out, HDT.out]
          exact hS1.with_ _ u
        · exact ((Newer.refl w _).trans hN3 hB8.size).trans hNz hs9
      · have HD2 := Lib.hid hd2
        clear hd2 hx2 hf2 ht hu2
        go_upto_region 12 with (first
          | (go_at_call 53; refine (drop_any _ b _ _ hR3 k2 (by rw [HL3.out]; exact hk2) (by rw [HL3.out]; exact hcn2)).mono ?_; rintro e w4 ⟨rfl, v4, hR4, hB4, hN4⟩)
          | (go_at_call 53; refine (drop_any _ b _ r1 hR8 k (by rw [HL.out]; exact hk) (by rw [HL.out]; exact hcn)).mono ?_; rintro e w3 ⟨rfl, v3, hR3, hB3, hN3⟩; have HL3 : Hid (({ r1 with l := r1.l.take k ++ r1.l.drop (k + 1) } : R).l = Nmd.del F.name n fs) := Lib.hid (by show r1.l.take k ++ r1.l.drop (k + 1) = _; rw [HL.out]; exact HD.out); have hpl2 := Both.placed hR3 HL3.out hcn2 t; rw [hpt] at hpl2)
          | (go_at_call 50; refine hpl2.mono ?_; rintro e w5 ⟨rfl, e4⟩; subst e4))
        have hN4s : Newer w8 _ v4 := hN3.trans hN4 hB3.size
        have hB34 := hB3.trans hB4
        have HL4 : Hid (({ ({ r1 with l := r1.l.take k ++ r1.l.drop (k + 1) } : R) with l := ({ r1 with l := r1.l.take k ++ r1.l.drop (k + 1) } : R).l.take k2 ++ ({ r1 with l := r1.l.take k ++ r1.l.drop (k + 1) } : R).l.drop (k2 + 1) } : R).l = Nmd.del F.name t (Nmd.del F.name n fs)) := Lib.hid (by
          show ({ r1 with l := r1.l.take k ++ r1.l.drop (k + 1) } : R).l.take k2 ++ ({ r1 with l := r1.l.take k ++ r1.l.drop (k + 1) } : R).l.drop (k2 + 1) = _
          rw [HL3.out]
          exact HD2.out)
        have hb4 : Blk w4 g8 59 (fcs f) := (hB34.block g8 hgl (fun e => by injection e with e; omega)).trans HB8.out
        have hnv : v4.ownBlock ≠ some g8 := by
          rcases hN4s with e | e
          · rw [e]
            intro e2
            have e2 : some g = some g8 := e2
            injection e2 with e2
            omega
          · intro e2
            have := e _ e2
            omega
        have k0 := hb4.cell 0
        have fz := hb4.frozen 0
        dsimp only [fcs, List.getElem?_cons_zero, List.getElem?_cons_succ] at k0
        have hb9 : Blk (w4.setCell ⟨g8, 0, none⟩ (.string ⟨t.toArray⟩)) g8 59 (fcs ⟨t, f.l, f.safe⟩) := hb4.set_ 0 _
        have hR9 := RD.grown hR4 (But.set_ g8 w4 0 (.string ⟨t.toArray⟩)) (by omega) hnv
        have hB9 : But b w (w4.setCell ⟨g8, 0, none⟩ (.string ⟨t.toArray⟩)) := by
          have h1 := hB8.trans hB34
          have hww := hB1.size
          refine ⟨h1.os, h1.tape, h1.output, by rw [World.size_setCell]; exact h1.size, fun i hi hib => ?_⟩
          exact (Below.heap_setCell w4 ⟨g8, 0, none⟩ _ i (by show i ≠ g8; omega)).trans (h1.block i hi hib)
        have HB9 := Lib.hid hb9
        have HR9 := Lib.hid hR9
        have HBB := Lib.hid hB9
        have hs9 : w.heap.size ≤ (w4.setCell ⟨g8, 0, none⟩ (.string ⟨t.toArray⟩)).heap.size := hB9.size
        clear hb9 hR9 hB9 hb4
        go_upto_region 13 with (fail)
        generalize w4.setCell ⟨g8, 0, none⟩ (.string ⟨t.toArray⟩) = w9 at *
        refine wp_region_lit ?_
        iterate 3 go_step
        refine wpList_file rfl _ rfl g8 0 rfl ⟨t, f.l, f.safe⟩ (blk_range HB9.out) ?_
        simp only [Act.put, Act.eval, List.setIfInBounds_toArray, List.set_cons_zero, List.set_cons_succ, Nat.reduceAdd, Array.getD_eq_getD_getElem?, List.getElem?_toArray, List.getElem?_cons_succ, List.getElem?_cons_zero, Option.getD_some]
        go_wp2_with (go_at_call 51; refine (put_any _ b _ _ HR9.out ⟨t, f.l, f.safe⟩ (by rw [HL4.out]; exact HND.out) (by rw [HL4.out]; exact Nat.le_trans (List.length_filter_le _ _) hcn2)).mono ?_; rintro e wz ⟨rfl, vz, hRz, hBz, hNz⟩)
        go_ret
        obtain ⟨u, hu9⟩ := hfin.out
        subst hu9
        refine ⟨rfl, vz, _, hRz, ?_, HBB.out.trans hBz, ?_⟩
        · rw [HL4.out]
          exact hS1.with_ _ u
        · exact ((Newer.refl w _).trans hN4s hB8.size).trans hNz hs9
  · have hrs := hrk.out
    rw [if_pos he] at hrs
    subst hrs
    have he' : (er == 0) = false := beq_eq_false_iff_ne.2 he
    go_enter Try.func33, Try.ntmps33
    go_wp2_with (go_at_call 49; refine hb.mono ?_; rintro e w1 ⟨rfl, r1, hR1, hS1, hB1⟩)
    go_ret
    exact ⟨rfl, _, r1, hR1, hS1, hB1, Newer.refl _ _⟩
end Rk
end
end Go.Proofs.Ytbiikihapfpkfaa

/- The document's disk: Place, Used, Off, begin. -/
import Derived.Test.YtbiikihapfpkfaaRefD
import Derived.BigQuiet
import Derived.Lib.Hide
set_option linter.unusedSimpArgs false
set_option linter.unusedVariables false
set_option linter.unusedSectionVars false
namespace Go.Proofs.Ytbiikihapfpkfaa
open Go Go.RowKit
namespace Rk
open Plk (F P H isName sum)
theorem plV_some {fs : List F} {n : List UInt8} {k : Nat} (hk : k < fs.length) (h : fs[k].name = n) (ha : ∀ j (hj : j < fs.length), j < k → fs[j].name ≠ n) : place fs n = some k := by
  unfold place
  rw [List.findIdx?_eq_some_iff_getElem]
  exact ⟨hk, by simpa using h, fun j hj => by simpa using ha j (by omega) hj⟩
theorem plV_none {fs : List F} {n : List UInt8} (ha : ∀ j (hj : j < fs.length), fs[j].name ≠ n) : place fs n = none := by
  unfold place
  rw [List.findIdx?_eq_none_iff]
  intro x hx
  obtain ⟨j, hj, rfl⟩ := List.mem_iff_getElem.1 hx
  simpa using ha j hj
set_option maxHeartbeats 1000000 in
theorem place_any (w : World) (b : Nat) (v : Value) (r : R) (h : RD w b v r) (n : List UInt8) (hl : r.l.length ≤ 200) :
    Calls Try.prog 50 #[.pointer (some ⟨b, 0, none⟩), .string ⟨n.toArray⟩] w fun e w' => e = .returned (.int .i64 (plV r.l n)) ∧ w' = w := by
  have c0 := h.c.1
  obtain ⟨A, cap, hv⟩ := h.row.len
  subst hv
  have hR := Lib.hid h.row
  clear h
  generalize r.l = fs at *
  generalize hres : plV fs n = res
  have hrk := Lib.hid hres
  clear hres
  go_enter Try.func50, Try.ntmps50
  go_wp2_with fail
  go_loopw [5] (fun i wr => ∃ k : Nat, i = .int .i64 (k : Int) ∧ k ≤ fs.length ∧ Hid (∀ j (hj : j < fs.length), j < k → fs[j].name ≠ n) ∧ wr = w) (fun i _ => fs.length - (intOf i).toNat)
  case atStart => exact ⟨0, rfl, Nat.zero_le _, Lib.hid (fun j _ hj => absurd hj (Nat.not_lt_zero _)), rfl⟩
  case round =>
    obtain ⟨k, rfl, hk, HA, rfl⟩ := hrel
    by_cases hks : k < fs.length
    · rcases hR.out.form with ⟨_, h2⟩ | ⟨g, cap', h2, _⟩
      · rw [h2] at hks; exact absurd hks (Nat.not_lt_zero _)
      · injection h2 with h2 _ h3
        subst h2 h3
        have q0 := hR.out.at_ k hks 0 (by omega)
        dsimp only [fcs, List.getElem?_cons_zero] at q0
        rw [Nat.add_zero] at q0
        by_cases he : fs[k].name = n
        · have hp := plV_some hks he HA.out
          have e1 : (fs[k].name == n) = true := beq_iff_eq.2 he
          have hpl : res = (k : Int) := by rw [← hrk.out]; unfold plV; rw [hp]
          have HPL := Lib.hid hpl
          clear hpl hp he
          generalize fs[k].name = m at *
          go_wp2_with fail
          go_ret
          exact ⟨by rw [HPL.out]; rfl, rfl⟩
        · have e1 : (fs[k].name == n) = false := beq_eq_false_iff_ne.2 he
          have HA2 : Hid (∀ j (hj : j < fs.length), j < k + 1 → fs[j].name ≠ n) := Lib.hid fun j hj hjk => by
            by_cases e : j = k
            · subst e; exact he
            · exact HA.out j hj (by omega)
          clear he
          generalize fs[k].name = m at q0 e1
          go_wp2_with fail
          go_roundw
          case rel => exact ⟨k + 1, by go_num, by omega, HA2, trivial⟩
          case measure => simp [intOf]; omega
    · have hke : k = fs.length := by omega
      have hpl : res = -1 := by rw [← hrk.out]; unfold plV; rw [plV_none fun j hj => HA.out j hj (by omega)]
      have HPL := Lib.hid hpl
      clear hpl HA
      subst hke
      go_wp2_with fail
      go_ret
      exact ⟨by rw [HPL.out]; rfl, rfl⟩
theorem sum_take_le (fs : List F) (k : Nat) : sum (fs.take k) ≤ sum fs := by
  have h1 : sum (fs.take k) + sum (fs.drop k) = sum fs := by
    unfold sum
    rw [← List.sum_append, ← List.map_append, List.take_append_drop]
  omega
theorem sum_takeS (fs : List F) (j : Nat) (hj : j < fs.length) : sum (fs.take (j + 1)) = sum (fs.take j) + fs[j].l.length := by
  rw [List.take_succ_eq_append_getElem hj]
  unfold sum
  rw [List.map_append, List.sum_append]
  simp
theorem bz (t : List UInt8) : (⟨t.toArray⟩ : ByteArray).size = t.length := by simp [ByteArray.size]
set_option maxHeartbeats 1000000 in
theorem used_any (w : World) (b : Nat) (v : Value) (r : R) (h : RD w b v r) (hl : r.l.length ≤ 200) (hs : sum r.l ≤ 4194304) :
    Calls Try.prog 41 #[.pointer (some ⟨b, 0, none⟩)] w fun e w' => e = .returned (.int .i64 (sum r.l : Int)) ∧ w' = w := by
  have c0 := h.c.1
  obtain ⟨A, cap, hv⟩ := h.row.len
  subst hv
  have hR := Lib.hid h.row
  clear h
  generalize r.l = fs at *
  go_enter Try.func41, Try.ntmps41
  go_wp2_with fail
  go_loopw [3, 4] (fun s i wr => ∃ k : Nat, i = .int .i64 (k : Int) ∧ k ≤ fs.length ∧ s = .int .i64 (sum (fs.take k) : Int) ∧ wr = w) (fun _ i _ => fs.length - (intOf i).toNat)
  case atStart => exact ⟨0, rfl, Nat.zero_le _, rfl, rfl⟩
  case round =>
    obtain ⟨k, rfl, hk, rfl, rfl⟩ := hrel
    by_cases hks : k < fs.length
    · rcases hR.out.form with ⟨_, h2⟩ | ⟨g, cap', h2, _⟩
      · rw [h2] at hks; exact absurd hks (Nat.not_lt_zero _)
      · injection h2 with h2 _ h3
        subst h2 h3
        have q0 := hR.out.at_ k hks 1 (by omega)
        dsimp only [fcs, List.getElem?_cons_zero, List.getElem?_cons_succ] at q0
        have hz := bz fs[k].l
        have hst := sum_takeS fs k hks
        have hle := sum_take_le fs (k + 1)
        have HST := Lib.hid hst
        rw [hst] at hle
        have hle2 : sum (fs.take k) + fs[k].l.length ≤ 4194304 := by omega
        clear hst hle
        generalize fs[k].l = m at *
        go_wp2_with fail
        go_roundw
        case rel => exact ⟨k + 1, by go_num, by omega, by rw [HST.out]; go_num, trivial⟩
        case measure => simp [intOf]; omega
    · have hke : k = fs.length := by omega
      subst hke
      go_wp2_with fail
      go_ret
      exact ⟨by rw [List.take_length]; rfl, rfl⟩
theorem off_any (w : World) (b : Nat) (v : Value) (r : R) (h : RD w b v r) :
    Calls Try.prog 37 #[.pointer (some ⟨b, 0, none⟩)] w fun e w' => e = .returned (.tuple #[]) ∧ RD w' b v { r with off := true, kind := 0 } ∧ But b w w' := by
  obtain ⟨c0, c1, c2, c3, c4, c5, c6⟩ := h.c
  have f4 := h.blk.frozen 4
  have f6 := h.blk.frozen 6
  go_enter Try.func37, Try.ntmps37
  go_wp2
  go_end0
  exact ⟨rfl, (h.set_ (r' := { r with off := true }) 6 (.bool true) rfl rfl).set_ (r' := { r with off := true, kind := 0 }) 4 (.int .i64 0) rfl rfl, (But.set_ b w 6 _).trans (But.set_ b _ 4 _)⟩
def R.begin (r : R) (n t : List UInt8) : Int × R :=
  if isName n = false ∨ isName t = false then (1, r) else if r.off = true then (12, r)
  else if r.kind = 0 ∨ r.ops + 1 < r.at_ then (0, { r with ops := r.ops + 1 })
  else if r.kind = 2 then (12, { r with ops := r.ops + 1, off := true, kind := 0 })
  else if r.ops + 1 - r.at_ ≤ max r.more 0 then (11, { r with ops := r.ops + 1 }) else (0, { r with ops := r.ops + 1 })
theorem isN (n : List UInt8) : isName n = false ↔ n.length < 1 ∨ 80 < n.length := by
  unfold isName
  simp only [Bool.and_eq_false_iff, decide_eq_false_iff_not]
  omega
set_option maxHeartbeats 1000000 in
theorem begin_any (w : World) (b : Nat) (v : Value) (r : R) (h : RD w b v r) (n t : List UInt8) (h0 : 0 ≤ r.ops) (h1 : r.ops < 4611686018427387904) (ha : 0 ≤ r.at_) (ha1 : r.at_ < 4611686018427387904) :
    Calls Try.prog 49 #[.pointer (some ⟨b, 0, none⟩), .agg #[.string ⟨n.toArray⟩, .string ⟨t.toArray⟩]] w fun e w' => e = .returned (.int .i64 (r.begin n t).1) ∧ RD w' b v (r.begin n t).2 ∧ But b w w' := by
  generalize hr : r.begin n t = res
  unfold R.begin at hr
  have hrk := Lib.hid hr
  clear hr
  have z1 := bz n
  have z2 := bz t
  have hoff := off_any
  go_enter Try.func49, Try.ntmps49
  go_wp2_with fail
  have hx := Reg.Ext.alloc w (.cells #[.string ⟨n.toArray⟩, .string ⟨t.toArray⟩] 80)
  have hb9 := Blk.new w 80 #[.string ⟨n.toArray⟩, .string ⟨t.toArray⟩]
  have n0 := hb9.cell 0
  have n1 := hb9.cell 1
  dsimp only [List.getElem?_cons_zero, List.getElem?_cons_succ] at n0 n1
  have H9 := Lib.hid (h.ext hx)
  have B9 : Hid (But b w (w.alloc (.cells #[.string ⟨n.toArray⟩, .string ⟨t.toArray⟩] 80))) := Lib.hid (But.of_ext hx)
  generalize w.alloc (.cells #[.string ⟨n.toArray⟩, .string ⟨t.toArray⟩] 80) = w9 at *
  clear hx hb9 h
  generalize w.heap.size = g9 at *
  go_loopw [5] (fun i wr => ∃ k : Nat, i = .int .i64 (k : Int) ∧ k ≤ 2 ∧ Hid ((0 < k → isName n = true) ∧ (1 < k → isName t = true)) ∧ wr = w9) (fun i _ => 2 - (intOf i).toNat)
  case atStart => exact ⟨0, rfl, Nat.zero_le _, Lib.hid ⟨fun h => absurd h (Nat.lt_irrefl _), fun h => absurd h (by decide)⟩, rfl⟩
  case round =>
    obtain ⟨k, rfl, hk, HA, rfl⟩ := hrel
    match k, hk with
    | 0, _ =>
      by_cases k1 : n.length < 1
      · have hres := hrk.out
        rw [if_pos (.inl ((isN n).2 (.inl k1)))] at hres
        subst hres
        go_wp2_with fail
        go_ret
        exact ⟨rfl, H9.out, B9.out⟩
      · by_cases k2 : 80 < n.length
        · have hres := hrk.out
          rw [if_pos (.inl ((isN n).2 (.inr k2)))] at hres
          subst hres
          go_wp2_with fail
          go_ret
          exact ⟨rfl, H9.out, B9.out⟩
        · have hnm : isName n = true := by
            have := isN n
            cases h : isName n with
            | true => rfl
            | false => exact absurd (this.1 h) (by omega)
          go_wp2_with fail
          go_roundw
          case rel => exact ⟨1, rfl, by omega, Lib.hid ⟨fun _ => hnm, fun h => absurd h (by decide)⟩, trivial⟩
          case measure => simp [intOf]
    | 1, _ =>
      have hn1 := HA.out.1 (by decide)
      have HN := Lib.hid hn1
      clear hn1
      by_cases k1 : t.length < 1
      · have hres := hrk.out
        rw [if_pos (.inr ((isN t).2 (.inl k1)))] at hres
        subst hres
        go_wp2_with fail
        go_ret
        exact ⟨rfl, H9.out, B9.out⟩
      · by_cases k2 : 80 < t.length
        · have hres := hrk.out
          rw [if_pos (.inr ((isN t).2 (.inr k2)))] at hres
          subst hres
          go_wp2_with fail
          go_ret
          exact ⟨rfl, H9.out, B9.out⟩
        · have hnm : isName t = true := by
            have := isN t
            cases h : isName t with
            | true => rfl
            | false => exact absurd (this.1 h) (by omega)
          go_wp2_with fail
          go_roundw
          case rel => exact ⟨2, rfl, by omega, Lib.hid ⟨fun _ => HN.out, fun _ => hnm⟩, trivial⟩
          case measure => simp [intOf]
    | 2, _ =>
      have hres := hrk.out
      have hn1 := HA.out.1 (by decide)
      have hn2 := HA.out.2 (by decide)
      rw [if_neg (by rintro (h | h); rw [hn1] at h; cases h; rw [hn2] at h; cases h)] at hres
      have HRS := Lib.hid hres
      clear hres hn1 hn2 n0 n1
      obtain ⟨c0, c1, c2, c3, c4, c5, c6⟩ := H9.out.c
      obtain ⟨l, room, ops, at_, kind, more, off⟩ := r
      dsimp only at HRS c1 c2 c3 c4 c5 c6 h0 h1 ha ha1
      cases off with
      | true =>
        have hres := HRS.out
        rw [if_pos rfl] at hres
        subst hres
        go_wp2_with fail
        go_ret
        exact ⟨rfl, H9.out, B9.out⟩
      | false =>
        have f2 := H9.out.blk.frozen 2
        go_wp2_with fail
        have hD2 : RD (wr.setCell ⟨b, 2, none⟩ (.int .i64 (ops + 1))) b v ⟨l, room, ops + 1, at_, kind, more, false⟩ := H9.out.set_ 2 _ rfl rfl
        have hb2 : But b w (wr.setCell ⟨b, 2, none⟩ (.int .i64 (ops + 1))) := B9.out.trans (But.set_ b _ 2 _)
        have ho1 : 0 ≤ ops + 1 ∧ ops + 1 ≤ 4611686018427387904 := by omega
        generalize wr.setCell ⟨b, 2, none⟩ (.int .i64 (ops + 1)) = w2 at hD2 hb2 ⊢
        generalize ops + 1 = o1 at hD2 HRS ho1 ⊢
        clear c0 c1 c2 c3 c4 c5 c6 f2 h0 h1 H9 B9 HA
        obtain ⟨h0, h1⟩ := ho1
        obtain ⟨c0, c1, c2, c3, c4, c5, c6⟩ := hD2.c
        dsimp only at c1 c2 c3 c4 c5 c6
        by_cases k1 : kind = 0
        · have hres := HRS.out
          rw [if_neg Bool.false_ne_true, if_pos (.inl k1)] at hres
          subst hres
          subst k1
          go_quiet (fail)
          go_wp2
          go_ret
          exact ⟨rfl, hD2.ext (Reg.Ext.drewN _ _), hb2.trans (But.of_ext (Reg.Ext.drewN _ _))⟩
        · have q1 : (kind == 0) = false := beq_eq_false_iff_ne.2 k1
          by_cases k2 : o1 < at_
          · have q2 : decide (o1 < at_) = true := decide_eq_true k2
            have hres := HRS.out
            rw [if_neg Bool.false_ne_true, if_pos (.inr k2)] at hres
            subst hres
            clear k1 k2
            go_quiet (fail)
            go_wp2
            go_ret
            exact ⟨rfl, hD2.ext (Reg.Ext.drewN _ _), hb2.trans (But.of_ext (Reg.Ext.drewN _ _))⟩
          · have q2 : decide (o1 < at_) = false := decide_eq_false k2
            by_cases k4 : kind = 2
            · have hres := HRS.out
              rw [if_neg Bool.false_ne_true, if_neg (by rintro (h | h); exact k1 h; exact k2 h), if_pos k4] at hres
              subst hres
              clear k1 k2
              subst k4
              go_quiet (fail)
              go_wp2_with (go_at_call 37; refine (hoff _ b v _ (hD2.ext (Reg.Ext.drewN _ _))).mono ?_; rintro e w3 ⟨rfl, hD3, hb3⟩)
              go_ret
              exact ⟨rfl, hD3, (hb2.trans (But.of_ext (Reg.Ext.drewN _ _))).trans hb3⟩
            · have q4 : (kind == 2) = false := beq_eq_false_iff_ne.2 k4
              by_cases k5 : o1 - at_ ≤ max more 0
              · have q5 : decide (o1 - at_ ≤ max more 0) = true := decide_eq_true k5
                have hres := HRS.out
                rw [if_neg Bool.false_ne_true, if_neg (by rintro (h | h); exact k1 h; exact k2 h), if_neg k4, if_pos k5] at hres
                subst hres
                clear k1 k2 k4 k5
                go_quiet (fail)
                go_wp2_with fail
                go_quiet (fail)
                go_wp2
                go_ret
                exact ⟨rfl, (hD2.ext (Reg.Ext.drewN _ _)), (hb2.trans (But.of_ext (Reg.Ext.drewN _ _)))⟩
              · have q5 : decide (o1 - at_ ≤ max more 0) = false := decide_eq_false k5
                have hres := HRS.out
                rw [if_neg Bool.false_ne_true, if_neg (by rintro (h | h); exact k1 h; exact k2 h), if_neg k4, if_neg k5] at hres
                subst hres
                clear k1 k2 k4 k5
                go_quiet (fail)
                go_wp2_with fail
                go_quiet (fail)
                go_wp2
                go_ret
                exact ⟨rfl, (hD2.ext (Reg.Ext.drewN _ _)), (hb2.trans (But.of_ext (Reg.Ext.drewN _ _)))⟩
end Rk
end Go.Proofs.Ytbiikihapfpkfaa

/- What is to be done about a tag: the judgment. -/
import Derived.Test.YtcfdlfedmbmidaaDoorTkL
import Derived.Test.YtcfdlfedmbmidaaDoorTermIn
set_option linter.unusedSimpArgs false
set_option linter.unusedVariables false
set_option linter.unusedSectionVars false
namespace Go.Proofs.YtcfdlfedmbmidaaDoor
open Go Go.RowKit
namespace Tk
open FloatP
structure Cfg where
  host : List UInt8
  guests : Int
  cables : Int
  flights : Int
  budget : Int
  retries : Int
  strikes : Int
  ttl : Nat
  miss : Nat
  stale : Nat
  timeout : Nat
  backoff : Nat
  probe : Nat
def Cfg.cells (c : Cfg) : List Value := [.string ⟨c.host.toArray⟩, .int .i64 c.guests, .int .i64 c.cables, .int .i64 c.flights, .int .i64 c.budget, .int .i64 c.retries, .int .i64 c.strikes, .float .f64 c.ttl, .float .f64 c.miss, .float .f64 c.stale, .float .f64 c.timeout, .float .f64 c.backoff, .float .f64 c.probe]
def Cfg.fits (c : Cfg) : Prop := c.ttl < 18446744073709551616 ∧ c.miss < 18446744073709551616 ∧ c.stale < 18446744073709551616
def ageP (a now : Int) : Int := min (now - a) 4611686018427387904
def spanP (f : Bool) (c : Cfg) : Nat := if f = true then c.ttl else c.miss
def judgeP (x : T) (k : Bool) (now : Int) (c : Cfg) (off : Bool) : Int :=
  if k = false ∨ now < x.at_ then 1 else if withinP (ageP x.at_ now) (spanP x.found c) = true then 2 else if off = true ∧ x.found = true ∧ withinP (ageP x.at_ now) c.stale = true then 4 else 3
theorem boxC (w : World) (c : Cfg) : Blk (w.alloc (Obj.cells c.cells.toArray 28)) w.heap.size 28 c.cells := by
  have := Blk.new w 28 c.cells.toArray
  simpa using this
theorem size_up (w : World) (o : Obj) : (w.alloc o).heap.size = w.heap.size + 1 := by
  show (w.heap.push o).size = _
  exact Array.size_push _
theorem age_any (a now : Int) (h : a ≤ now) (h1 : -9223372036854775808 ≤ a) (h2 : now < 9223372036854775808) (w : World) : Calls Tryd.prog 29 #[.int .i64 a, .int .i64 now] w fun e w' => e = .returned (.int .i64 (ageP a now)) ∧ w = w' := by
  have HP := Lib.hid (And.intro h (And.intro h1 h2))
  clear h h1 h2
  go_enter Tryd.func29, Tryd.ntmps29
  go_wp2_with fail
  go_ret
  obtain ⟨h, h1, h2⟩ := HP.out
  refine ⟨congrArg (fun z => Ending.returned (Value.int .i64 z)) ?_, rfl⟩
  rw [show IntKind.u64.wrap (IntKind.u64.wrap now - IntKind.u64.wrap a) = now - a by rw [IntKind.wrap_u64, IntKind.wrap_u64, IntKind.wrap_u64]; omega]
  unfold ageP wrap64
  omega
theorem ref_age (a now : Int) (h : a ≤ now) (h1 : -9223372036854775808 ≤ a) (h2 : now < 9223372036854775808) : (wrap64 (now - a) < 0 ∧ ageP a now = 4611686018427387904) ∨ (0 ≤ wrap64 (now - a) ∧ 4611686018427387904 < wrap64 (now - a) ∧ ageP a now = 4611686018427387904) ∨ (0 ≤ wrap64 (now - a) ∧ wrap64 (now - a) ≤ 4611686018427387904 ∧ ageP a now = wrap64 (now - a)) := by
  unfold ageP wrap64
  omega
set_option maxRecDepth 100000 in
set_option maxHeartbeats 1000000 in
theorem judge_any (x : T) (hx : x.dig.length = 32) (k : Bool) (now : Int) (c : Cfg) (off : Bool) (h1 : -9223372036854775808 ≤ x.at_) (h2 : now < 9223372036854775808) (hc : c.fits) (w : World) : Calls Tryd.prog 11 #[.agg x.cells.toArray, .bool k, .int .i64 now, .agg c.cells.toArray, .bool off] w fun e w' => e = .returned (.int .i64 (judgeP x k now c off)) ∧ Reg.Ext w w' := by
  have hb1 := boxT w x
  have hb2 := boxC (w.alloc (Obj.cells x.cells.toArray 25)) c
  have hx1 := Reg.Ext.alloc w (Obj.cells x.cells.toArray 25)
  have hx2 := Reg.Ext.alloc (w.alloc (Obj.cells x.cells.toArray 25)) (Obj.cells c.cells.toArray 28)
  have HX := Lib.hid (hx1.trans hx2)
  rw [size_up] at hb2
  replace hb1 := hb1.ext hx2
  have c2 : ((w.alloc (Obj.cells x.cells.toArray 25)).alloc (Obj.cells c.cells.toArray 28)).cell? ⟨w.heap.size, 2, none⟩ = some (.bool x.found) := hb1.cell 2
  have c37 : ((w.alloc (Obj.cells x.cells.toArray 25)).alloc (Obj.cells c.cells.toArray 28)).cell? ⟨w.heap.size, 37, none⟩ = some (.int .i64 x.at_) := (hb1.cell 37).trans (x.tail hx 2)
  have d7 : ((w.alloc (Obj.cells x.cells.toArray 25)).alloc (Obj.cells c.cells.toArray 28)).cell? ⟨w.heap.size + 1, 7, none⟩ = some (.float .f64 c.ttl) := hb2.cell 7
  have d8 : ((w.alloc (Obj.cells x.cells.toArray 25)).alloc (Obj.cells c.cells.toArray 28)).cell? ⟨w.heap.size + 1, 8, none⟩ = some (.float .f64 c.miss) := hb2.cell 8
  have d9 : ((w.alloc (Obj.cells x.cells.toArray 25)).alloc (Obj.cells c.cells.toArray 28)).cell? ⟨w.heap.size + 1, 9, none⟩ = some (.float .f64 c.stale) := hb2.cell 9
  clear hb1 hb2 hx1 hx2 hx
  by_cases hq : k = false ∨ now < x.at_
  · have hv : judgeP x k now c off = 1 := by unfold judgeP; rw [if_pos hq]
    rw [hv]
    clear hv
    cases k with
    | false =>
      clear hq
      go_enter Tryd.func11, Tryd.ntmps11
      go_upto_region 1 with (fail)
      generalize (w.alloc (Obj.cells x.cells.toArray 25)).alloc (Obj.cells c.cells.toArray 28) = W at *
      generalize w.heap.size + 1 = g2 at *
      generalize w.heap.size = g1 at *
      go_wp2_with fail
      go_ret
      exact ⟨rfl, HX.out⟩
    | true =>
      have hq : now < x.at_ := by rcases hq with h | h; cases h; exact h
      have qa : decide (now < x.at_) = true := decide_eq_true hq
      clear hq
      go_enter Tryd.func11, Tryd.ntmps11
      go_upto_region 1 with (fail)
      generalize (w.alloc (Obj.cells x.cells.toArray 25)).alloc (Obj.cells c.cells.toArray 28) = W at *
      generalize w.heap.size + 1 = g2 at *
      generalize w.heap.size = g1 at *
      go_wp2_with fail
      go_ret
      exact ⟨rfl, HX.out⟩
  · obtain rfl : k = true := by cases k; exact absurd (.inl rfl) hq; rfl
    have hle : x.at_ ≤ now := Int.not_lt.1 fun h => hq (.inr h)
    have qa : decide (now < x.at_) = false := decide_eq_false (fun h => hq (.inr h))
    have HA := Lib.hid (fun w => age_any x.at_ now hle h1 h2 w)
    have hn1 : True := trivial
    generalize hn : ageP x.at_ now = n at HA hn1
    obtain ⟨q1, hq1⟩ : ∃ q, withinP n (spanP x.found c) = q := ⟨_, rfl⟩
    obtain ⟨q2, hq2⟩ : ∃ q, withinP n c.stale = q := ⟨_, rfl⟩
    have hv : judgeP x true now c off = if q1 = true then 2 else if off = true ∧ x.found = true ∧ q2 = true then 4 else 3 := by unfold judgeP; rw [if_neg hq, hn, hq1, hq2]
    have HW2 := Lib.hid (fun w => Flt.within_any n c.stale w hc.2.2)
    rw [hq2] at HW2
    rw [hv]
    obtain ⟨f, hf⟩ : ∃ f, x.found = f := ⟨_, rfl⟩
    rw [hf] at c2 hq1 ⊢
    have HW1 : Hid (∀ w, Calls Tryd.prog 13 #[.int .i64 n, .float .f64 (spanP f c)] w fun e w' => e = .returned (.bool q1) ∧ w = w') := by
      refine Lib.hid fun w => ?_
      rw [← hq1]
      refine Flt.within_any n _ w ?_
      unfold spanP
      split
      · exact hc.1
      · exact hc.2.1
    clear hv hq1 hq2 hle hq hf
    clear hc h1 h2 hn
    go_enter Tryd.func11, Tryd.ntmps11
    go_upto_region 1 with (fail)
    generalize (w.alloc (Obj.cells x.cells.toArray 25)).alloc (Obj.cells c.cells.toArray 28) = W at *
    generalize w.heap.size + 1 = g2 at *
    generalize w.heap.size = g1 at *
    cases f
    · rw [show spanP false c = c.miss from rfl] at HW1
      go_wp2_with (fail)
      go_quiet ((go_at_call 29; exact Calls.quiet_of_same ((HA.out _).mono fun _ _ h => ⟨h.1, h.2.symm⟩)))
      have hxd := Reg.Ext.drewN W nq
      have HX := Lib.hid (HX.out.trans hxd)
      have c2 := hxd.at_ c2
      have c37 := hxd.at_ c37
      have d7 := hxd.at_ d7
      have d8 := hxd.at_ d8
      have d9 := hxd.at_ d9
      clear hxd
      generalize W.drewN nq = V at *
      cases q1 with
      | true =>
        go_wp2_with (go_at_call 13; refine (HW1.out _).mono ?_; rintro e wk ⟨rfl, rfl⟩)
        go_ret
        exact ⟨rfl, HX.out⟩
      | false =>
        cases off with
        | true =>
          go_wp2_with (go_at_call 13; refine (HW1.out _).mono ?_; rintro e wk ⟨rfl, rfl⟩)
          go_ret
          exact ⟨rfl, HX.out⟩
        | false =>
          go_wp2_with (go_at_call 13; refine (HW1.out _).mono ?_; rintro e wk ⟨rfl, rfl⟩)
          go_ret
          exact ⟨rfl, HX.out⟩
    · rw [show spanP true c = c.ttl from rfl] at HW1
      go_wp2_with (fail)
      go_quiet ((go_at_call 29; exact Calls.quiet_of_same ((HA.out _).mono fun _ _ h => ⟨h.1, h.2.symm⟩)))
      have hxd := Reg.Ext.drewN W nq
      have HX := Lib.hid (HX.out.trans hxd)
      have c2 := hxd.at_ c2
      have c37 := hxd.at_ c37
      have d7 := hxd.at_ d7
      have d8 := hxd.at_ d8
      have d9 := hxd.at_ d9
      clear hxd
      generalize W.drewN nq = V at *
      cases q1 with
      | true =>
        go_wp2_with (go_at_call 13; refine (HW1.out _).mono ?_; rintro e wk ⟨rfl, rfl⟩)
        go_ret
        exact ⟨rfl, HX.out⟩
      | false =>
        cases off with
        | true =>
          cases q2 with
          | true =>
            go_upto_region 8 with (go_at_call 13; refine (HW1.out _).mono ?_; rintro e wk ⟨rfl, rfl⟩)
            go_wp2_with (go_at_call 13; refine (HW2.out _).mono ?_; rintro e wk ⟨rfl, rfl⟩)
            go_ret
            exact ⟨rfl, HX.out⟩
          | false =>
            go_upto_region 8 with (go_at_call 13; refine (HW1.out _).mono ?_; rintro e wk ⟨rfl, rfl⟩)
            go_wp2_with (go_at_call 13; refine (HW2.out _).mono ?_; rintro e wk ⟨rfl, rfl⟩)
            go_ret
            exact ⟨rfl, HX.out⟩
        | false =>
          go_wp2_with (go_at_call 13; refine (HW1.out _).mono ?_; rintro e wk ⟨rfl, rfl⟩)
          go_ret
          exact ⟨rfl, HX.out⟩
set_option maxRecDepth 100000 in
set_option maxHeartbeats 2000000 in
theorem judgeR_any (x : T) (hx : x.dig.length = 32) (k : Bool) (now : Int) (c : Cfg) (off : Bool) (h1 : -9223372036854775808 ≤ x.at_) (h2 : now < 9223372036854775808) (hc : c.fits) (w : World) : Calls Tryd.prog 12 #[.agg x.cells.toArray, .bool k, .int .i64 now, .agg c.cells.toArray, .bool off] w fun e w' => e = .returned (.int .i64 (judgeP x k now c off)) ∧ Reg.Ext w w' := by
  have hb1 := boxT w x
  have hb2 := boxC (w.alloc (Obj.cells x.cells.toArray 25)) c
  have hx1 := Reg.Ext.alloc w (Obj.cells x.cells.toArray 25)
  have hx2 := Reg.Ext.alloc (w.alloc (Obj.cells x.cells.toArray 25)) (Obj.cells c.cells.toArray 28)
  have HX := Lib.hid (hx1.trans hx2)
  rw [size_up] at hb2
  replace hb1 := hb1.ext hx2
  have c2 : ((w.alloc (Obj.cells x.cells.toArray 25)).alloc (Obj.cells c.cells.toArray 28)).cell? ⟨w.heap.size, 2, none⟩ = some (.bool x.found) := hb1.cell 2
  have c37 : ((w.alloc (Obj.cells x.cells.toArray 25)).alloc (Obj.cells c.cells.toArray 28)).cell? ⟨w.heap.size, 37, none⟩ = some (.int .i64 x.at_) := (hb1.cell 37).trans (x.tail hx 2)
  have d7 : ((w.alloc (Obj.cells x.cells.toArray 25)).alloc (Obj.cells c.cells.toArray 28)).cell? ⟨w.heap.size + 1, 7, none⟩ = some (.float .f64 c.ttl) := hb2.cell 7
  have d8 : ((w.alloc (Obj.cells x.cells.toArray 25)).alloc (Obj.cells c.cells.toArray 28)).cell? ⟨w.heap.size + 1, 8, none⟩ = some (.float .f64 c.miss) := hb2.cell 8
  have d9 : ((w.alloc (Obj.cells x.cells.toArray 25)).alloc (Obj.cells c.cells.toArray 28)).cell? ⟨w.heap.size + 1, 9, none⟩ = some (.float .f64 c.stale) := hb2.cell 9
  clear hb1 hb2 hx1 hx2 hx
  by_cases hq : k = false ∨ now < x.at_
  · have hv : judgeP x k now c off = 1 := by unfold judgeP; rw [if_pos hq]
    rw [hv]
    clear hv
    cases k with
    | false =>
      clear hq
      go_enter Tryd.func12, Tryd.ntmps12
      go_upto_region 1 with (fail)
      generalize (w.alloc (Obj.cells x.cells.toArray 25)).alloc (Obj.cells c.cells.toArray 28) = W at *
      generalize w.heap.size + 1 = g2 at *
      generalize w.heap.size = g1 at *
      go_wp2_with fail
      go_ret
      exact ⟨rfl, HX.out⟩
    | true =>
      have hq : now < x.at_ := by rcases hq with h | h; cases h; exact h
      have qa : decide (now < x.at_) = true := decide_eq_true hq
      clear hq
      go_enter Tryd.func12, Tryd.ntmps12
      go_upto_region 1 with (fail)
      generalize (w.alloc (Obj.cells x.cells.toArray 25)).alloc (Obj.cells c.cells.toArray 28) = W at *
      generalize w.heap.size + 1 = g2 at *
      generalize w.heap.size = g1 at *
      go_wp2_with fail
      go_ret
      exact ⟨rfl, HX.out⟩
  · have hle0 : x.at_ ≤ now := Int.not_lt.1 fun h => hq (.inr h)
    have hm := ref_age x.at_ now hle0 h1 h2
    clear hle0
    obtain ⟨m, hmw⟩ : ∃ m, wrap64 (now - x.at_) = m := ⟨_, rfl⟩
    rw [hmw] at hm
    obtain rfl : k = true := by cases k; exact absurd (.inl rfl) hq; rfl
    have hle : x.at_ ≤ now := Int.not_lt.1 fun h => hq (.inr h)
    have qa : decide (now < x.at_) = false := decide_eq_false (fun h => hq (.inr h))
    have HA := Lib.hid (fun w => age_any x.at_ now hle h1 h2 w)
    have hn1 : True := trivial
    generalize hn : ageP x.at_ now = n at HA hm
    obtain ⟨q1, hq1⟩ : ∃ q, withinP n (spanP x.found c) = q := ⟨_, rfl⟩
    obtain ⟨q2, hq2⟩ : ∃ q, withinP n c.stale = q := ⟨_, rfl⟩
    have hv : judgeP x true now c off = if q1 = true then 2 else if off = true ∧ x.found = true ∧ q2 = true then 4 else 3 := by unfold judgeP; rw [if_neg hq, hn, hq1, hq2]
    have HW2 := Lib.hid (fun w => Flt.withinR_any n c.stale w hc.2.2)
    rw [hq2] at HW2
    rw [hv]
    obtain ⟨f, hf⟩ : ∃ f, x.found = f := ⟨_, rfl⟩
    rw [hf] at c2 hq1 ⊢
    have HW1 : Hid (∀ w, Calls Tryd.prog 30 #[.int .i64 n, .float .f64 (spanP f c)] w fun e w' => e = .returned (.bool q1) ∧ w = w') := by
      refine Lib.hid fun w => ?_
      rw [← hq1]
      refine Flt.withinR_any n _ w ?_
      unfold spanP
      split
      · exact hc.1
      · exact hc.2.1
    clear hv hq1 hq2 hle hq hf
    clear hc h1 h2 hn HA
    rcases hm with ⟨m1, m2⟩ | ⟨m1, m2, m3⟩ | ⟨m1, m2, m3⟩
    · subst m2
      have q3 : decide (m < 0) = true := decide_eq_true m1
      clear m1
      go_enter Tryd.func12, Tryd.ntmps12
      go_upto_region 1 with (fail)
      generalize (w.alloc (Obj.cells x.cells.toArray 25)).alloc (Obj.cells c.cells.toArray 28) = W at *
      generalize w.heap.size + 1 = g2 at *
      generalize w.heap.size = g1 at *
      go_upto_region 6 with (fail)
      rw [hmw]
      clear hmw
      cases f
      · rw [show spanP false c = c.miss from rfl] at HW1
        cases q1 with
        | true =>
          go_wp2_with (go_at_call 30; refine (HW1.out _).mono ?_; rintro e wk ⟨rfl, rfl⟩)
          go_ret
          exact ⟨rfl, HX.out⟩
        | false =>
          cases off with
          | true =>
            go_wp2_with (go_at_call 30; refine (HW1.out _).mono ?_; rintro e wk ⟨rfl, rfl⟩)
            go_ret
            exact ⟨rfl, HX.out⟩
          | false =>
            go_wp2_with (go_at_call 30; refine (HW1.out _).mono ?_; rintro e wk ⟨rfl, rfl⟩)
            go_ret
            exact ⟨rfl, HX.out⟩
      · rw [show spanP true c = c.ttl from rfl] at HW1
        cases q1 with
        | true =>
          go_wp2_with (go_at_call 30; refine (HW1.out _).mono ?_; rintro e wk ⟨rfl, rfl⟩)
          go_ret
          exact ⟨rfl, HX.out⟩
        | false =>
          cases off with
          | true =>
            cases q2 with
            | true =>
              go_upto_region 11 with (go_at_call 30; refine (HW1.out _).mono ?_; rintro e wk ⟨rfl, rfl⟩)
              go_wp2_with (go_at_call 30; refine (HW2.out _).mono ?_; rintro e wk ⟨rfl, rfl⟩)
              go_ret
              exact ⟨rfl, HX.out⟩
            | false =>
              go_upto_region 11 with (go_at_call 30; refine (HW1.out _).mono ?_; rintro e wk ⟨rfl, rfl⟩)
              go_wp2_with (go_at_call 30; refine (HW2.out _).mono ?_; rintro e wk ⟨rfl, rfl⟩)
              go_ret
              exact ⟨rfl, HX.out⟩
          | false =>
            go_wp2_with (go_at_call 30; refine (HW1.out _).mono ?_; rintro e wk ⟨rfl, rfl⟩)
            go_ret
            exact ⟨rfl, HX.out⟩
    · subst m3
      have q3 : decide (m < 0) = false := decide_eq_false (Int.not_lt.2 m1)
      have q4 : decide (4611686018427387904 < m) = true := decide_eq_true m2
      clear m1 m2
      go_enter Tryd.func12, Tryd.ntmps12
      go_upto_region 1 with (fail)
      generalize (w.alloc (Obj.cells x.cells.toArray 25)).alloc (Obj.cells c.cells.toArray 28) = W at *
      generalize w.heap.size + 1 = g2 at *
      generalize w.heap.size = g1 at *
      go_upto_region 6 with (fail)
      rw [hmw]
      clear hmw
      cases f
      · rw [show spanP false c = c.miss from rfl] at HW1
        cases q1 with
        | true =>
          go_wp2_with (go_at_call 30; refine (HW1.out _).mono ?_; rintro e wk ⟨rfl, rfl⟩)
          go_ret
          exact ⟨rfl, HX.out⟩
        | false =>
          cases off with
          | true =>
            go_wp2_with (go_at_call 30; refine (HW1.out _).mono ?_; rintro e wk ⟨rfl, rfl⟩)
            go_ret
            exact ⟨rfl, HX.out⟩
          | false =>
            go_wp2_with (go_at_call 30; refine (HW1.out _).mono ?_; rintro e wk ⟨rfl, rfl⟩)
            go_ret
            exact ⟨rfl, HX.out⟩
      · rw [show spanP true c = c.ttl from rfl] at HW1
        cases q1 with
        | true =>
          go_wp2_with (go_at_call 30; refine (HW1.out _).mono ?_; rintro e wk ⟨rfl, rfl⟩)
          go_ret
          exact ⟨rfl, HX.out⟩
        | false =>
          cases off with
          | true =>
            cases q2 with
            | true =>
              go_upto_region 11 with (go_at_call 30; refine (HW1.out _).mono ?_; rintro e wk ⟨rfl, rfl⟩)
              go_wp2_with (go_at_call 30; refine (HW2.out _).mono ?_; rintro e wk ⟨rfl, rfl⟩)
              go_ret
              exact ⟨rfl, HX.out⟩
            | false =>
              go_upto_region 11 with (go_at_call 30; refine (HW1.out _).mono ?_; rintro e wk ⟨rfl, rfl⟩)
              go_wp2_with (go_at_call 30; refine (HW2.out _).mono ?_; rintro e wk ⟨rfl, rfl⟩)
              go_ret
              exact ⟨rfl, HX.out⟩
          | false =>
            go_wp2_with (go_at_call 30; refine (HW1.out _).mono ?_; rintro e wk ⟨rfl, rfl⟩)
            go_ret
            exact ⟨rfl, HX.out⟩
    · subst m3
      have q3 : decide (n < 0) = false := decide_eq_false (Int.not_lt.2 m1)
      have q4 : decide (4611686018427387904 < n) = false := decide_eq_false (Int.not_lt.2 m2)
      clear m1 m2
      go_enter Tryd.func12, Tryd.ntmps12
      go_upto_region 1 with (fail)
      generalize (w.alloc (Obj.cells x.cells.toArray 25)).alloc (Obj.cells c.cells.toArray 28) = W at *
      generalize w.heap.size + 1 = g2 at *
      generalize w.heap.size = g1 at *
      go_upto_region 6 with (fail)
      rw [hmw]
      clear hmw
      cases f
      · rw [show spanP false c = c.miss from rfl] at HW1
        cases q1 with
        | true =>
          go_wp2_with (go_at_call 30; refine (HW1.out _).mono ?_; rintro e wk ⟨rfl, rfl⟩)
          go_ret
          exact ⟨rfl, HX.out⟩
        | false =>
          cases off with
          | true =>
            go_wp2_with (go_at_call 30; refine (HW1.out _).mono ?_; rintro e wk ⟨rfl, rfl⟩)
            go_ret
            exact ⟨rfl, HX.out⟩
          | false =>
            go_wp2_with (go_at_call 30; refine (HW1.out _).mono ?_; rintro e wk ⟨rfl, rfl⟩)
            go_ret
            exact ⟨rfl, HX.out⟩
      · rw [show spanP true c = c.ttl from rfl] at HW1
        cases q1 with
        | true =>
          go_wp2_with (go_at_call 30; refine (HW1.out _).mono ?_; rintro e wk ⟨rfl, rfl⟩)
          go_ret
          exact ⟨rfl, HX.out⟩
        | false =>
          cases off with
          | true =>
            cases q2 with
            | true =>
              go_upto_region 11 with (go_at_call 30; refine (HW1.out _).mono ?_; rintro e wk ⟨rfl, rfl⟩)
              go_wp2_with (go_at_call 30; refine (HW2.out _).mono ?_; rintro e wk ⟨rfl, rfl⟩)
              go_ret
              exact ⟨rfl, HX.out⟩
            | false =>
              go_upto_region 11 with (go_at_call 30; refine (HW1.out _).mono ?_; rintro e wk ⟨rfl, rfl⟩)
              go_wp2_with (go_at_call 30; refine (HW2.out _).mono ?_; rintro e wk ⟨rfl, rfl⟩)
              go_ret
              exact ⟨rfl, HX.out⟩
          | false =>
            go_wp2_with (go_at_call 30; refine (HW1.out _).mono ?_; rintro e wk ⟨rfl, rfl⟩)
            go_ret
            exact ⟨rfl, HX.out⟩

end Tk
end Go.Proofs.YtcfdlfedmbmidaaDoor

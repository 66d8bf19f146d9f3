/- The walks that chapters on numbers share: Ratio of nothing, Clamp, operations. -/
import Derived.Test.YtbppjbheennphaaFloatWalks
import Derived.Laws.NewFold
set_option linter.unusedSimpArgs false
set_option linter.unusedVariables false
set_option linter.unusedSectionVars false
namespace Go.Proofs.Ytbppjbheennphaa
open Go.RowKit
namespace FloatP
open Ieee
def clampV (x low high : Nat) : Nat := if cls x = 1 ∨ cls low = 1 ∨ cls high = 1 ∨ less high low = true then 9221120237041090560 else if less x low = true then low else if less high x = true then high else x
/-- what an operation may give -/
def Gives (op : BinOp) (a b r : Nat) : Prop := r < 18446744073709551616 ∧ (floatBits op .f64 a b = some r ∨ (floatBits op .f64 a b = none ∧ cls r = 1))
end FloatP
namespace Trm
open FloatP Flt
attribute [local go_sem] call_bits call_from unary_neg_float
def infOf (n : Int) : Nat := if n < 0 then 18442240474082181120 else 9218868437227405312
set_option maxHeartbeats 1000000 in
theorem inf_any (n : Int) (w : World) : Calls Try.prog 31 #[.int .i64 n] w fun e w' => e = .returned (.float .f64 (infOf n)) ∧ w = w' := by
  go_enter Try.func31, Try.ntmps31
  by_cases h : 0 ≤ n
  · have d1 : decide (0 ≤ n) = true := decide_eq_true h
    have HV := Lib.hid (show infOf n = 9218868437227405312 from if_neg (by omega))
    clear h
    go_wp2_with fail
    go_ret
    exact ⟨by rw [HV.out]; rfl, rfl⟩
  · have d1 : decide (0 ≤ n) = false := decide_eq_false h
    have HV := Lib.hid (show infOf n = 18442240474082181120 from if_pos (by omega))
    clear h
    go_wp2_with fail
    go_ret
    exact ⟨by rw [HV.out]; rfl, rfl⟩
theorem clean_nan : clean 9221120237041090561 = 9221120237041090560 := by decide
set_option maxHeartbeats 1000000 in
theorem ratio_none (w : World) : Calls Try.prog 14 #[.int .i64 0, .int .i64 0] w fun e w' => e = .returned (.float .f64 9221120237041090560) ∧ w = w' := by
  go_enter Try.func14, Try.ntmps14
  go_wp2_with fail
  refine (nan_any w).mono ?_
  rintro e w' ⟨rfl, rfl⟩
  go_wp2_with fail
  refine (clean_any _ w (by decide)).mono ?_
  rintro e w' ⟨rfl, rfl⟩
  rw [clean_nan]
  go_wp2_with fail
  go_ret
  exact ⟨rfl, rfl⟩
set_option maxHeartbeats 1000000 in
theorem ratio_inf (a : Int) (ha : a ≠ 0) (w : World) : Calls Try.prog 14 #[.int .i64 a, .int .i64 0] w fun e w' => e = .returned (.float .f64 (infOf a)) ∧ w = w' := by
  have d1 : (a == 0) = false := by rw [beq_eq_false_iff_ne]; exact ha
  go_enter Try.func14, Try.ntmps14
  go_wp2_with fail
  refine (inf_any a w).mono ?_
  rintro e w' ⟨rfl, rfl⟩
  go_wp2_with fail
  go_ret
  exact ⟨rfl, rfl⟩
theorem arith_any (op : BinOp) (ho : op = .sub ∨ op = .mul ∨ op = .add ∨ op = .quo) (t : TypeId) (a b : Nat) (w : World) : ∃ r w', (binOp op t (.float .f64 a) (.float .f64 b)).run Try.prog w = .ok (.float .f64 r) w' ∧ Gives op a b r ∧ Reg.Ext w w' := by
  cases h : floatBits op .f64 a b with
  | some r =>
    refine ⟨r, w, run_float_arith w op t .f64 a b r h, ⟨?_, .inl h⟩, Reg.Ext.refl w⟩
    have := floatBits_wf h
    simpa [Lit.wf] using this
  | none =>
    have hq : ∃ r, (Question.nanBits .f64 a b).cut (w.tape w.drawn (.nanBits .f64 a b)) = r ∧ cls r = 1 ∧ r < 18446744073709551616 := by
      refine ⟨_, rfl, ?_⟩
      generalize w.tape w.drawn (.nanBits .f64 a b) = t
      show cls ((t % 2) * 9223372036854775808 + 9218868437227405312 + 1 + (t / 2) % 4503599627370495) = 1 ∧ (t % 2) * 9223372036854775808 + 9218868437227405312 + 1 + (t / 2) % 4503599627370495 < 18446744073709551616
      have hm : (t / 2) % 4503599627370495 < 4503599627370495 := Nat.mod_lt _ (by omega)
      generalize (t / 2) % 4503599627370495 = m at *
      rcases Nat.mod_two_eq_zero_or_one t with h2 | h2 <;> rw [h2]
      · constructor
        · unfold cls mag
          rw [if_pos (by unfold INF; omega)]
        · omega
      · constructor
        · unfold cls mag
          rw [if_pos (by unfold INF; omega)]
        · omega
    obtain ⟨r, hr, hc, hl⟩ := hq
    refine ⟨r, w.drew, ?_, ⟨hl, .inr ⟨h, hc⟩⟩, Reg.Ext.drew w⟩
    unfold floatBits at h
    rcases ho with rfl | rfl | rfl | rfl <;> simp only at h <;> simp [binOp, Op.floatArith, h, run_choose_drew, Question.forced, hr]
def fV (b : Nat) : Value := .float .f64 b
set_option maxHeartbeats 1000000 in
theorem isnum_any (A : Option Addr) (n c : Nat) (l : List Nat) (w : World) (hn : l.length = n) (hm : n ≤ 60) (hr : Rd w A (l.map fV)) (hl : ∀ b ∈ l, b < 18446744073709551616) :
    Calls Try.prog 45 #[.slice A n c] w fun e w' => e = .returned (.bool (l.all fun b => decide (cls b ≠ 1))) ∧ w = w' := by
  have HN := Lib.hid hn
  have HR := Lib.hid hr
  have HL := Lib.hid hl
  clear hn hr hl
  go_enter Try.func45, Try.ntmps45
  go_wp2_with fail
  go_loopw [4, 7] (fun _ i wr => ∃ k : Nat, k ≤ n ∧ i = .int .i64 k ∧ Hid ((l.take k).all (fun b => decide (cls b ≠ 1)) = true) ∧ w = wr) (fun _ i _ => n - (intOf i).toNat)
  case atStart => exact ⟨0, Nat.zero_le _, rfl, rfl, rfl⟩
  case round =>
    obtain ⟨k, hk, rfl, HA, rfl⟩ := hrel
    by_cases hkn : k < n
    · have hkl : k < l.length := by rw [HN.out]; exact hkn
      obtain ⟨ad, rfl, hb, hc⟩ := HR.out k (by simpa using hkl)
      have hc' : w.cell? (ad.add k) = some (.float .f64 l[k]) := by simpa [fV] using hc
      have hlk := HL.out l[k] (List.getElem_mem hkl)
      have hd9 : decide ((k : Int) < (n : Int)) = true := by rw [decide_eq_true_iff]; omega
      clear hc hb
      by_cases h1 : cls l[k] = 1
      · have HV := Lib.hid (show (l.all fun b => decide (cls b ≠ 1)) = false by
          rw [List.all_eq_false]
          exact ⟨l[k], List.getElem_mem hkl, by simp [h1]⟩)
        generalize l[k] = b at *
        go_wp2_with fail
        refine (class_any b w hlk).mono ?_
        rintro e w' ⟨rfl, rfl⟩
        rw [h1]
        clear h1
        go_wp2_with fail
        go_ret
        exact ⟨by rw [HV.out]; rfl, rfl⟩
      · have HA2 : Hid ((l.take (k + 1)).all (fun b => decide (cls b ≠ 1)) = true) := by
          show _ = _
          rw [List.take_succ_eq_append_getElem hkl, List.all_append, HA.out]
          simp [h1]
        have d1 : ((cls l[k] : Int) == 1) = false := by rw [beq_eq_false_iff_ne]; omega
        clear h1
        generalize l[k] = b at *
        go_wp2_with fail
        refine (class_any b w hlk).mono ?_
        rintro e w' ⟨rfl, rfl⟩
        generalize cls b = cc at *
        go_wp2_with fail
        go_roundw
        case rel => exact ⟨k + 1, by omega, by go_num, HA2, trivial⟩
        case measure => simp [intOf]; omega
    · have hd9 : decide ((k : Int) < (n : Int)) = false := by rw [decide_eq_false_iff_not]; omega
      have hA := HA.out
      rw [List.take_of_length_le (by rw [HN.out]; omega)] at hA
      have HV := Lib.hid hA
      clear hA
      go_wp2_with fail
      go_ret
      exact ⟨by rw [HV.out]; rfl, rfl⟩
set_option maxHeartbeats 2000000 in
theorem clamp_any (x low high : Nat) (w : World) (hx : x < 18446744073709551616) (hl : low < 18446744073709551616) (hh : high < 18446744073709551616) :
    Calls Try.prog 28 #[.float .f64 x, .float .f64 low, .float .f64 high] w fun e w' => e = .returned (.float .f64 (clampV x low high)) ∧ Reg.Ext w w' := by
  go_enter Try.func28, Try.ntmps28
  by_cases hx1 : cls x = 1
  · have HV := Lib.hid (show clampV x low high = 9221120237041090560 by unfold clampV; rw [if_pos (.inl hx1)])
    have dx : ((cls x : Int) == 1) = true := by rw [beq_iff_eq]; omega
    as_aux_lemma =>
      have hall : ([x, low, high].all fun b => decide (cls b ≠ 1)) = false := by simp [*]
      have HALL := Lib.hid hall
      clear hall
      go_wp2_with fail
      have hxa := Reg.Ext.alloc w (Obj.cells #[Value.float .f64 x, Value.float .f64 low, Value.float .f64 high] 22)
      have hra : Rd (w.alloc (Obj.cells #[Value.float .f64 x, Value.float .f64 low, Value.float .f64 high] 22)) (some ⟨w.heap.size, 0, none⟩) ([x, low, high].map fV) := Rd.new w 22 #[fV x, fV low, fV high]
      refine (isnum_any _ 3 3 [x, low, high] _ rfl (by omega) hra (by intro b hb; simp at hb; rcases hb with rfl | rfl | rfl <;> assumption)).mono ?_
      rintro e w' ⟨rfl, rfl⟩
      rw [HALL.out]
      clear hra
      have HXA := Lib.hid hxa
      clear hxa
      go_wp2_with fail
      repeat (first
        | (refine (less_any _ _ _ (by assumption) (by assumption)).mono ?_
           rintro e w' ⟨rfl, rfl⟩
           go_wp2_with fail)
        | (refine (lessR_any _ _ _ (by first | assumption | decide) (by first | assumption | decide)).mono ?_
           rintro e w' ⟨rfl, rfl⟩
           go_wp2_with fail)
        | (refine (classR_any _ _ (by assumption)).mono ?_
           rintro e w' ⟨rfl, rfl⟩
           go_wp2_with fail)
        | (refine (nanR_any _).mono ?_
           rintro e w' ⟨rfl, rfl⟩
           go_wp2_with fail)
        | (refine (nan_any _).mono ?_
           rintro e w' ⟨rfl, rfl⟩
           go_wp2_with fail
           refine (clean_any _ _ (by decide)).mono ?_
           rintro e w' ⟨rfl, rfl⟩
           rw [clean_nan]
           go_wp2_with fail))
      go_ret
      exact ⟨by rw [HV.out]; rfl, HXA.out⟩
  · have dx : ((cls x : Int) == 1) = false := by rw [beq_eq_false_iff_ne]; omega
    by_cases hl1 : cls low = 1
    · have HV := Lib.hid (show clampV x low high = 9221120237041090560 by unfold clampV; rw [if_pos (.inr (.inl hl1))])
      have dl : ((cls low : Int) == 1) = true := by rw [beq_iff_eq]; omega
      as_aux_lemma =>
        have hall : ([x, low, high].all fun b => decide (cls b ≠ 1)) = false := by simp [*]
        have HALL := Lib.hid hall
        clear hall
        go_wp2_with fail
        have hxa := Reg.Ext.alloc w (Obj.cells #[Value.float .f64 x, Value.float .f64 low, Value.float .f64 high] 22)
        have hra : Rd (w.alloc (Obj.cells #[Value.float .f64 x, Value.float .f64 low, Value.float .f64 high] 22)) (some ⟨w.heap.size, 0, none⟩) ([x, low, high].map fV) := Rd.new w 22 #[fV x, fV low, fV high]
        refine (isnum_any _ 3 3 [x, low, high] _ rfl (by omega) hra (by intro b hb; simp at hb; rcases hb with rfl | rfl | rfl <;> assumption)).mono ?_
        rintro e w' ⟨rfl, rfl⟩
        rw [HALL.out]
        clear hra
        have HXA := Lib.hid hxa
        clear hxa
        go_wp2_with fail
        repeat (first
          | (refine (less_any _ _ _ (by assumption) (by assumption)).mono ?_
             rintro e w' ⟨rfl, rfl⟩
             go_wp2_with fail)
          | (refine (lessR_any _ _ _ (by first | assumption | decide) (by first | assumption | decide)).mono ?_
             rintro e w' ⟨rfl, rfl⟩
             go_wp2_with fail)
          | (refine (classR_any _ _ (by assumption)).mono ?_
             rintro e w' ⟨rfl, rfl⟩
             go_wp2_with fail)
          | (refine (nanR_any _).mono ?_
             rintro e w' ⟨rfl, rfl⟩
             go_wp2_with fail)
          | (refine (nan_any _).mono ?_
             rintro e w' ⟨rfl, rfl⟩
             go_wp2_with fail
             refine (clean_any _ _ (by decide)).mono ?_
             rintro e w' ⟨rfl, rfl⟩
             rw [clean_nan]
             go_wp2_with fail))
        go_ret
        exact ⟨by rw [HV.out]; rfl, HXA.out⟩
    · have dl : ((cls low : Int) == 1) = false := by rw [beq_eq_false_iff_ne]; omega
      by_cases hh1 : cls high = 1
      · have HV := Lib.hid (show clampV x low high = 9221120237041090560 by unfold clampV; rw [if_pos (.inr (.inr (.inl hh1)))])
        have dh : ((cls high : Int) == 1) = true := by rw [beq_iff_eq]; omega
        as_aux_lemma =>
          have hall : ([x, low, high].all fun b => decide (cls b ≠ 1)) = false := by simp [*]
          have HALL := Lib.hid hall
          clear hall
          go_wp2_with fail
          have hxa := Reg.Ext.alloc w (Obj.cells #[Value.float .f64 x, Value.float .f64 low, Value.float .f64 high] 22)
          have hra : Rd (w.alloc (Obj.cells #[Value.float .f64 x, Value.float .f64 low, Value.float .f64 high] 22)) (some ⟨w.heap.size, 0, none⟩) ([x, low, high].map fV) := Rd.new w 22 #[fV x, fV low, fV high]
          refine (isnum_any _ 3 3 [x, low, high] _ rfl (by omega) hra (by intro b hb; simp at hb; rcases hb with rfl | rfl | rfl <;> assumption)).mono ?_
          rintro e w' ⟨rfl, rfl⟩
          rw [HALL.out]
          clear hra
          have HXA := Lib.hid hxa
          clear hxa
          go_wp2_with fail
          repeat (first
            | (refine (less_any _ _ _ (by assumption) (by assumption)).mono ?_
               rintro e w' ⟨rfl, rfl⟩
               go_wp2_with fail)
            | (refine (lessR_any _ _ _ (by first | assumption | decide) (by first | assumption | decide)).mono ?_
               rintro e w' ⟨rfl, rfl⟩
               go_wp2_with fail)
            | (refine (classR_any _ _ (by assumption)).mono ?_
               rintro e w' ⟨rfl, rfl⟩
               go_wp2_with fail)
            | (refine (nanR_any _).mono ?_
               rintro e w' ⟨rfl, rfl⟩
               go_wp2_with fail)
            | (refine (nan_any _).mono ?_
               rintro e w' ⟨rfl, rfl⟩
               go_wp2_with fail
               refine (clean_any _ _ (by decide)).mono ?_
               rintro e w' ⟨rfl, rfl⟩
               rw [clean_nan]
               go_wp2_with fail))
          go_ret
          exact ⟨by rw [HV.out]; rfl, HXA.out⟩
      · have dh : ((cls high : Int) == 1) = false := by rw [beq_eq_false_iff_ne]; omega
        cases hhl : less high low with
        | true =>
          have HV := Lib.hid (show clampV x low high = 9221120237041090560 by unfold clampV; rw [if_pos (.inr (.inr (.inr hhl)))])
          as_aux_lemma =>
            have hall : ([x, low, high].all fun b => decide (cls b ≠ 1)) = true := by simp [*]
            have HALL := Lib.hid hall
            clear hall
            go_wp2_with fail
            have hxa := Reg.Ext.alloc w (Obj.cells #[Value.float .f64 x, Value.float .f64 low, Value.float .f64 high] 22)
            have hra : Rd (w.alloc (Obj.cells #[Value.float .f64 x, Value.float .f64 low, Value.float .f64 high] 22)) (some ⟨w.heap.size, 0, none⟩) ([x, low, high].map fV) := Rd.new w 22 #[fV x, fV low, fV high]
            refine (isnum_any _ 3 3 [x, low, high] _ rfl (by omega) hra (by intro b hb; simp at hb; rcases hb with rfl | rfl | rfl <;> assumption)).mono ?_
            rintro e w' ⟨rfl, rfl⟩
            rw [HALL.out]
            clear hra
            have HXA := Lib.hid hxa
            clear hxa
            go_wp2_with fail
            repeat (first
              | (refine (less_any _ _ _ (by assumption) (by assumption)).mono ?_
                 rintro e w' ⟨rfl, rfl⟩
                 go_wp2_with fail)
              | (refine (lessR_any _ _ _ (by first | assumption | decide) (by first | assumption | decide)).mono ?_
                 rintro e w' ⟨rfl, rfl⟩
                 go_wp2_with fail)
              | (refine (classR_any _ _ (by assumption)).mono ?_
                 rintro e w' ⟨rfl, rfl⟩
                 go_wp2_with fail)
              | (refine (nanR_any _).mono ?_
                 rintro e w' ⟨rfl, rfl⟩
                 go_wp2_with fail)
              | (refine (nan_any _).mono ?_
                 rintro e w' ⟨rfl, rfl⟩
                 go_wp2_with fail
                 refine (clean_any _ _ (by decide)).mono ?_
                 rintro e w' ⟨rfl, rfl⟩
                 rw [clean_nan]
                 go_wp2_with fail))
            go_ret
            exact ⟨by rw [HV.out]; rfl, HXA.out⟩
        | false =>
          have hno : ¬ (cls x = 1 ∨ cls low = 1 ∨ cls high = 1 ∨ less high low = true) := by simp [hx1, hl1, hh1, hhl]
          cases hxl : less x low with
          | true =>
            have HV := Lib.hid (show clampV x low high = low by unfold clampV; rw [if_neg hno, if_pos hxl])
            clear hno
            as_aux_lemma =>
              have hall : ([x, low, high].all fun b => decide (cls b ≠ 1)) = true := by simp [*]
              have HALL := Lib.hid hall
              clear hall
              go_wp2_with fail
              have hxa := Reg.Ext.alloc w (Obj.cells #[Value.float .f64 x, Value.float .f64 low, Value.float .f64 high] 22)
              have hra : Rd (w.alloc (Obj.cells #[Value.float .f64 x, Value.float .f64 low, Value.float .f64 high] 22)) (some ⟨w.heap.size, 0, none⟩) ([x, low, high].map fV) := Rd.new w 22 #[fV x, fV low, fV high]
              refine (isnum_any _ 3 3 [x, low, high] _ rfl (by omega) hra (by intro b hb; simp at hb; rcases hb with rfl | rfl | rfl <;> assumption)).mono ?_
              rintro e w' ⟨rfl, rfl⟩
              rw [HALL.out]
              clear hra
              have HXA := Lib.hid hxa
              clear hxa
              go_wp2_with fail
              repeat (first
                | (refine (less_any _ _ _ (by assumption) (by assumption)).mono ?_
                   rintro e w' ⟨rfl, rfl⟩
                   go_wp2_with fail)
                | (refine (lessR_any _ _ _ (by first | assumption | decide) (by first | assumption | decide)).mono ?_
                   rintro e w' ⟨rfl, rfl⟩
                   go_wp2_with fail)
                | (refine (classR_any _ _ (by assumption)).mono ?_
                   rintro e w' ⟨rfl, rfl⟩
                   go_wp2_with fail)
                | (refine (nanR_any _).mono ?_
                   rintro e w' ⟨rfl, rfl⟩
                   go_wp2_with fail)
                | (refine (nan_any _).mono ?_
                   rintro e w' ⟨rfl, rfl⟩
                   go_wp2_with fail
                   refine (clean_any _ _ (by decide)).mono ?_
                   rintro e w' ⟨rfl, rfl⟩
                   rw [clean_nan]
                   go_wp2_with fail))
              go_ret
              exact ⟨by rw [HV.out]; rfl, HXA.out⟩
          | false =>
            cases hhx : less high x with
            | true =>
              have HV := Lib.hid (show clampV x low high = high by unfold clampV; rw [if_neg hno, if_neg (by simp [hxl]), if_pos hhx])
              clear hno
              as_aux_lemma =>
                have hall : ([x, low, high].all fun b => decide (cls b ≠ 1)) = true := by simp [*]
                have HALL := Lib.hid hall
                clear hall
                go_wp2_with fail
                have hxa := Reg.Ext.alloc w (Obj.cells #[Value.float .f64 x, Value.float .f64 low, Value.float .f64 high] 22)
                have hra : Rd (w.alloc (Obj.cells #[Value.float .f64 x, Value.float .f64 low, Value.float .f64 high] 22)) (some ⟨w.heap.size, 0, none⟩) ([x, low, high].map fV) := Rd.new w 22 #[fV x, fV low, fV high]
                refine (isnum_any _ 3 3 [x, low, high] _ rfl (by omega) hra (by intro b hb; simp at hb; rcases hb with rfl | rfl | rfl <;> assumption)).mono ?_
                rintro e w' ⟨rfl, rfl⟩
                rw [HALL.out]
                clear hra
                have HXA := Lib.hid hxa
                clear hxa
                go_wp2_with fail
                repeat (first
                  | (refine (less_any _ _ _ (by assumption) (by assumption)).mono ?_
                     rintro e w' ⟨rfl, rfl⟩
                     go_wp2_with fail)
                  | (refine (lessR_any _ _ _ (by first | assumption | decide) (by first | assumption | decide)).mono ?_
                     rintro e w' ⟨rfl, rfl⟩
                     go_wp2_with fail)
                  | (refine (classR_any _ _ (by assumption)).mono ?_
                     rintro e w' ⟨rfl, rfl⟩
                     go_wp2_with fail)
                  | (refine (nanR_any _).mono ?_
                     rintro e w' ⟨rfl, rfl⟩
                     go_wp2_with fail)
                  | (refine (nan_any _).mono ?_
                     rintro e w' ⟨rfl, rfl⟩
                     go_wp2_with fail
                     refine (clean_any _ _ (by decide)).mono ?_
                     rintro e w' ⟨rfl, rfl⟩
                     rw [clean_nan]
                     go_wp2_with fail))
                go_ret
                exact ⟨by rw [HV.out]; rfl, HXA.out⟩
            | false =>
              have HV := Lib.hid (show clampV x low high = x by unfold clampV; rw [if_neg hno, if_neg (by simp [hxl]), if_neg (by simp [hhx])])
              clear hno
              as_aux_lemma =>
                have hall : ([x, low, high].all fun b => decide (cls b ≠ 1)) = true := by simp [*]
                have HALL := Lib.hid hall
                clear hall
                go_wp2_with fail
                have hxa := Reg.Ext.alloc w (Obj.cells #[Value.float .f64 x, Value.float .f64 low, Value.float .f64 high] 22)
                have hra : Rd (w.alloc (Obj.cells #[Value.float .f64 x, Value.float .f64 low, Value.float .f64 high] 22)) (some ⟨w.heap.size, 0, none⟩) ([x, low, high].map fV) := Rd.new w 22 #[fV x, fV low, fV high]
                refine (isnum_any _ 3 3 [x, low, high] _ rfl (by omega) hra (by intro b hb; simp at hb; rcases hb with rfl | rfl | rfl <;> assumption)).mono ?_
                rintro e w' ⟨rfl, rfl⟩
                rw [HALL.out]
                clear hra
                have HXA := Lib.hid hxa
                clear hxa
                go_wp2_with fail
                repeat (first
                  | (refine (less_any _ _ _ (by assumption) (by assumption)).mono ?_
                     rintro e w' ⟨rfl, rfl⟩
                     go_wp2_with fail)
                  | (refine (lessR_any _ _ _ (by first | assumption | decide) (by first | assumption | decide)).mono ?_
                     rintro e w' ⟨rfl, rfl⟩
                     go_wp2_with fail)
                  | (refine (classR_any _ _ (by assumption)).mono ?_
                     rintro e w' ⟨rfl, rfl⟩
                     go_wp2_with fail)
                  | (refine (nanR_any _).mono ?_
                     rintro e w' ⟨rfl, rfl⟩
                     go_wp2_with fail)
                  | (refine (nan_any _).mono ?_
                     rintro e w' ⟨rfl, rfl⟩
                     go_wp2_with fail
                     refine (clean_any _ _ (by decide)).mono ?_
                     rintro e w' ⟨rfl, rfl⟩
                     rw [clean_nan]
                     go_wp2_with fail))
                go_ret
                exact ⟨by rw [HV.out]; rfl, HXA.out⟩
end Trm
end Go.Proofs.Ytbppjbheennphaa

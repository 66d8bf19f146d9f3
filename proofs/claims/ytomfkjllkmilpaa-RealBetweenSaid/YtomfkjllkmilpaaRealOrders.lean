/- The walk of the law RealOrders. -/
import Derived.Test.YtomfkjllkmilpaaRealPrint
import Derived.Laws.NewFold
set_option linter.unusedSimpArgs false
set_option linter.unusedVariables false
set_option linter.unusedSectionVars false
namespace Go.Proofs.Ytomfkjllkmilpaa
open Go.RowKit
namespace FloatP
open Ieee
def clampV (x low high : Nat) : Nat := if cls x = 1 ∨ cls low = 1 ∨ cls high = 1 ∨ less high low = true then 9221120237041090560 else if less x low = true then low else if less high x = true then high else x
/-- a chain of operations: a NaN once, a NaN for ever -/
def mixed (mean x weight : Nat) : Option Nat := (floatBits .sub .f64 x mean).bind fun gap => (floatBits .mul .f64 weight gap).bind fun part => floatBits .add .f64 mean part
def mixV (mean x weight : Nat) : Nat := if cls weight < 4 ∨ less 4607182418800017408 weight = true then 9221120237041090560 else if cls mean = 1 then clean x else if cls x = 1 then clean mean else ((mixed mean x weight).map clean).getD 9221120237041090560
theorem nan_of_cls {b : Nat} (h : cls b = 1) : INF < mag b := by
  rcases cls_spec b with ⟨ca, na⟩ | ⟨ca, _⟩ | ⟨ca, _⟩ | ⟨ca, _⟩ | ⟨ca, _⟩ | ⟨ca, _⟩ | ⟨ca, _⟩
  · simpa [isNan] using na
  all_goals omega
theorem bits_nan_left {op : BinOp} {a b : Nat} (h : cls a = 1) : floatBits op .f64 a b = none := by
  have hr := read_nan (nan_of_cls h)
  unfold floatBits
  cases op <;> first
    | rfl
    | (show (Datum.sum (double.read a) _).map _ = none; rw [hr]; rfl)
    | (show (Datum.product (double.read a) _).map _ = none; rw [hr]; rfl)
    | (show (Datum.quotient _ (double.read a) _).map _ = none; rw [hr]; rfl)
theorem bits_nan_right {op : BinOp} {a b : Nat} (h : cls b = 1) : floatBits op .f64 a b = none := by
  have hr := read_nan (nan_of_cls h)
  unfold floatBits
  cases op <;> first
    | rfl
    | (show (Datum.sum (double.read a) (double.read b)).map _ = none; rw [hr]; cases double.read a <;> rfl)
    | (show (Datum.sum (double.read a) (double.read b).opposite).map _ = none; rw [hr]; cases double.read a <;> rfl)
    | (show (Datum.product (double.read a) (double.read b)).map _ = none; rw [hr]; cases double.read a <;> rfl)
    | (show (Datum.quotient _ (double.read a) (double.read b)).map _ = none; rw [hr]; cases double.read a <;> rfl)
/-- what an operation may give -/
def Gives (op : BinOp) (a b r : Nat) : Prop := r < 18446744073709551616 ∧ (floatBits op .f64 a b = some r ∨ (floatBits op .f64 a b = none ∧ cls r = 1))
theorem mixed_gives {mean x weight g p s : Nat} (h1 : Gives .sub x mean g) (h2 : Gives .mul weight g p) (h3 : Gives .add mean p s) : clean s = ((mixed mean x weight).map clean).getD 9221120237041090560 := by
  have hcl : ∀ b, cls b = 1 → clean b = 9221120237041090560 := fun b h => by unfold clean; rw [if_pos h]
  unfold mixed
  rcases h1.2 with e1 | ⟨e1, c1⟩
  · rcases h2.2 with e2 | ⟨e2, c2⟩
    · rcases h3.2 with e3 | ⟨e3, c3⟩
      · rw [e1]; simp only [Option.bind_some, e2, e3, Option.map_some, Option.getD_some]
      · rw [e1]; simp only [Option.bind_some, e2, e3, Option.map_none, Option.getD_none]; exact hcl s c3
    · rw [e1]; simp only [Option.bind_some, e2, Option.bind_none, Option.map_none, Option.getD_none]
      rcases h3.2 with e3 | ⟨e3, c3⟩
      · rw [bits_nan_right c2] at e3; cases e3
      · exact hcl s c3
  · rw [e1]; simp only [Option.bind_none, Option.map_none, Option.getD_none]
    rcases h2.2 with e2 | ⟨e2, c2⟩
    · rw [bits_nan_right c1] at e2; cases e2
    · rcases h3.2 with e3 | ⟨e3, c3⟩
      · rw [bits_nan_right c2] at e3; cases e3
      · exact hcl s c3
end FloatP
namespace Flt
open FloatP
attribute [local go_sem] call_bits call_from unary_neg_float
theorem arith_any (op : BinOp) (ho : op = .sub ∨ op = .mul ∨ op = .add ∨ op = .quo) (t : TypeId) (a b : Nat) (w : World) : ∃ r w', (binOp op t (.float .f64 a) (.float .f64 b)).run Try.prog w = .ok (.float .f64 r) w' ∧ Gives op a b r ∧ Reg.Ext w w' := by
  cases h : floatBits op .f64 a b with
  | some r =>
    refine ⟨r, w, run_float_arith w op t .f64 a b r h, ⟨?_, .inl h⟩, Reg.Ext.refl w⟩
    have := floatBits_wf h
    simpa [Lit.wf] using this
  | none =>
    have hq : ∃ r, (Question.nanBits .f64 a b).cut (w.tape w.drawn (.nanBits .f64 a b)) = r ∧ cls r = 1 ∧ r < 18446744073709551616 := by
      refine ⟨_, rfl, ?_⟩
      generalize w.tape w.drawn (.nanBits .f64 a b) = t
      show cls ((t % 2) * 9223372036854775808 + 9218868437227405312 + 1 + (t / 2) % 4503599627370495) = 1 ∧ (t % 2) * 9223372036854775808 + 9218868437227405312 + 1 + (t / 2) % 4503599627370495 < 18446744073709551616
      have hm : (t / 2) % 4503599627370495 < 4503599627370495 := Nat.mod_lt _ (by omega)
      generalize (t / 2) % 4503599627370495 = m at *
      rcases Nat.mod_two_eq_zero_or_one t with h2 | h2 <;> rw [h2]
      · constructor
        · unfold cls mag
          rw [if_pos (by unfold INF; omega)]
        · omega
      · constructor
        · unfold cls mag
          rw [if_pos (by unfold INF; omega)]
        · omega
    obtain ⟨r, hr, hc, hl⟩ := hq
    refine ⟨r, w.drew, ?_, ⟨hl, .inr ⟨h, hc⟩⟩, Reg.Ext.drew w⟩
    unfold floatBits at h
    rcases ho with rfl | rfl | rfl | rfl <;> simp only at h <;> simp [binOp, Op.floatArith, h, run_choose_drew, Question.forced, hr]
def fV (b : Nat) : Value := .float .f64 b
set_option maxHeartbeats 1000000 in
theorem isnum_any (A : Option Addr) (n c : Nat) (l : List Nat) (w : World) (hn : l.length = n) (hm : n ≤ 60) (hr : Rd w A (l.map fV)) (hl : ∀ b ∈ l, b < 18446744073709551616) :
    Calls Try.prog 41 #[.slice A n c] w fun e w' => e = .returned (.bool (l.all fun b => decide (cls b ≠ 1))) ∧ w = w' := by
  have HN := Lib.hid hn
  have HR := Lib.hid hr
  have HL := Lib.hid hl
  clear hn hr hl
  go_enter Try.func41, Try.ntmps41
  go_wp2_with fail
  go_loopw [4, 7] (fun _ i wr => ∃ k : Nat, k ≤ n ∧ i = .int .i64 k ∧ Hid ((l.take k).all (fun b => decide (cls b ≠ 1)) = true) ∧ w = wr) (fun _ i _ => n - (intOf i).toNat)
  case atStart => exact ⟨0, Nat.zero_le _, rfl, rfl, rfl⟩
  case round =>
    obtain ⟨k, hk, rfl, HA, rfl⟩ := hrel
    by_cases hkn : k < n
    · have hkl : k < l.length := by rw [HN.out]; exact hkn
      obtain ⟨ad, rfl, hb, hc⟩ := HR.out k (by simpa using hkl)
      have hc' : w.cell? (ad.add k) = some (.float .f64 l[k]) := by simpa [fV] using hc
      have hlk := HL.out l[k] (List.getElem_mem hkl)
      have hd9 : decide ((k : Int) < (n : Int)) = true := by rw [decide_eq_true_iff]; omega
      clear hc hb
      by_cases h1 : cls l[k] = 1
      · have HV := Lib.hid (show (l.all fun b => decide (cls b ≠ 1)) = false by
          rw [List.all_eq_false]
          exact ⟨l[k], List.getElem_mem hkl, by simp [h1]⟩)
        generalize l[k] = b at *
        go_wp2_with fail
        refine (class_any b w hlk).mono ?_
        rintro e w' ⟨rfl, rfl⟩
        rw [h1]
        clear h1
        go_wp2_with fail
        go_ret
        exact ⟨by rw [HV.out]; rfl, rfl⟩
      · have HA2 : Hid ((l.take (k + 1)).all (fun b => decide (cls b ≠ 1)) = true) := by
          show _ = _
          rw [List.take_succ_eq_append_getElem hkl, List.all_append, HA.out]
          simp [h1]
        have d1 : ((cls l[k] : Int) == 1) = false := by rw [beq_eq_false_iff_ne]; omega
        clear h1
        generalize l[k] = b at *
        go_wp2_with fail
        refine (class_any b w hlk).mono ?_
        rintro e w' ⟨rfl, rfl⟩
        generalize cls b = cc at *
        go_wp2_with fail
        go_roundw
        case rel => exact ⟨k + 1, by omega, by go_num, HA2, trivial⟩
        case measure => simp [intOf]; omega
    · have hd9 : decide ((k : Int) < (n : Int)) = false := by rw [decide_eq_false_iff_not]; omega
      have hA := HA.out
      rw [List.take_of_length_le (by rw [HN.out]; omega)] at hA
      have HV := Lib.hid hA
      clear hA
      go_wp2_with fail
      go_ret
      exact ⟨by rw [HV.out]; rfl, rfl⟩
set_option maxHeartbeats 2000000 in
theorem clampR_any (x low high : Nat) (w : World) (hx : x < 18446744073709551616) (hl : low < 18446744073709551616) (hh : high < 18446744073709551616) :
    Calls Try.prog 22 #[.float .f64 x, .float .f64 low, .float .f64 high] w fun e w' => e = .returned (.float .f64 (clampV x low high)) ∧ w = w' := by
  go_enter Try.func22, Try.ntmps22
  by_cases hx1 : cls x = 1
  · have HV := Lib.hid (show clampV x low high = 9221120237041090560 by unfold clampV; rw [if_pos (.inl hx1)])
    have dx : ((cls x : Int) == 1) = true := by rw [beq_iff_eq]; omega
    as_aux_lemma =>
      go_wp2_with fail
      repeat (first
        | (refine (less_any _ _ _ (by assumption) (by assumption)).mono ?_
           rintro e w' ⟨rfl, rfl⟩
           go_wp2_with fail)
        | (refine (lessR_any _ _ _ (by first | assumption | decide) (by first | assumption | decide)).mono ?_
           rintro e w' ⟨rfl, rfl⟩
           go_wp2_with fail)
        | (refine (classR_any _ _ (by assumption)).mono ?_
           rintro e w' ⟨rfl, rfl⟩
           go_wp2_with fail)
        | (refine (nanR_any _).mono ?_
           rintro e w' ⟨rfl, rfl⟩
           go_wp2_with fail)
        | (refine (nan_any _).mono ?_
           rintro e w' ⟨rfl, rfl⟩
           go_wp2_with fail
           refine (clean_any _ _ (by decide)).mono ?_
           rintro e w' ⟨rfl, rfl⟩
           rw [clean_nan]
           go_wp2_with fail))
      go_ret
      exact ⟨by rw [HV.out]; rfl, rfl⟩
  · have dx : ((cls x : Int) == 1) = false := by rw [beq_eq_false_iff_ne]; omega
    by_cases hl1 : cls low = 1
    · have HV := Lib.hid (show clampV x low high = 9221120237041090560 by unfold clampV; rw [if_pos (.inr (.inl hl1))])
      have dl : ((cls low : Int) == 1) = true := by rw [beq_iff_eq]; omega
      as_aux_lemma =>
        go_wp2_with fail
        repeat (first
          | (refine (less_any _ _ _ (by assumption) (by assumption)).mono ?_
             rintro e w' ⟨rfl, rfl⟩
             go_wp2_with fail)
          | (refine (lessR_any _ _ _ (by first | assumption | decide) (by first | assumption | decide)).mono ?_
             rintro e w' ⟨rfl, rfl⟩
             go_wp2_with fail)
          | (refine (classR_any _ _ (by assumption)).mono ?_
             rintro e w' ⟨rfl, rfl⟩
             go_wp2_with fail)
          | (refine (nanR_any _).mono ?_
             rintro e w' ⟨rfl, rfl⟩
             go_wp2_with fail)
          | (refine (nan_any _).mono ?_
             rintro e w' ⟨rfl, rfl⟩
             go_wp2_with fail
             refine (clean_any _ _ (by decide)).mono ?_
             rintro e w' ⟨rfl, rfl⟩
             rw [clean_nan]
             go_wp2_with fail))
        go_ret
        exact ⟨by rw [HV.out]; rfl, rfl⟩
    · have dl : ((cls low : Int) == 1) = false := by rw [beq_eq_false_iff_ne]; omega
      by_cases hh1 : cls high = 1
      · have HV := Lib.hid (show clampV x low high = 9221120237041090560 by unfold clampV; rw [if_pos (.inr (.inr (.inl hh1)))])
        have dh : ((cls high : Int) == 1) = true := by rw [beq_iff_eq]; omega
        as_aux_lemma =>
          go_wp2_with fail
          repeat (first
            | (refine (less_any _ _ _ (by assumption) (by assumption)).mono ?_
               rintro e w' ⟨rfl, rfl⟩
               go_wp2_with fail)
            | (refine (lessR_any _ _ _ (by first | assumption | decide) (by first | assumption | decide)).mono ?_
               rintro e w' ⟨rfl, rfl⟩
               go_wp2_with fail)
            | (refine (classR_any _ _ (by assumption)).mono ?_
               rintro e w' ⟨rfl, rfl⟩
               go_wp2_with fail)
            | (refine (nanR_any _).mono ?_
               rintro e w' ⟨rfl, rfl⟩
               go_wp2_with fail)
            | (refine (nan_any _).mono ?_
               rintro e w' ⟨rfl, rfl⟩
               go_wp2_with fail
               refine (clean_any _ _ (by decide)).mono ?_
               rintro e w' ⟨rfl, rfl⟩
               rw [clean_nan]
               go_wp2_with fail))
          go_ret
          exact ⟨by rw [HV.out]; rfl, rfl⟩
      · have dh : ((cls high : Int) == 1) = false := by rw [beq_eq_false_iff_ne]; omega
        cases hhl : less high low with
        | true =>
          have HV := Lib.hid (show clampV x low high = 9221120237041090560 by unfold clampV; rw [if_pos (.inr (.inr (.inr hhl)))])
          as_aux_lemma =>
            go_wp2_with fail
            repeat (first
              | (refine (less_any _ _ _ (by assumption) (by assumption)).mono ?_
                 rintro e w' ⟨rfl, rfl⟩
                 go_wp2_with fail)
              | (refine (lessR_any _ _ _ (by first | assumption | decide) (by first | assumption | decide)).mono ?_
                 rintro e w' ⟨rfl, rfl⟩
                 go_wp2_with fail)
              | (refine (classR_any _ _ (by assumption)).mono ?_
                 rintro e w' ⟨rfl, rfl⟩
                 go_wp2_with fail)
              | (refine (nanR_any _).mono ?_
                 rintro e w' ⟨rfl, rfl⟩
                 go_wp2_with fail)
              | (refine (nan_any _).mono ?_
                 rintro e w' ⟨rfl, rfl⟩
                 go_wp2_with fail
                 refine (clean_any _ _ (by decide)).mono ?_
                 rintro e w' ⟨rfl, rfl⟩
                 rw [clean_nan]
                 go_wp2_with fail))
            go_ret
            exact ⟨by rw [HV.out]; rfl, rfl⟩
        | false =>
          have hno : ¬ (cls x = 1 ∨ cls low = 1 ∨ cls high = 1 ∨ less high low = true) := by simp [hx1, hl1, hh1, hhl]
          cases hxl : less x low with
          | true =>
            have HV := Lib.hid (show clampV x low high = low by unfold clampV; rw [if_neg hno, if_pos hxl])
            clear hno
            as_aux_lemma =>
              go_wp2_with fail
              repeat (first
                | (refine (less_any _ _ _ (by assumption) (by assumption)).mono ?_
                   rintro e w' ⟨rfl, rfl⟩
                   go_wp2_with fail)
                | (refine (lessR_any _ _ _ (by first | assumption | decide) (by first | assumption | decide)).mono ?_
                   rintro e w' ⟨rfl, rfl⟩
                   go_wp2_with fail)
                | (refine (classR_any _ _ (by assumption)).mono ?_
                   rintro e w' ⟨rfl, rfl⟩
                   go_wp2_with fail)
                | (refine (nanR_any _).mono ?_
                   rintro e w' ⟨rfl, rfl⟩
                   go_wp2_with fail)
                | (refine (nan_any _).mono ?_
                   rintro e w' ⟨rfl, rfl⟩
                   go_wp2_with fail
                   refine (clean_any _ _ (by decide)).mono ?_
                   rintro e w' ⟨rfl, rfl⟩
                   rw [clean_nan]
                   go_wp2_with fail))
              go_ret
              exact ⟨by rw [HV.out]; rfl, rfl⟩
          | false =>
            cases hhx : less high x with
            | true =>
              have HV := Lib.hid (show clampV x low high = high by unfold clampV; rw [if_neg hno, if_neg (by simp [hxl]), if_pos hhx])
              clear hno
              as_aux_lemma =>
                go_wp2_with fail
                repeat (first
                  | (refine (less_any _ _ _ (by assumption) (by assumption)).mono ?_
                     rintro e w' ⟨rfl, rfl⟩
                     go_wp2_with fail)
                  | (refine (lessR_any _ _ _ (by first | assumption | decide) (by first | assumption | decide)).mono ?_
                     rintro e w' ⟨rfl, rfl⟩
                     go_wp2_with fail)
                  | (refine (classR_any _ _ (by assumption)).mono ?_
                     rintro e w' ⟨rfl, rfl⟩
                     go_wp2_with fail)
                  | (refine (nanR_any _).mono ?_
                     rintro e w' ⟨rfl, rfl⟩
                     go_wp2_with fail)
                  | (refine (nan_any _).mono ?_
                     rintro e w' ⟨rfl, rfl⟩
                     go_wp2_with fail
                     refine (clean_any _ _ (by decide)).mono ?_
                     rintro e w' ⟨rfl, rfl⟩
                     rw [clean_nan]
                     go_wp2_with fail))
                go_ret
                exact ⟨by rw [HV.out]; rfl, rfl⟩
            | false =>
              have HV := Lib.hid (show clampV x low high = x by unfold clampV; rw [if_neg hno, if_neg (by simp [hxl]), if_neg (by simp [hhx])])
              clear hno
              as_aux_lemma =>
                go_wp2_with fail
                repeat (first
                  | (refine (less_any _ _ _ (by assumption) (by assumption)).mono ?_
                     rintro e w' ⟨rfl, rfl⟩
                     go_wp2_with fail)
                  | (refine (lessR_any _ _ _ (by first | assumption | decide) (by first | assumption | decide)).mono ?_
                     rintro e w' ⟨rfl, rfl⟩
                     go_wp2_with fail)
                  | (refine (classR_any _ _ (by assumption)).mono ?_
                     rintro e w' ⟨rfl, rfl⟩
                     go_wp2_with fail)
                  | (refine (nanR_any _).mono ?_
                     rintro e w' ⟨rfl, rfl⟩
                     go_wp2_with fail)
                  | (refine (nan_any _).mono ?_
                     rintro e w' ⟨rfl, rfl⟩
                     go_wp2_with fail
                     refine (clean_any _ _ (by decide)).mono ?_
                     rintro e w' ⟨rfl, rfl⟩
                     rw [clean_nan]
                     go_wp2_with fail))
                go_ret
                exact ⟨by rw [HV.out]; rfl, rfl⟩
set_option maxHeartbeats 2000000 in
theorem clamp_any (x low high : Nat) (w : World) (hx : x < 18446744073709551616) (hl : low < 18446744073709551616) (hh : high < 18446744073709551616) :
    Calls Try.prog 21 #[.float .f64 x, .float .f64 low, .float .f64 high] w fun e w' => e = .returned (.float .f64 (clampV x low high)) ∧ Reg.Ext w w' := by
  go_enter Try.func21, Try.ntmps21
  by_cases hx1 : cls x = 1
  · have HV := Lib.hid (show clampV x low high = 9221120237041090560 by unfold clampV; rw [if_pos (.inl hx1)])
    have dx : ((cls x : Int) == 1) = true := by rw [beq_iff_eq]; omega
    as_aux_lemma =>
      have hall : ([x, low, high].all fun b => decide (cls b ≠ 1)) = false := by simp [*]
      have HALL := Lib.hid hall
      clear hall
      go_wp2_with fail
      have hxa := Reg.Ext.alloc w (Obj.cells #[Value.float .f64 x, Value.float .f64 low, Value.float .f64 high] 23)
      have hra : Rd (w.alloc (Obj.cells #[Value.float .f64 x, Value.float .f64 low, Value.float .f64 high] 23)) (some ⟨w.heap.size, 0, none⟩) ([x, low, high].map fV) := Rd.new w 23 #[fV x, fV low, fV high]
      refine (isnum_any _ 3 3 [x, low, high] _ rfl (by omega) hra (by intro b hb; simp at hb; rcases hb with rfl | rfl | rfl <;> assumption)).mono ?_
      rintro e w' ⟨rfl, rfl⟩
      rw [HALL.out]
      clear hra
      have HXA := Lib.hid hxa
      clear hxa
      go_wp2_with fail
      repeat (first
        | (refine (less_any _ _ _ (by assumption) (by assumption)).mono ?_
           rintro e w' ⟨rfl, rfl⟩
           go_wp2_with fail)
        | (refine (lessR_any _ _ _ (by first | assumption | decide) (by first | assumption | decide)).mono ?_
           rintro e w' ⟨rfl, rfl⟩
           go_wp2_with fail)
        | (refine (classR_any _ _ (by assumption)).mono ?_
           rintro e w' ⟨rfl, rfl⟩
           go_wp2_with fail)
        | (refine (nanR_any _).mono ?_
           rintro e w' ⟨rfl, rfl⟩
           go_wp2_with fail)
        | (refine (nan_any _).mono ?_
           rintro e w' ⟨rfl, rfl⟩
           go_wp2_with fail
           refine (clean_any _ _ (by decide)).mono ?_
           rintro e w' ⟨rfl, rfl⟩
           rw [clean_nan]
           go_wp2_with fail))
      go_ret
      exact ⟨by rw [HV.out]; rfl, HXA.out⟩
  · have dx : ((cls x : Int) == 1) = false := by rw [beq_eq_false_iff_ne]; omega
    by_cases hl1 : cls low = 1
    · have HV := Lib.hid (show clampV x low high = 9221120237041090560 by unfold clampV; rw [if_pos (.inr (.inl hl1))])
      have dl : ((cls low : Int) == 1) = true := by rw [beq_iff_eq]; omega
      as_aux_lemma =>
        have hall : ([x, low, high].all fun b => decide (cls b ≠ 1)) = false := by simp [*]
        have HALL := Lib.hid hall
        clear hall
        go_wp2_with fail
        have hxa := Reg.Ext.alloc w (Obj.cells #[Value.float .f64 x, Value.float .f64 low, Value.float .f64 high] 23)
        have hra : Rd (w.alloc (Obj.cells #[Value.float .f64 x, Value.float .f64 low, Value.float .f64 high] 23)) (some ⟨w.heap.size, 0, none⟩) ([x, low, high].map fV) := Rd.new w 23 #[fV x, fV low, fV high]
        refine (isnum_any _ 3 3 [x, low, high] _ rfl (by omega) hra (by intro b hb; simp at hb; rcases hb with rfl | rfl | rfl <;> assumption)).mono ?_
        rintro e w' ⟨rfl, rfl⟩
        rw [HALL.out]
        clear hra
        have HXA := Lib.hid hxa
        clear hxa
        go_wp2_with fail
        repeat (first
          | (refine (less_any _ _ _ (by assumption) (by assumption)).mono ?_
             rintro e w' ⟨rfl, rfl⟩
             go_wp2_with fail)
          | (refine (lessR_any _ _ _ (by first | assumption | decide) (by first | assumption | decide)).mono ?_
             rintro e w' ⟨rfl, rfl⟩
             go_wp2_with fail)
          | (refine (classR_any _ _ (by assumption)).mono ?_
             rintro e w' ⟨rfl, rfl⟩
             go_wp2_with fail)
          | (refine (nanR_any _).mono ?_
             rintro e w' ⟨rfl, rfl⟩
             go_wp2_with fail)
          | (refine (nan_any _).mono ?_
             rintro e w' ⟨rfl, rfl⟩
             go_wp2_with fail
             refine (clean_any _ _ (by decide)).mono ?_
             rintro e w' ⟨rfl, rfl⟩
             rw [clean_nan]
             go_wp2_with fail))
        go_ret
        exact ⟨by rw [HV.out]; rfl, HXA.out⟩
    · have dl : ((cls low : Int) == 1) = false := by rw [beq_eq_false_iff_ne]; omega
      by_cases hh1 : cls high = 1
      · have HV := Lib.hid (show clampV x low high = 9221120237041090560 by unfold clampV; rw [if_pos (.inr (.inr (.inl hh1)))])
        have dh : ((cls high : Int) == 1) = true := by rw [beq_iff_eq]; omega
        as_aux_lemma =>
          have hall : ([x, low, high].all fun b => decide (cls b ≠ 1)) = false := by simp [*]
          have HALL := Lib.hid hall
          clear hall
          go_wp2_with fail
          have hxa := Reg.Ext.alloc w (Obj.cells #[Value.float .f64 x, Value.float .f64 low, Value.float .f64 high] 23)
          have hra : Rd (w.alloc (Obj.cells #[Value.float .f64 x, Value.float .f64 low, Value.float .f64 high] 23)) (some ⟨w.heap.size, 0, none⟩) ([x, low, high].map fV) := Rd.new w 23 #[fV x, fV low, fV high]
          refine (isnum_any _ 3 3 [x, low, high] _ rfl (by omega) hra (by intro b hb; simp at hb; rcases hb with rfl | rfl | rfl <;> assumption)).mono ?_
          rintro e w' ⟨rfl, rfl⟩
          rw [HALL.out]
          clear hra
          have HXA := Lib.hid hxa
          clear hxa
          go_wp2_with fail
          repeat (first
            | (refine (less_any _ _ _ (by assumption) (by assumption)).mono ?_
               rintro e w' ⟨rfl, rfl⟩
               go_wp2_with fail)
            | (refine (lessR_any _ _ _ (by first | assumption | decide) (by first | assumption | decide)).mono ?_
               rintro e w' ⟨rfl, rfl⟩
               go_wp2_with fail)
            | (refine (classR_any _ _ (by assumption)).mono ?_
               rintro e w' ⟨rfl, rfl⟩
               go_wp2_with fail)
            | (refine (nanR_any _).mono ?_
               rintro e w' ⟨rfl, rfl⟩
               go_wp2_with fail)
            | (refine (nan_any _).mono ?_
               rintro e w' ⟨rfl, rfl⟩
               go_wp2_with fail
               refine (clean_any _ _ (by decide)).mono ?_
               rintro e w' ⟨rfl, rfl⟩
               rw [clean_nan]
               go_wp2_with fail))
          go_ret
          exact ⟨by rw [HV.out]; rfl, HXA.out⟩
      · have dh : ((cls high : Int) == 1) = false := by rw [beq_eq_false_iff_ne]; omega
        cases hhl : less high low with
        | true =>
          have HV := Lib.hid (show clampV x low high = 9221120237041090560 by unfold clampV; rw [if_pos (.inr (.inr (.inr hhl)))])
          as_aux_lemma =>
            have hall : ([x, low, high].all fun b => decide (cls b ≠ 1)) = true := by simp [*]
            have HALL := Lib.hid hall
            clear hall
            go_wp2_with fail
            have hxa := Reg.Ext.alloc w (Obj.cells #[Value.float .f64 x, Value.float .f64 low, Value.float .f64 high] 23)
            have hra : Rd (w.alloc (Obj.cells #[Value.float .f64 x, Value.float .f64 low, Value.float .f64 high] 23)) (some ⟨w.heap.size, 0, none⟩) ([x, low, high].map fV) := Rd.new w 23 #[fV x, fV low, fV high]
            refine (isnum_any _ 3 3 [x, low, high] _ rfl (by omega) hra (by intro b hb; simp at hb; rcases hb with rfl | rfl | rfl <;> assumption)).mono ?_
            rintro e w' ⟨rfl, rfl⟩
            rw [HALL.out]
            clear hra
            have HXA := Lib.hid hxa
            clear hxa
            go_wp2_with fail
            repeat (first
              | (refine (less_any _ _ _ (by assumption) (by assumption)).mono ?_
                 rintro e w' ⟨rfl, rfl⟩
                 go_wp2_with fail)
              | (refine (lessR_any _ _ _ (by first | assumption | decide) (by first | assumption | decide)).mono ?_
                 rintro e w' ⟨rfl, rfl⟩
                 go_wp2_with fail)
              | (refine (classR_any _ _ (by assumption)).mono ?_
                 rintro e w' ⟨rfl, rfl⟩
                 go_wp2_with fail)
              | (refine (nanR_any _).mono ?_
                 rintro e w' ⟨rfl, rfl⟩
                 go_wp2_with fail)
              | (refine (nan_any _).mono ?_
                 rintro e w' ⟨rfl, rfl⟩
                 go_wp2_with fail
                 refine (clean_any _ _ (by decide)).mono ?_
                 rintro e w' ⟨rfl, rfl⟩
                 rw [clean_nan]
                 go_wp2_with fail))
            go_ret
            exact ⟨by rw [HV.out]; rfl, HXA.out⟩
        | false =>
          have hno : ¬ (cls x = 1 ∨ cls low = 1 ∨ cls high = 1 ∨ less high low = true) := by simp [hx1, hl1, hh1, hhl]
          cases hxl : less x low with
          | true =>
            have HV := Lib.hid (show clampV x low high = low by unfold clampV; rw [if_neg hno, if_pos hxl])
            clear hno
            as_aux_lemma =>
              have hall : ([x, low, high].all fun b => decide (cls b ≠ 1)) = true := by simp [*]
              have HALL := Lib.hid hall
              clear hall
              go_wp2_with fail
              have hxa := Reg.Ext.alloc w (Obj.cells #[Value.float .f64 x, Value.float .f64 low, Value.float .f64 high] 23)
              have hra : Rd (w.alloc (Obj.cells #[Value.float .f64 x, Value.float .f64 low, Value.float .f64 high] 23)) (some ⟨w.heap.size, 0, none⟩) ([x, low, high].map fV) := Rd.new w 23 #[fV x, fV low, fV high]
              refine (isnum_any _ 3 3 [x, low, high] _ rfl (by omega) hra (by intro b hb; simp at hb; rcases hb with rfl | rfl | rfl <;> assumption)).mono ?_
              rintro e w' ⟨rfl, rfl⟩
              rw [HALL.out]
              clear hra
              have HXA := Lib.hid hxa
              clear hxa
              go_wp2_with fail
              repeat (first
                | (refine (less_any _ _ _ (by assumption) (by assumption)).mono ?_
                   rintro e w' ⟨rfl, rfl⟩
                   go_wp2_with fail)
                | (refine (lessR_any _ _ _ (by first | assumption | decide) (by first | assumption | decide)).mono ?_
                   rintro e w' ⟨rfl, rfl⟩
                   go_wp2_with fail)
                | (refine (classR_any _ _ (by assumption)).mono ?_
                   rintro e w' ⟨rfl, rfl⟩
                   go_wp2_with fail)
                | (refine (nanR_any _).mono ?_
                   rintro e w' ⟨rfl, rfl⟩
                   go_wp2_with fail)
                | (refine (nan_any _).mono ?_
                   rintro e w' ⟨rfl, rfl⟩
                   go_wp2_with fail
                   refine (clean_any _ _ (by decide)).mono ?_
                   rintro e w' ⟨rfl, rfl⟩
                   rw [clean_nan]
                   go_wp2_with fail))
              go_ret
              exact ⟨by rw [HV.out]; rfl, HXA.out⟩
          | false =>
            cases hhx : less high x with
            | true =>
              have HV := Lib.hid (show clampV x low high = high by unfold clampV; rw [if_neg hno, if_neg (by simp [hxl]), if_pos hhx])
              clear hno
              as_aux_lemma =>
                have hall : ([x, low, high].all fun b => decide (cls b ≠ 1)) = true := by simp [*]
                have HALL := Lib.hid hall
                clear hall
                go_wp2_with fail
                have hxa := Reg.Ext.alloc w (Obj.cells #[Value.float .f64 x, Value.float .f64 low, Value.float .f64 high] 23)
                have hra : Rd (w.alloc (Obj.cells #[Value.float .f64 x, Value.float .f64 low, Value.float .f64 high] 23)) (some ⟨w.heap.size, 0, none⟩) ([x, low, high].map fV) := Rd.new w 23 #[fV x, fV low, fV high]
                refine (isnum_any _ 3 3 [x, low, high] _ rfl (by omega) hra (by intro b hb; simp at hb; rcases hb with rfl | rfl | rfl <;> assumption)).mono ?_
                rintro e w' ⟨rfl, rfl⟩
                rw [HALL.out]
                clear hra
                have HXA := Lib.hid hxa
                clear hxa
                go_wp2_with fail
                repeat (first
                  | (refine (less_any _ _ _ (by assumption) (by assumption)).mono ?_
                     rintro e w' ⟨rfl, rfl⟩
                     go_wp2_with fail)
                  | (refine (lessR_any _ _ _ (by first | assumption | decide) (by first | assumption | decide)).mono ?_
                     rintro e w' ⟨rfl, rfl⟩
                     go_wp2_with fail)
                  | (refine (classR_any _ _ (by assumption)).mono ?_
                     rintro e w' ⟨rfl, rfl⟩
                     go_wp2_with fail)
                  | (refine (nanR_any _).mono ?_
                     rintro e w' ⟨rfl, rfl⟩
                     go_wp2_with fail)
                  | (refine (nan_any _).mono ?_
                     rintro e w' ⟨rfl, rfl⟩
                     go_wp2_with fail
                     refine (clean_any _ _ (by decide)).mono ?_
                     rintro e w' ⟨rfl, rfl⟩
                     rw [clean_nan]
                     go_wp2_with fail))
                go_ret
                exact ⟨by rw [HV.out]; rfl, HXA.out⟩
            | false =>
              have HV := Lib.hid (show clampV x low high = x by unfold clampV; rw [if_neg hno, if_neg (by simp [hxl]), if_neg (by simp [hhx])])
              clear hno
              as_aux_lemma =>
                have hall : ([x, low, high].all fun b => decide (cls b ≠ 1)) = true := by simp [*]
                have HALL := Lib.hid hall
                clear hall
                go_wp2_with fail
                have hxa := Reg.Ext.alloc w (Obj.cells #[Value.float .f64 x, Value.float .f64 low, Value.float .f64 high] 23)
                have hra : Rd (w.alloc (Obj.cells #[Value.float .f64 x, Value.float .f64 low, Value.float .f64 high] 23)) (some ⟨w.heap.size, 0, none⟩) ([x, low, high].map fV) := Rd.new w 23 #[fV x, fV low, fV high]
                refine (isnum_any _ 3 3 [x, low, high] _ rfl (by omega) hra (by intro b hb; simp at hb; rcases hb with rfl | rfl | rfl <;> assumption)).mono ?_
                rintro e w' ⟨rfl, rfl⟩
                rw [HALL.out]
                clear hra
                have HXA := Lib.hid hxa
                clear hxa
                go_wp2_with fail
                repeat (first
                  | (refine (less_any _ _ _ (by assumption) (by assumption)).mono ?_
                     rintro e w' ⟨rfl, rfl⟩
                     go_wp2_with fail)
                  | (refine (lessR_any _ _ _ (by first | assumption | decide) (by first | assumption | decide)).mono ?_
                     rintro e w' ⟨rfl, rfl⟩
                     go_wp2_with fail)
                  | (refine (classR_any _ _ (by assumption)).mono ?_
                     rintro e w' ⟨rfl, rfl⟩
                     go_wp2_with fail)
                  | (refine (nanR_any _).mono ?_
                     rintro e w' ⟨rfl, rfl⟩
                     go_wp2_with fail)
                  | (refine (nan_any _).mono ?_
                     rintro e w' ⟨rfl, rfl⟩
                     go_wp2_with fail
                     refine (clean_any _ _ (by decide)).mono ?_
                     rintro e w' ⟨rfl, rfl⟩
                     rw [clean_nan]
                     go_wp2_with fail))
                go_ret
                exact ⟨by rw [HV.out]; rfl, HXA.out⟩
/-! ### Mix -/
theorem weight_bad {b : Nat} : (cls b < 4 ∨ less 4607182418800017408 b = true) ↔ (cls b = 1 ∨ (Ieee.double.order b 0 == some .lt) = true ∨ (Ieee.double.order b 4607182418800017408 == some .gt) = true) := by
  have k1 : key 4607182418800017408 = 4607182418800017408 := by decide
  have n1 : isNan 4607182418800017408 = false := by decide
  have n0 : isNan 0 = false := by decide
  have c1 : cls 4607182418800017408 = 6 := by decide
  have h1 : (Ieee.double.order b 4607182418800017408 == some .gt) = true ↔ isNan b = false ∧ (4607182418800017408 : Int) < key b := by rw [gt_iff, n1, k1]; simp
  have h0 : (Ieee.double.order b 0 == some .lt) = true ↔ isNan b = false ∧ key b < 0 := by
    have := @lt_iff b 0
    unfold lt at this
    rw [this, n0, key_zero]; simp
  have hl : lt 4607182418800017408 b = true ↔ isNan b = false ∧ (4607182418800017408 : Int) < key b := by rw [lt_iff, n1, k1]; simp
  rw [h1, h0]
  clear h1 h0 n1 n0 k1
  unfold less
  rw [c1]
  clear c1
  have hI : (INF : Int) = 9218868437227405312 := rfl
  rcases cls_spec b with ⟨cb, nb⟩ | ⟨cb, nb, kb, sb⟩ | ⟨cb, nb, kb, pb, qb, sb⟩ | ⟨cb, nb, kb, pb, sb⟩ | ⟨cb, nb, kb, pb, sb⟩ | ⟨cb, nb, kb, pb, qb, sb⟩ | ⟨cb, nb, kb, sb⟩
  · rw [cb, nb]; simp
  · rw [cb, nb, kb, hI]; simp
  · rw [cb, nb, kb]; simp; omega
  · rw [cb, nb, kb]; simp
  · rw [cb, nb, kb]; simp
  · rw [cb, nb, kb]; rw [nb, kb] at hl; simp only [ne_eq, not_true_eq_false, if_false, hl]; simp; omega
  · rw [cb, nb, kb, hI]; simp
set_option maxHeartbeats 2000000 in
theorem mixR_any (mean x weight : Nat) (w : World) (hm : mean < 18446744073709551616) (hx : x < 18446744073709551616) (hw : weight < 18446744073709551616) :
    Calls Try.prog 24 #[.float .f64 mean, .float .f64 x, .float .f64 weight] w fun e w' => e = .returned (.float .f64 (mixV mean x weight)) ∧ Reg.Ext w w' := by
  have hone : (4607182418800017408 : Nat) < 18446744073709551616 := by decide
  go_enter Try.func24, Try.ntmps24
  by_cases h4 : cls weight < 4
  · have HV := Lib.hid (show mixV mean x weight = 9221120237041090560 by unfold mixV; rw [if_pos (.inl h4)])
    have d4 : decide ((cls weight : Int) < 4) = true := by rw [decide_eq_true_iff]; omega
    clear h4
    go_wp2_with fail
    repeat (first
      | (refine (less_any _ _ _ (by assumption) (by assumption)).mono ?_
         rintro e w' ⟨rfl, rfl⟩
         go_wp2_with fail)
      | (refine (lessR_any _ _ _ (by first | assumption | decide) (by first | assumption | decide)).mono ?_
         rintro e w' ⟨rfl, rfl⟩
         go_wp2_with fail)
      | (refine (classR_any _ _ (by assumption)).mono ?_
         rintro e w' ⟨rfl, rfl⟩
         go_wp2_with fail)
      | (refine (nanR_any _).mono ?_
         rintro e w' ⟨rfl, rfl⟩
         go_wp2_with fail)
      | (refine (nan_any _).mono ?_
         rintro e w' ⟨rfl, rfl⟩
         go_wp2_with fail
         refine (clean_any _ _ (by decide)).mono ?_
         rintro e w' ⟨rfl, rfl⟩
         rw [clean_nan]
         go_wp2_with fail))
    go_ret
    exact ⟨by rw [HV.out]; rfl, Reg.Ext.refl w⟩
  · have d4 : decide ((cls weight : Int) < 4) = false := by rw [decide_eq_false_iff_not]; omega
    cases hl : less 4607182418800017408 weight with
    | true =>
      have HV := Lib.hid (show mixV mean x weight = 9221120237041090560 by unfold mixV; rw [if_pos (.inr hl)])
      clear h4
      go_wp2_with fail
      repeat (first
        | (refine (less_any _ _ _ (by assumption) (by assumption)).mono ?_
           rintro e w' ⟨rfl, rfl⟩
           go_wp2_with fail)
        | (refine (lessR_any _ _ _ (by first | assumption | decide) (by first | assumption | decide)).mono ?_
           rintro e w' ⟨rfl, rfl⟩
           go_wp2_with fail)
        | (refine (classR_any _ _ (by assumption)).mono ?_
           rintro e w' ⟨rfl, rfl⟩
           go_wp2_with fail)
        | (refine (nanR_any _).mono ?_
           rintro e w' ⟨rfl, rfl⟩
           go_wp2_with fail)
        | (refine (nan_any _).mono ?_
           rintro e w' ⟨rfl, rfl⟩
           go_wp2_with fail
           refine (clean_any _ _ (by decide)).mono ?_
           rintro e w' ⟨rfl, rfl⟩
           rw [clean_nan]
           go_wp2_with fail))
      go_ret
      exact ⟨by rw [HV.out]; rfl, Reg.Ext.refl w⟩
    | false =>
      have hA : ¬ (cls weight < 4 ∨ less 4607182418800017408 weight = true) := by simp [hl]; omega
      clear h4
      by_cases hm1 : cls mean = 1
      · have HV := Lib.hid (show mixV mean x weight = clean x by unfold mixV; rw [if_neg hA, if_pos hm1])
        have dm : ((cls mean : Int) == 1) = true := by rw [beq_iff_eq]; omega
        clear hA hm1
        go_wp2_with fail
        repeat (first
          | (refine (less_any _ _ _ (by assumption) (by assumption)).mono ?_
             rintro e w' ⟨rfl, rfl⟩
             go_wp2_with fail)
          | (refine (lessR_any _ _ _ (by first | assumption | decide) (by first | assumption | decide)).mono ?_
             rintro e w' ⟨rfl, rfl⟩
             go_wp2_with fail)
          | (refine (classR_any _ _ (by assumption)).mono ?_
             rintro e w' ⟨rfl, rfl⟩
             go_wp2_with fail)
          | (refine (nanR_any _).mono ?_
             rintro e w' ⟨rfl, rfl⟩
             go_wp2_with fail)
          | (refine (nan_any _).mono ?_
             rintro e w' ⟨rfl, rfl⟩
             go_wp2_with fail
             refine (clean_any _ _ (by decide)).mono ?_
             rintro e w' ⟨rfl, rfl⟩
             rw [clean_nan]
             go_wp2_with fail))
        refine (cleanR_any x _ hx).mono ?_
        rintro e w' ⟨rfl, rfl⟩
        go_wp2_with fail
        go_ret
        exact ⟨by rw [HV.out]; rfl, Reg.Ext.refl w⟩
      · have dm : ((cls mean : Int) == 1) = false := by rw [beq_eq_false_iff_ne]; omega
        by_cases hx1 : cls x = 1
        · have HV := Lib.hid (show mixV mean x weight = clean mean by unfold mixV; rw [if_neg hA, if_neg hm1, if_pos hx1])
          have dx : ((cls x : Int) == 1) = true := by rw [beq_iff_eq]; omega
          clear hA hm1 hx1
          go_wp2_with fail
          repeat (first
            | (refine (less_any _ _ _ (by assumption) (by assumption)).mono ?_
               rintro e w' ⟨rfl, rfl⟩
               go_wp2_with fail)
            | (refine (lessR_any _ _ _ (by first | assumption | decide) (by first | assumption | decide)).mono ?_
               rintro e w' ⟨rfl, rfl⟩
               go_wp2_with fail)
            | (refine (classR_any _ _ (by assumption)).mono ?_
               rintro e w' ⟨rfl, rfl⟩
               go_wp2_with fail)
            | (refine (nanR_any _).mono ?_
               rintro e w' ⟨rfl, rfl⟩
               go_wp2_with fail)
            | (refine (nan_any _).mono ?_
               rintro e w' ⟨rfl, rfl⟩
               go_wp2_with fail
               refine (clean_any _ _ (by decide)).mono ?_
               rintro e w' ⟨rfl, rfl⟩
               rw [clean_nan]
               go_wp2_with fail))
          refine (cleanR_any mean _ hm).mono ?_
          rintro e w' ⟨rfl, rfl⟩
          go_wp2_with fail
          go_ret
          exact ⟨by rw [HV.out]; rfl, Reg.Ext.refl w⟩
        · have dx : ((cls x : Int) == 1) = false := by rw [beq_eq_false_iff_ne]; omega
          obtain ⟨g, wa, r1, G1, y1⟩ := arith_any .sub (.inl rfl) 23 x mean w
          obtain ⟨p, wb, r2, G2, y2⟩ := arith_any .mul (.inr (.inl rfl)) 23 weight g wa
          obtain ⟨s, wc, r3, G3, y3⟩ := arith_any .add (.inr (.inr (.inl rfl))) 23 mean p wb
          have HV := Lib.hid (show mixV mean x weight = clean s by
            unfold mixV
            rw [if_neg hA, if_neg hm1, if_neg hx1]
            exact (mixed_gives G1 G2 G3).symm)
          have HG3 := Lib.hid G3.1
          have HY := Lib.hid ((y1.trans y2).trans y3)
          clear G1 G2 G3 y1 y2 y3
          clear hA hm1 hx1
          go_wp2_with fail
          repeat (first
            | (refine (less_any _ _ _ (by assumption) (by assumption)).mono ?_
               rintro e w' ⟨rfl, rfl⟩
               go_wp2_with fail)
            | (refine (lessR_any _ _ _ (by first | assumption | decide) (by first | assumption | decide)).mono ?_
               rintro e w' ⟨rfl, rfl⟩
               go_wp2_with fail)
            | (refine (classR_any _ _ (by assumption)).mono ?_
               rintro e w' ⟨rfl, rfl⟩
               go_wp2_with fail)
            | (refine (nanR_any _).mono ?_
               rintro e w' ⟨rfl, rfl⟩
               go_wp2_with fail)
            | (refine (nan_any _).mono ?_
               rintro e w' ⟨rfl, rfl⟩
               go_wp2_with fail
               refine (clean_any _ _ (by decide)).mono ?_
               rintro e w' ⟨rfl, rfl⟩
               rw [clean_nan]
               go_wp2_with fail))
          refine (cleanR_any s _ HG3.out).mono ?_
          rintro e w' ⟨rfl, rfl⟩
          go_wp2_with fail
          go_ret
          exact ⟨by rw [HV.out]; rfl, HY.out⟩
theorem rd_one (w : World) (b : Nat) : Rd (w.alloc (Obj.cells #[Value.float .f64 b] 23)) (some ⟨w.heap.size, 0, none⟩) ([b].map fV) := Rd.new w 23 #[fV b]
theorem isnum_one (b : Nat) (w : World) (v : Bool) (hb : b < 18446744073709551616) (hv : decide (cls b ≠ 1) = v) :
    Calls Try.prog 41 #[.slice (some ⟨w.heap.size, 0, none⟩) 1 1] (w.alloc (Obj.cells #[Value.float .f64 b] 23)) fun e w' => e = .returned (.bool v) ∧ (w.alloc (Obj.cells #[Value.float .f64 b] 23)) = w' := by
  have h := isnum_any _ 1 1 [b] _ rfl (by omega) (rd_one w b) (by intro c hc; simp at hc; subst hc; exact hb)
  refine h.mono fun e w' ⟨he, hw⟩ => ⟨?_, hw⟩
  rw [he, ← hv]
  simp
set_option maxHeartbeats 2000000 in
theorem mix_any (mean x weight : Nat) (w : World) (hm : mean < 18446744073709551616) (hx : x < 18446744073709551616) (hw : weight < 18446744073709551616) :
    Calls Try.prog 23 #[.float .f64 mean, .float .f64 x, .float .f64 weight] w fun e w' => e = .returned (.float .f64 (mixV mean x weight)) ∧ Reg.Ext w w' := by
  have hbad := @weight_bad weight
  go_enter Try.func23, Try.ntmps23
  by_cases hA : cls weight < 4 ∨ less 4607182418800017408 weight = true
  · have HV := Lib.hid (show mixV mean x weight = 9221120237041090560 by unfold mixV; rw [if_pos hA])
    have hB := hbad.1 hA
    clear hbad hA
    by_cases hw1 : cls weight = 1
    · clear hB
      go_wp2_with fail
      refine (isnum_one weight w false (by assumption) (by simp [*])).mono ?_
      rintro e w' ⟨rfl, rfl⟩
      have HX2 := Lib.hid ((Reg.Ext.refl w).trans (Reg.Ext.alloc w (Obj.cells #[Value.float .f64 weight] 23)))
      generalize w.alloc (Obj.cells #[Value.float .f64 weight] 23) = w2 at *
      go_wp2_with fail
      repeat (first
        | (refine (less_any _ _ _ (by assumption) (by assumption)).mono ?_
           rintro e w' ⟨rfl, rfl⟩
           go_wp2_with fail)
        | (refine (lessR_any _ _ _ (by first | assumption | decide) (by first | assumption | decide)).mono ?_
           rintro e w' ⟨rfl, rfl⟩
           go_wp2_with fail)
        | (refine (classR_any _ _ (by assumption)).mono ?_
           rintro e w' ⟨rfl, rfl⟩
           go_wp2_with fail)
        | (refine (nanR_any _).mono ?_
           rintro e w' ⟨rfl, rfl⟩
           go_wp2_with fail)
        | (refine (nan_any _).mono ?_
           rintro e w' ⟨rfl, rfl⟩
           go_wp2_with fail
           refine (clean_any _ _ (by decide)).mono ?_
           rintro e w' ⟨rfl, rfl⟩
           rw [clean_nan]
           go_wp2_with fail))
      go_ret
      exact ⟨by rw [HV.out]; rfl, HX2.out⟩
    · cases t0 : (FloatKind.f64.format.order weight 0 == some .lt) with
      | true =>
        clear hB
        go_wp2_with fail
        refine (isnum_one weight w true (by assumption) (by simp [*])).mono ?_
        rintro e w' ⟨rfl, rfl⟩
        have HX2 := Lib.hid ((Reg.Ext.refl w).trans (Reg.Ext.alloc w (Obj.cells #[Value.float .f64 weight] 23)))
        generalize w.alloc (Obj.cells #[Value.float .f64 weight] 23) = w2 at *
        go_wp2_with fail
        repeat (first
          | (refine (less_any _ _ _ (by assumption) (by assumption)).mono ?_
             rintro e w' ⟨rfl, rfl⟩
             go_wp2_with fail)
          | (refine (lessR_any _ _ _ (by first | assumption | decide) (by first | assumption | decide)).mono ?_
             rintro e w' ⟨rfl, rfl⟩
             go_wp2_with fail)
          | (refine (classR_any _ _ (by assumption)).mono ?_
             rintro e w' ⟨rfl, rfl⟩
             go_wp2_with fail)
          | (refine (nanR_any _).mono ?_
             rintro e w' ⟨rfl, rfl⟩
             go_wp2_with fail)
          | (refine (nan_any _).mono ?_
             rintro e w' ⟨rfl, rfl⟩
             go_wp2_with fail
             refine (clean_any _ _ (by decide)).mono ?_
             rintro e w' ⟨rfl, rfl⟩
             rw [clean_nan]
             go_wp2_with fail))
        go_ret
        exact ⟨by rw [HV.out]; rfl, HX2.out⟩
      | false =>
        have t1 : (FloatKind.f64.format.order weight 4607182418800017408 == some .gt) = true := by
          rcases hB with h | h | h
          · exact absurd h hw1
          · rw [show (Ieee.double.order weight 0 == some .lt) = false from t0] at h; cases h
          · exact h
        clear hB
        go_wp2_with fail
        refine (isnum_one weight w true (by assumption) (by simp [*])).mono ?_
        rintro e w' ⟨rfl, rfl⟩
        have HX2 := Lib.hid ((Reg.Ext.refl w).trans (Reg.Ext.alloc w (Obj.cells #[Value.float .f64 weight] 23)))
        generalize w.alloc (Obj.cells #[Value.float .f64 weight] 23) = w2 at *
        go_wp2_with fail
        repeat (first
          | (refine (less_any _ _ _ (by assumption) (by assumption)).mono ?_
             rintro e w' ⟨rfl, rfl⟩
             go_wp2_with fail)
          | (refine (lessR_any _ _ _ (by first | assumption | decide) (by first | assumption | decide)).mono ?_
             rintro e w' ⟨rfl, rfl⟩
             go_wp2_with fail)
          | (refine (classR_any _ _ (by assumption)).mono ?_
             rintro e w' ⟨rfl, rfl⟩
             go_wp2_with fail)
          | (refine (nanR_any _).mono ?_
             rintro e w' ⟨rfl, rfl⟩
             go_wp2_with fail)
          | (refine (nan_any _).mono ?_
             rintro e w' ⟨rfl, rfl⟩
             go_wp2_with fail
             refine (clean_any _ _ (by decide)).mono ?_
             rintro e w' ⟨rfl, rfl⟩
             rw [clean_nan]
             go_wp2_with fail))
        go_ret
        exact ⟨by rw [HV.out]; rfl, HX2.out⟩
  · have hB := fun h => hA (hbad.2 h)
    have hw1 : ¬ cls weight = 1 := fun h => hB (.inl h)
    have t0 : (FloatKind.f64.format.order weight 0 == some .lt) = false := by
      cases h : (FloatKind.f64.format.order weight 0 == some .lt) with
      | true => exact absurd (.inr (.inl h)) hB
      | false => rfl
    have t1 : (FloatKind.f64.format.order weight 4607182418800017408 == some .gt) = false := by
      cases h : (FloatKind.f64.format.order weight 4607182418800017408 == some .gt) with
      | true => exact absurd (.inr (.inr h)) hB
      | false => rfl
    clear hbad hB
    go_wp2_with fail
    refine (isnum_one weight w true (by assumption) (by simp [*])).mono ?_
    rintro e w' ⟨rfl, rfl⟩
    have HX2 := Lib.hid ((Reg.Ext.refl w).trans (Reg.Ext.alloc w (Obj.cells #[Value.float .f64 weight] 23)))
    generalize w.alloc (Obj.cells #[Value.float .f64 weight] 23) = w2 at *
    by_cases hm1 : cls mean = 1
    · have HV := Lib.hid (show mixV mean x weight = clean x by unfold mixV; rw [if_neg hA, if_pos hm1])
      clear hA
      go_wp2_with fail
      refine (isnum_one mean w2 false (by assumption) (by simp [*])).mono ?_
      rintro e w' ⟨rfl, rfl⟩
      have HX3 := Lib.hid (HX2.out.trans (Reg.Ext.alloc w2 (Obj.cells #[Value.float .f64 mean] 23)))
      generalize w2.alloc (Obj.cells #[Value.float .f64 mean] 23) = w3 at *
      go_wp2_with fail
      refine (clean_any x _ hx).mono ?_
      rintro e w' ⟨rfl, rfl⟩
      go_wp2_with fail
      go_ret
      exact ⟨by rw [HV.out]; rfl, HX3.out⟩
    · by_cases hx1 : cls x = 1
      · have HV := Lib.hid (show mixV mean x weight = clean mean by unfold mixV; rw [if_neg hA, if_neg hm1, if_pos hx1])
        clear hA
        go_wp2_with fail
        refine (isnum_one mean w2 true (by assumption) (by simp [*])).mono ?_
        rintro e w' ⟨rfl, rfl⟩
        have HX3 := Lib.hid (HX2.out.trans (Reg.Ext.alloc w2 (Obj.cells #[Value.float .f64 mean] 23)))
        generalize w2.alloc (Obj.cells #[Value.float .f64 mean] 23) = w3 at *
        go_wp2_with fail
        refine (isnum_one x w3 false (by assumption) (by simp [*])).mono ?_
        rintro e w' ⟨rfl, rfl⟩
        have HX4 := Lib.hid (HX3.out.trans (Reg.Ext.alloc w3 (Obj.cells #[Value.float .f64 x] 23)))
        generalize w3.alloc (Obj.cells #[Value.float .f64 x] 23) = w4 at *
        go_wp2_with fail
        refine (clean_any mean _ hm).mono ?_
        rintro e w' ⟨rfl, rfl⟩
        go_wp2_with fail
        go_ret
        exact ⟨by rw [HV.out]; rfl, HX4.out⟩
      · go_wp2_with fail
        refine (isnum_one mean w2 true (by assumption) (by simp [*])).mono ?_
        rintro e w' ⟨rfl, rfl⟩
        have HX3 := Lib.hid (HX2.out.trans (Reg.Ext.alloc w2 (Obj.cells #[Value.float .f64 mean] 23)))
        generalize w2.alloc (Obj.cells #[Value.float .f64 mean] 23) = w3 at *
        go_wp2_with fail
        refine (isnum_one x w3 true (by assumption) (by simp [*])).mono ?_
        rintro e w' ⟨rfl, rfl⟩
        have HX4 := Lib.hid (HX3.out.trans (Reg.Ext.alloc w3 (Obj.cells #[Value.float .f64 x] 23)))
        generalize w3.alloc (Obj.cells #[Value.float .f64 x] 23) = w4 at *
        obtain ⟨g, wa, r1, G1, y1⟩ := arith_any .sub (.inl rfl) 23 x mean w4
        obtain ⟨p, wb, r2, G2, y2⟩ := arith_any .mul (.inr (.inl rfl)) 23 weight g wa
        obtain ⟨s, wc, r3, G3, y3⟩ := arith_any .add (.inr (.inr (.inl rfl))) 23 mean p wb
        have HV := Lib.hid (show mixV mean x weight = clean s by
          unfold mixV
          rw [if_neg hA, if_neg hm1, if_neg hx1]
          exact (mixed_gives G1 G2 G3).symm)
        have HG3 := Lib.hid G3.1
        have HY := Lib.hid ((y1.trans y2).trans y3)
        clear G1 G2 G3 y1 y2 y3
        clear hA
        go_wp2_with fail
        refine (clean_any s _ HG3.out).mono ?_
        rintro e w' ⟨rfl, rfl⟩
        go_wp2_with fail
        go_ret
        exact ⟨by rw [HV.out]; rfl, HX4.out.trans HY.out⟩
set_option maxHeartbeats 2000000 in
theorem orders_law (a b c : Nat) (w : World) (ha : a < 18446744073709551616) (hb : b < 18446744073709551616) (hc : c < 18446744073709551616) :
    Calls Try.prog 5 #[.float .f64 a, .float .f64 b, .float .f64 c] w fun e w' => e = .returned (.bool true) ∧ Reg.Ext w w' := by
  have sab : same a b = (!less a b && !less b a) := rfl
  go_enter Try.func5, Try.ntmps5
  go_wp2_with fail
  refine (awake_any w).mono ?_
  rintro e w1 ⟨rfl, x1⟩
  have X1 := Lib.hid x1
  clear x1
  cases lab : less a b with
  | true =>
    rw [lab] at sab
    simp only [Bool.not_true, Bool.false_and] at sab
    as_aux_lemma =>
      go_wp2_with fail
      repeat (first
        | (refine (less_any _ _ _ (by assumption) (by assumption)).mono ?_
           rintro e w' ⟨rfl, rfl⟩
           go_wp2_with fail)
        | (refine (lessR_any _ _ _ (by assumption) (by assumption)).mono ?_
           rintro e w' ⟨rfl, rfl⟩
           go_wp2_with fail)
        | (refine (same_any _ _ _ (by assumption) (by assumption)).mono ?_
           rintro e w' ⟨rfl, rfl⟩
           go_wp2_with fail)
        | (refine (class_any _ _ (by assumption)).mono ?_
           rintro e w' ⟨rfl, rfl⟩
           go_wp2_with fail)
        | (refine (classR_any _ _ (by assumption)).mono ?_
           rintro e w' ⟨rfl, rfl⟩
           go_wp2_with fail)
        | (refine (clean_any _ _ (by assumption)).mono ?_
           rintro e w' ⟨rfl, rfl⟩
           go_wp2_with fail)
        | (refine (cleanR_any _ _ (by assumption)).mono ?_
           rintro e w' ⟨rfl, rfl⟩
           go_wp2_with fail)
        | (refine (alikeR_same _ _).mono ?_
           rintro e w' ⟨rfl, rfl⟩
           go_wp2_with fail))
      refine (clamp_any a b c _ ha hb hc).mono ?_
      rintro e w2 ⟨rfl, x2⟩
      have X2 := Lib.hid (X1.out.trans x2)
      clear x2
      go_wp2_with fail
      refine (clampR_any a b c _ ha hb hc).mono ?_
      rintro e w' ⟨rfl, rfl⟩
      go_wp2_with fail
      repeat (first
        | (refine (less_any _ _ _ (by assumption) (by assumption)).mono ?_
           rintro e w' ⟨rfl, rfl⟩
           go_wp2_with fail)
        | (refine (lessR_any _ _ _ (by assumption) (by assumption)).mono ?_
           rintro e w' ⟨rfl, rfl⟩
           go_wp2_with fail)
        | (refine (same_any _ _ _ (by assumption) (by assumption)).mono ?_
           rintro e w' ⟨rfl, rfl⟩
           go_wp2_with fail)
        | (refine (class_any _ _ (by assumption)).mono ?_
           rintro e w' ⟨rfl, rfl⟩
           go_wp2_with fail)
        | (refine (classR_any _ _ (by assumption)).mono ?_
           rintro e w' ⟨rfl, rfl⟩
           go_wp2_with fail)
        | (refine (clean_any _ _ (by assumption)).mono ?_
           rintro e w' ⟨rfl, rfl⟩
           go_wp2_with fail)
        | (refine (cleanR_any _ _ (by assumption)).mono ?_
           rintro e w' ⟨rfl, rfl⟩
           go_wp2_with fail)
        | (refine (alikeR_same _ _).mono ?_
           rintro e w' ⟨rfl, rfl⟩
           go_wp2_with fail))
      refine (mix_any a b c _ ha hb hc).mono ?_
      rintro e w3 ⟨rfl, x3⟩
      have X3 := Lib.hid (X2.out.trans x3)
      clear x3
      go_wp2_with fail
      refine (mixR_any a b c _ ha hb hc).mono ?_
      rintro e w4 ⟨rfl, x4⟩
      have X4 := Lib.hid (X3.out.trans x4)
      clear x4
      go_wp2_with fail
      repeat (first
        | (refine (less_any _ _ _ (by assumption) (by assumption)).mono ?_
           rintro e w' ⟨rfl, rfl⟩
           go_wp2_with fail)
        | (refine (lessR_any _ _ _ (by assumption) (by assumption)).mono ?_
           rintro e w' ⟨rfl, rfl⟩
           go_wp2_with fail)
        | (refine (same_any _ _ _ (by assumption) (by assumption)).mono ?_
           rintro e w' ⟨rfl, rfl⟩
           go_wp2_with fail)
        | (refine (class_any _ _ (by assumption)).mono ?_
           rintro e w' ⟨rfl, rfl⟩
           go_wp2_with fail)
        | (refine (classR_any _ _ (by assumption)).mono ?_
           rintro e w' ⟨rfl, rfl⟩
           go_wp2_with fail)
        | (refine (clean_any _ _ (by assumption)).mono ?_
           rintro e w' ⟨rfl, rfl⟩
           go_wp2_with fail)
        | (refine (cleanR_any _ _ (by assumption)).mono ?_
           rintro e w' ⟨rfl, rfl⟩
           go_wp2_with fail)
        | (refine (alikeR_same _ _).mono ?_
           rintro e w' ⟨rfl, rfl⟩
           go_wp2_with fail))
      go_ret
      exact ⟨rfl, X4.out⟩
  | false =>
    cases lba : less b a with
    | true =>
      rw [lab, lba] at sab
      simp only [Bool.not_true, Bool.not_false, Bool.and_false] at sab
      as_aux_lemma =>
        go_wp2_with fail
        repeat (first
          | (refine (less_any _ _ _ (by assumption) (by assumption)).mono ?_
             rintro e w' ⟨rfl, rfl⟩
             go_wp2_with fail)
          | (refine (lessR_any _ _ _ (by assumption) (by assumption)).mono ?_
             rintro e w' ⟨rfl, rfl⟩
             go_wp2_with fail)
          | (refine (same_any _ _ _ (by assumption) (by assumption)).mono ?_
             rintro e w' ⟨rfl, rfl⟩
             go_wp2_with fail)
          | (refine (class_any _ _ (by assumption)).mono ?_
             rintro e w' ⟨rfl, rfl⟩
             go_wp2_with fail)
          | (refine (classR_any _ _ (by assumption)).mono ?_
             rintro e w' ⟨rfl, rfl⟩
             go_wp2_with fail)
          | (refine (clean_any _ _ (by assumption)).mono ?_
             rintro e w' ⟨rfl, rfl⟩
             go_wp2_with fail)
          | (refine (cleanR_any _ _ (by assumption)).mono ?_
             rintro e w' ⟨rfl, rfl⟩
             go_wp2_with fail)
          | (refine (alikeR_same _ _).mono ?_
             rintro e w' ⟨rfl, rfl⟩
             go_wp2_with fail))
        refine (clamp_any a b c _ ha hb hc).mono ?_
        rintro e w2 ⟨rfl, x2⟩
        have X2 := Lib.hid (X1.out.trans x2)
        clear x2
        go_wp2_with fail
        refine (clampR_any a b c _ ha hb hc).mono ?_
        rintro e w' ⟨rfl, rfl⟩
        go_wp2_with fail
        repeat (first
          | (refine (less_any _ _ _ (by assumption) (by assumption)).mono ?_
             rintro e w' ⟨rfl, rfl⟩
             go_wp2_with fail)
          | (refine (lessR_any _ _ _ (by assumption) (by assumption)).mono ?_
             rintro e w' ⟨rfl, rfl⟩
             go_wp2_with fail)
          | (refine (same_any _ _ _ (by assumption) (by assumption)).mono ?_
             rintro e w' ⟨rfl, rfl⟩
             go_wp2_with fail)
          | (refine (class_any _ _ (by assumption)).mono ?_
             rintro e w' ⟨rfl, rfl⟩
             go_wp2_with fail)
          | (refine (classR_any _ _ (by assumption)).mono ?_
             rintro e w' ⟨rfl, rfl⟩
             go_wp2_with fail)
          | (refine (clean_any _ _ (by assumption)).mono ?_
             rintro e w' ⟨rfl, rfl⟩
             go_wp2_with fail)
          | (refine (cleanR_any _ _ (by assumption)).mono ?_
             rintro e w' ⟨rfl, rfl⟩
             go_wp2_with fail)
          | (refine (alikeR_same _ _).mono ?_
             rintro e w' ⟨rfl, rfl⟩
             go_wp2_with fail))
        refine (mix_any a b c _ ha hb hc).mono ?_
        rintro e w3 ⟨rfl, x3⟩
        have X3 := Lib.hid (X2.out.trans x3)
        clear x3
        go_wp2_with fail
        refine (mixR_any a b c _ ha hb hc).mono ?_
        rintro e w4 ⟨rfl, x4⟩
        have X4 := Lib.hid (X3.out.trans x4)
        clear x4
        go_wp2_with fail
        repeat (first
          | (refine (less_any _ _ _ (by assumption) (by assumption)).mono ?_
             rintro e w' ⟨rfl, rfl⟩
             go_wp2_with fail)
          | (refine (lessR_any _ _ _ (by assumption) (by assumption)).mono ?_
             rintro e w' ⟨rfl, rfl⟩
             go_wp2_with fail)
          | (refine (same_any _ _ _ (by assumption) (by assumption)).mono ?_
             rintro e w' ⟨rfl, rfl⟩
             go_wp2_with fail)
          | (refine (class_any _ _ (by assumption)).mono ?_
             rintro e w' ⟨rfl, rfl⟩
             go_wp2_with fail)
          | (refine (classR_any _ _ (by assumption)).mono ?_
             rintro e w' ⟨rfl, rfl⟩
             go_wp2_with fail)
          | (refine (clean_any _ _ (by assumption)).mono ?_
             rintro e w' ⟨rfl, rfl⟩
             go_wp2_with fail)
          | (refine (cleanR_any _ _ (by assumption)).mono ?_
             rintro e w' ⟨rfl, rfl⟩
             go_wp2_with fail)
          | (refine (alikeR_same _ _).mono ?_
             rintro e w' ⟨rfl, rfl⟩
             go_wp2_with fail))
        go_ret
        exact ⟨rfl, X4.out⟩
    | false =>
      rw [lab, lba] at sab
      simp only [Bool.not_false, Bool.and_self] at sab
      as_aux_lemma =>
        go_wp2_with fail
        repeat (first
          | (refine (less_any _ _ _ (by assumption) (by assumption)).mono ?_
             rintro e w' ⟨rfl, rfl⟩
             go_wp2_with fail)
          | (refine (lessR_any _ _ _ (by assumption) (by assumption)).mono ?_
             rintro e w' ⟨rfl, rfl⟩
             go_wp2_with fail)
          | (refine (same_any _ _ _ (by assumption) (by assumption)).mono ?_
             rintro e w' ⟨rfl, rfl⟩
             go_wp2_with fail)
          | (refine (class_any _ _ (by assumption)).mono ?_
             rintro e w' ⟨rfl, rfl⟩
             go_wp2_with fail)
          | (refine (classR_any _ _ (by assumption)).mono ?_
             rintro e w' ⟨rfl, rfl⟩
             go_wp2_with fail)
          | (refine (clean_any _ _ (by assumption)).mono ?_
             rintro e w' ⟨rfl, rfl⟩
             go_wp2_with fail)
          | (refine (cleanR_any _ _ (by assumption)).mono ?_
             rintro e w' ⟨rfl, rfl⟩
             go_wp2_with fail)
          | (refine (alikeR_same _ _).mono ?_
             rintro e w' ⟨rfl, rfl⟩
             go_wp2_with fail))
        refine (clamp_any a b c _ ha hb hc).mono ?_
        rintro e w2 ⟨rfl, x2⟩
        have X2 := Lib.hid (X1.out.trans x2)
        clear x2
        go_wp2_with fail
        refine (clampR_any a b c _ ha hb hc).mono ?_
        rintro e w' ⟨rfl, rfl⟩
        go_wp2_with fail
        repeat (first
          | (refine (less_any _ _ _ (by assumption) (by assumption)).mono ?_
             rintro e w' ⟨rfl, rfl⟩
             go_wp2_with fail)
          | (refine (lessR_any _ _ _ (by assumption) (by assumption)).mono ?_
             rintro e w' ⟨rfl, rfl⟩
             go_wp2_with fail)
          | (refine (same_any _ _ _ (by assumption) (by assumption)).mono ?_
             rintro e w' ⟨rfl, rfl⟩
             go_wp2_with fail)
          | (refine (class_any _ _ (by assumption)).mono ?_
             rintro e w' ⟨rfl, rfl⟩
             go_wp2_with fail)
          | (refine (classR_any _ _ (by assumption)).mono ?_
             rintro e w' ⟨rfl, rfl⟩
             go_wp2_with fail)
          | (refine (clean_any _ _ (by assumption)).mono ?_
             rintro e w' ⟨rfl, rfl⟩
             go_wp2_with fail)
          | (refine (cleanR_any _ _ (by assumption)).mono ?_
             rintro e w' ⟨rfl, rfl⟩
             go_wp2_with fail)
          | (refine (alikeR_same _ _).mono ?_
             rintro e w' ⟨rfl, rfl⟩
             go_wp2_with fail))
        refine (mix_any a b c _ ha hb hc).mono ?_
        rintro e w3 ⟨rfl, x3⟩
        have X3 := Lib.hid (X2.out.trans x3)
        clear x3
        go_wp2_with fail
        refine (mixR_any a b c _ ha hb hc).mono ?_
        rintro e w4 ⟨rfl, x4⟩
        have X4 := Lib.hid (X3.out.trans x4)
        clear x4
        go_wp2_with fail
        repeat (first
          | (refine (less_any _ _ _ (by assumption) (by assumption)).mono ?_
             rintro e w' ⟨rfl, rfl⟩
             go_wp2_with fail)
          | (refine (lessR_any _ _ _ (by assumption) (by assumption)).mono ?_
             rintro e w' ⟨rfl, rfl⟩
             go_wp2_with fail)
          | (refine (same_any _ _ _ (by assumption) (by assumption)).mono ?_
             rintro e w' ⟨rfl, rfl⟩
             go_wp2_with fail)
          | (refine (class_any _ _ (by assumption)).mono ?_
             rintro e w' ⟨rfl, rfl⟩
             go_wp2_with fail)
          | (refine (classR_any _ _ (by assumption)).mono ?_
             rintro e w' ⟨rfl, rfl⟩
             go_wp2_with fail)
          | (refine (clean_any _ _ (by assumption)).mono ?_
             rintro e w' ⟨rfl, rfl⟩
             go_wp2_with fail)
          | (refine (cleanR_any _ _ (by assumption)).mono ?_
             rintro e w' ⟨rfl, rfl⟩
             go_wp2_with fail)
          | (refine (alikeR_same _ _).mono ?_
             rintro e w' ⟨rfl, rfl⟩
             go_wp2_with fail))
        go_ret
        exact ⟨rfl, X4.out⟩
end Flt
end Go.Proofs.Ytomfkjllkmilpaa

/- The document's Undec, Unhexnum; the law HexaNumbers. -/
import Derived.Test.YthnkllnfdnbckaaDoorHexaNums
set_option linter.unusedSimpArgs false
set_option linter.unusedVariables false
set_option linter.unusedSectionVars false
namespace Go.Proofs.YthnkllnfdnbckaaDoor
open Go.RowKit
namespace Hex
open HexP
def val (b : Nat) : Nat → List UInt8 → Nat
  | n, [] => n
  | n, c :: l => val b (n * b + dv c) l
theorem val_ge (b : Nat) (hb : 1 ≤ b) : ∀ (l : List UInt8) (n : Nat), n ≤ val b n l
  | [], n => Nat.le_refl _
  | c :: l, n => by
    have := val_ge b hb l (n * b + dv c)
    simp only [val]
    have h2 : n * 1 ≤ n * b := Nat.mul_le_mul_left _ hb
    omega
theorem val_append (b : Nat) : ∀ (l m : List UInt8) (n : Nat), val b n (l ++ m) = val b (val b n l) m
  | [], m, n => rfl
  | c :: l, m, n => by simp only [List.cons_append, val]; exact val_append b l m _
theorem val_nil (b n : Nat) : val b n [] = n := rfl
theorem val_cons (b n : Nat) (c : UInt8) (l : List UInt8) : val b n (c :: l) = val b (n * b + dv c) l := rfl
theorem gat_nil (b n : Nat) : gat b n [] = some n := rfl
theorem gat_cons (b n : Nat) (c : UInt8) (l : List UInt8) : gat b n (c :: l) = if (4611686018427387904 - dv c) / b < n then none else gat b (n * b + dv c) l := rfl
theorem gat_val10 : ∀ (l : List UInt8) (n : Nat), n ≤ 4611686018427387904 → gat 10 n l = if val 10 n l ≤ 4611686018427387904 then some (val 10 n l) else none
  | [], n, hn => by rw [gat_nil, val_nil, if_pos hn]
  | c :: l, n, hn => by
    have hd := dv_lt c
    have hg := val_ge 10 (by omega) l (n * 10 + dv c)
    rw [gat_cons, val_cons]
    by_cases h : (4611686018427387904 - dv c) / 10 < n
    · rw [if_pos h, if_neg (by omega)]
    · rw [if_neg h, gat_val10 l _ (by omega)]
theorem gat_val16 : ∀ (l : List UInt8) (n : Nat), n ≤ 4611686018427387904 → gat 16 n l = if val 16 n l ≤ 4611686018427387904 then some (val 16 n l) else none
  | [], n, hn => by rw [gat_nil, val_nil, if_pos hn]
  | c :: l, n, hn => by
    have hd := dv_lt c
    have hg := val_ge 16 (by omega) l (n * 16 + dv c)
    rw [gat_cons, val_cons]
    by_cases h : (4611686018427387904 - dv c) / 16 < n
    · rw [if_pos h, if_neg (by omega)]
    · rw [if_neg h, gat_val16 l _ (by omega)]
def bndV (most : Int) (n : Nat) : Value := if n ≤ 4611686018427387904 ∧ (n : Int) ≤ most then .tuple #[.int .i64 (n : Int), .int .i64 0] else .tuple #[.int .i64 0, .int .i64 14]
theorem bnd10_val (most : Int) (l : List UInt8) : bndV10 most l = bndV most (val 10 0 l) := by
  unfold bndV10 bndV
  rw [gat_val10 _ _ (by omega)]
  by_cases h : val 10 0 l ≤ 4611686018427387904
  · rw [if_pos h]
    by_cases h2 : most < (val 10 0 l : Int)
    · simp only [if_pos h2]; rw [if_neg (by omega)]
    · simp only [if_neg h2]; rw [if_pos (by omega)]
  · rw [if_neg h, if_neg (by omega)]
theorem bnd16_val (most : Int) (l : List UInt8) : bndV16 most l = bndV most (val 16 0 l) := by
  unfold bndV16 bndV
  rw [gat_val16 _ _ (by omega)]
  by_cases h : val 16 0 l ≤ 4611686018427387904
  · rw [if_pos h]
    by_cases h2 : most < (val 16 0 l : Int)
    · simp only [if_pos h2]; rw [if_neg (by omega)]
    · simp only [if_neg h2]; rw [if_pos (by omega)]
  · rw [if_neg h, if_neg (by omega)]
theorem val_pow (b : Nat) (hb : ∀ c, dv c < b) : ∀ (l : List UInt8) (n : Nat), val b n l < (n + 1) * b ^ l.length
  | [], n => by simp [val]
  | c :: l, n => by
    have h := val_pow b hb l (n * b + dv c)
    have hc := hb c
    simp only [val, List.length_cons, Nat.pow_succ]
    refine Nat.lt_of_lt_of_le h ?_
    have h2 : n * b + dv c + 1 ≤ (n + 1) * b := by rw [Nat.add_mul]; omega
    calc (n * b + dv c + 1) * b ^ l.length ≤ ((n + 1) * b) * b ^ l.length := Nat.mul_le_mul_right _ h2
      _ = (n + 1) * (b ^ l.length * b) := by rw [Nat.mul_assoc, Nat.mul_comm b]
theorem val16_lt (l : List UInt8) (h : l.length ≤ 16) : val 16 0 l < 18446744073709551616 := by
  have h1 := val_pow 16 dv_lt l 0
  have h2 : (16 : Nat) ^ l.length ≤ 16 ^ 16 := Nat.pow_le_pow_right (by omega) h
  have h3 : (16 : Nat) ^ 16 = 18446744073709551616 := by decide
  omega
theorem take_succ (s : ByteArray) (k : Nat) (hk : k < s.size) : s.data.toList.take (k + 1) = s.data.toList.take k ++ [s[k]] := List.take_succ_eq_append_getElem (by rw [len_data]; exact hk)
theorem mem_at (s : ByteArray) (k : Nat) (hk : k < s.size) : s[k] ∈ s.data.toList := by
  have : s[k] = s.data.toList[k]'(by rw [len_data]; exact hk) := rfl
  rw [this]; exact List.getElem_mem _
set_option maxHeartbeats 4000000 in
theorem unnumR_any (s : ByteArray) (most : Int) (w : World) (hs : s.size ≤ 274877906944) : Calls Tryd.prog 11 #[.string s, .int .i64 most] w fun e w' => e = .returned (unnumV most s.data.toList) ∧ w = w' := by
  go_enter Tryd.func11, Tryd.ntmps11
  by_cases h0 : s.size = 0
  · have hl : s.data.toList = [] := List.eq_nil_of_length_eq_zero (by rw [len_data]; exact h0)
    have HV := Lib.hid (show unnumV most s.data.toList = .tuple #[.int .i64 0, .int .i64 3] by rw [hl]; rfl)
    have t0 : s.toList.isEmpty = true := by rw [ByteArray.toList_eq, hl]; rfl
    clear hl h0
    go_wp2_with fail
    go_ret2
    exact ⟨by rw [HV.out]; rfl, rfl⟩
  · have t0 : s.toList.isEmpty = false := by
      rw [ByteArray.toList_eq]
      cases hq : s.data.toList with
      | nil => have := len_data s; rw [hq] at this; simp at this; omega
      | cons _ _ => rfl
    by_cases h16 : 16 < s.size
    · have d1 : decide ((16 : Int) < (s.size : Int)) = true := by rw [decide_eq_true_iff]; omega
      have HV := Lib.hid (show unnumV most s.data.toList = .tuple #[.int .i64 0, .int .i64 3] by
        unfold unnumV numOk
        rw [len_data, decide_eq_false (by omega)]
        rfl)
      clear h0 h16
      go_wp2_with fail
      go_ret2
      exact ⟨by rw [HV.out]; rfl, rfl⟩
    · have d1 : decide ((16 : Int) < (s.size : Int)) = false := by rw [decide_eq_false_iff_not]; omega
      have hok : numOk s.data.toList = (s.data.toList.all fun c => (valR c).isSome) := by
        unfold numOk
        rw [len_data, decide_eq_true (by omega), Bool.true_and]
      have HOK := Lib.hid hok
      clear h0 hok
      go_wp2_with fail
      go_loopw [6, 7] (fun a i wr => ∃ k : Nat, k ≤ s.size ∧ i = .int .i64 (k : Int) ∧ ∃ n : Nat, a = .int .u64 (n : Int) ∧ Hid (n = val 16 0 (s.data.toList.take k)) ∧ Hid (((s.data.toList.take k).all fun c => (valR c).isSome) = true) ∧ w = wr) (fun _ i _ => s.size - (intOf i).toNat)
      case atStart => exact ⟨0, Nat.zero_le _, rfl, 0, rfl, rfl, rfl, rfl⟩
      case round =>
        obtain ⟨k, hk, rfl, n, rfl, HN, HG, rfl⟩ := hrel
        have hn : n < 18446744073709551616 := by rw [HN.out]; exact val16_lt _ (by rw [List.length_take]; omega)
        by_cases hks : k < s.size
        · have d2 : decide ((k : Int) < (s.size : Int)) = true := by rw [decide_eq_true_iff]; omega
          have hmem := mem_at s k hks
          have htk := take_succ s k hks
          cases hv : valR s[k] with
          | none =>
            have H2 := Lib.hid (show valZ s[k] = -1 by unfold valZ; rw [hv])
            have HV := Lib.hid (show unnumV most s.data.toList = .tuple #[.int .i64 0, .int .i64 3] by
              unfold unnumV
              rw [HOK.out, show (s.data.toList.all fun c => (valR c).isSome) = false from List.all_eq_false.2 ⟨s[k], hmem, by simp [hv]⟩]
              rfl)
            clear hmem htk hv
            go_wp2_with fail
            refine (value_any s[k] _).mono ?_
            rintro e w' ⟨rfl, rfl⟩
            rw [H2.out]
            go_wp2_with fail
            go_ret2
            exact ⟨by rw [HV.out]; rfl, rfl⟩
          | some m =>
            have hm := valR_lt hv
            have H2 := Lib.hid (show valZ s[k] = (m : Int) by unfold valZ; rw [hv])
            have hdm : dv s[k] = m := by unfold dv; rw [hv]; rfl
            have HG2 : Hid (((s.data.toList.take (k + 1)).all fun c => (valR c).isSome) = true) := by
              show _ = _
              rw [htk, List.all_append, HG.out]
              simp [hv]
            have HN2 : Hid (n * 16 + m = val 16 0 (s.data.toList.take (k + 1))) := by
              show _ = _
              rw [htk, val_append, ← HN.out, ← hdm]; rfl
            have hnn : n * 16 + m < 18446744073709551616 := by rw [HN2.out]; exact val16_lt _ (by rw [List.length_take]; omega)
            clear hmem htk hv hdm
            go_wp2_with fail
            refine (value_any s[k] _).mono ?_
            rintro e w' ⟨rfl, rfl⟩
            rw [H2.out]
            go_wp2_with fail
            refine (value_any s[k] _).mono ?_
            rintro e w' ⟨rfl, rfl⟩
            rw [H2.out]
            go_wp2_with fail
            exact ⟨⟨k + 1, by omega, by go_num, n * 16 + m, by go_num, HN2, HG2, trivial⟩, by simp [intOf]; omega⟩
        · have d2 : decide ((k : Int) < (s.size : Int)) = false := by rw [decide_eq_false_iff_not]; omega
          have hg := HG.out
          have hn2 := HN.out
          rw [List.take_of_length_le (by rw [len_data]; omega)] at hg hn2
          have hu : unnumV most s.data.toList = bndV most n := by
            unfold unnumV
            rw [HOK.out, hg, if_pos rfl, bnd16_val, ← hn2]
          have HU := Lib.hid hu
          clear hg hn2 hu HN HG
          by_cases hb : 4611686018427387904 < n
          · have d3 : decide ((4611686018427387904 : Int) < (n : Int)) = true := by rw [decide_eq_true_iff]; omega
            have HV := Lib.hid (show bndV most n = .tuple #[.int .i64 0, .int .i64 14] by unfold bndV; rw [if_neg (by omega)])
            clear hb
            go_wp2_with fail
            go_ret2
            exact ⟨by rw [HU.out, HV.out]; rfl, rfl⟩
          · have d3 : decide ((4611686018427387904 : Int) < (n : Int)) = false := by rw [decide_eq_false_iff_not]; omega
            by_cases hc : most < (n : Int)
            · have d4 : decide (most < (n : Int)) = true := by rw [decide_eq_true_iff]; omega
              have HV := Lib.hid (show bndV most n = .tuple #[.int .i64 0, .int .i64 14] by unfold bndV; rw [if_neg (by omega)])
              clear hc
              go_wp2_with fail
              go_ret2
              exact ⟨by rw [HU.out, HV.out]; rfl, rfl⟩
            · have d4 : decide (most < (n : Int)) = false := by rw [decide_eq_false_iff_not]; omega
              have HV := Lib.hid (show bndV most n = .tuple #[.int .i64 (n : Int), .int .i64 0] by unfold bndV; rw [if_pos (by omega)])
              clear hc
              go_wp2_with fail
              go_ret2
              exact ⟨by rw [HU.out, HV.out]; rfl, rfl⟩
theorem dec_false (s : ByteArray) (h1 : 1 < s.size) (h2 : s[0] = 48) : isDecL s.data.toList = false := by
  obtain ⟨l, hl⟩ := first_byte s (by omega)
  have hll := len_data s
  rw [hl, List.length_cons] at hll
  unfold isDecL
  rw [hl]
  cases l with
  | nil => simp at hll; omega
  | cons d l => rw [h2]; simp
theorem dec_all_of (s : ByteArray) (h0 : 0 < s.size) (h1 : 1 < s.size → s[0] ≠ 48) : isDecL s.data.toList = (s.data.toList.all fun c => decide (48 ≤ c.toNat ∧ c.toNat ≤ 57)) := by
  obtain ⟨l, hl⟩ := first_byte s h0
  have hll := len_data s
  rw [hl, List.length_cons] at hll
  unfold isDecL
  rw [hl]
  cases l with
  | nil => simp
  | cons d l =>
    have hne := h1 (by simp at hll; omega)
    have hdc : decide (s[0] ≠ 48) = true := decide_eq_true hne
    show (List.all _ _ && decide (s[0] ≠ 48)) = _
    rw [hdc, Bool.and_true]
def St (V : Nat) (n : Nat) (gr : Bool) : Prop := n ≤ 4611686018427387909 ∧ ((gr = false ∧ n = V) ∨ (gr = true ∧ 4611686018427387904 < V))
theorem St.step {V n d : Nat} {gr : Bool} (h : St V n gr) (hd : d < 10) : St (V * 10 + d) (if gr = true ∨ 461168601842738790 < n then n else n * 10 + d) (gr || decide (461168601842738790 < n)) := by
  obtain ⟨h1, ⟨rfl, rfl⟩ | ⟨rfl, h2⟩⟩ := h
  · by_cases hn : 461168601842738790 < n
    · rw [if_pos (Or.inr hn)]
      exact ⟨h1, Or.inr ⟨by simp [hn], by omega⟩⟩
    · rw [if_neg (by simp; omega)]
      exact ⟨by omega, Or.inl ⟨by simp [hn], rfl⟩⟩
  · rw [if_pos (Or.inl rfl)]
    exact ⟨h1, Or.inr ⟨rfl, by omega⟩⟩
set_option maxHeartbeats 4000000 in
theorem undecR_any (s : ByteArray) (most : Int) (w : World) (hs : s.size ≤ 274877906944) : Calls Tryd.prog 9 #[.string s, .int .i64 most] w fun e w' => e = .returned (undecV most s.data.toList) ∧ w = w' := by
  go_enter Tryd.func9, Tryd.ntmps9
  by_cases h0 : s.size = 0
  · have hl : s.data.toList = [] := List.eq_nil_of_length_eq_zero (by rw [len_data]; exact h0)
    have HV := Lib.hid (show undecV most s.data.toList = .tuple #[.int .i64 0, .int .i64 3] by rw [hl]; rfl)
    have t0 : s.toList.isEmpty = true := by rw [ByteArray.toList_eq, hl]; rfl
    clear hl h0
    go_wp2_with fail
    go_ret2
    exact ⟨by rw [HV.out]; rfl, rfl⟩
  have t0 : s.toList.isEmpty = false := by
    rw [ByteArray.toList_eq]
    cases hq : s.data.toList with
    | nil => have := len_data s; rw [hq] at this; simp at this; omega
    | cons _ _ => rfl
  have hb0 : 0 < s.size := by omega
  have hb0' : (0 : Int) < (s.size : Int) := by omega
  have tq : (((s[0]).toNat : Int) == 48) = decide (s[0] = 48) := by
    rw [Bool.eq_iff_iff, beq_iff_eq, decide_eq_true_iff]
    constructor
    · intro h; exact UInt8.toNat_inj.1 (by rw [show (48 : UInt8).toNat = 48 from rfl]; omega)
    · intro h; rw [h]; rfl
  by_cases hz : 1 < s.size ∧ s[0] = 48
  · have HV := Lib.hid (show undecV most s.data.toList = .tuple #[.int .i64 0, .int .i64 3] by unfold undecV; rw [dec_false s hz.1 hz.2]; rfl)
    have d1 : decide ((1 : Int) < (s.size : Int)) = true := by rw [decide_eq_true_iff]; omega
    rw [decide_eq_true hz.2] at tq
    clear h0 hz
    go_wp2_with fail
    go_ret2
    exact ⟨by rw [HV.out]; rfl, rfl⟩
  have HD := Lib.hid (dec_all_of s hb0 (fun h h2 => hz ⟨h, h2⟩))
  have d1 : (decide ((1 : Int) < (s.size : Int)) = false ∨ decide ((1 : Int) < (s.size : Int)) = true ∧ decide (s[0] = 48) = false) := by
    by_cases h1 : 1 < s.size
    · right; exact ⟨by rw [decide_eq_true_iff]; omega, decide_eq_false (fun h => hz ⟨h1, h⟩)⟩
    · left; rw [decide_eq_false_iff_not]; omega
  clear h0 hz
  generalize decide (s[0] = 48) = q at *
  rcases d1 with d1 | ⟨d1, rfl⟩
  all_goals
    go_wp2_with fail
    go_loopw [6, 7, 8] (fun a b i wr => ∃ k : Nat, k ≤ s.size ∧ i = .int .i64 (k : Int) ∧ ∃ (n : Nat) (gr : Bool), a = .int .i64 (n : Int) ∧ b = .bool gr ∧ Hid (St (val 10 0 (s.data.toList.take k)) n gr) ∧ Hid (((s.data.toList.take k).all fun c => decide (48 ≤ c.toNat ∧ c.toNat ≤ 57)) = true) ∧ w = wr) (fun _ _ i _ => s.size - (intOf i).toNat)
    case atStart => exact ⟨0, Nat.zero_le _, rfl, 0, false, rfl, rfl, ⟨by omega, Or.inl ⟨rfl, rfl⟩⟩, rfl, rfl⟩
    case round =>
      obtain ⟨k, hk, rfl, n, gr, rfl, rfl, HS, HG, rfl⟩ := hrel
      clear t0 tq d1
      have hst := HS.out
      by_cases hks : k < s.size
      · have d2 : decide ((k : Int) < (s.size : Int)) = true := by rw [decide_eq_true_iff]; omega
        have hmem := mem_at s k hks
        have htk := take_succ s k hks
        by_cases hlo : s[k].toNat < 48
        · have e1 : decide ((s[k].toNat : Int) < 48) = true := by rw [decide_eq_true_iff]; omega
          have HV := Lib.hid (show undecV most s.data.toList = .tuple #[.int .i64 0, .int .i64 3] by
            unfold undecV
            rw [HD.out, show (s.data.toList.all fun c => decide (48 ≤ c.toNat ∧ c.toNat ≤ 57)) = false from List.all_eq_false.2 ⟨s[k], hmem, by simp; omega⟩]
            rfl)
          clear hmem htk hlo hst
          go_wp2_with fail
          go_ret2
          exact ⟨by rw [HV.out]; rfl, rfl⟩
        have e1 : decide ((s[k].toNat : Int) < 48) = false := by rw [decide_eq_false_iff_not]; omega
        by_cases hhi : 57 < s[k].toNat
        · have e2 : decide ((57 : Int) < (s[k].toNat : Int)) = true := by rw [decide_eq_true_iff]; omega
          have HV := Lib.hid (show undecV most s.data.toList = .tuple #[.int .i64 0, .int .i64 3] by
            unfold undecV
            rw [HD.out, show (s.data.toList.all fun c => decide (48 ≤ c.toNat ∧ c.toNat ≤ 57)) = false from List.all_eq_false.2 ⟨s[k], hmem, by simp; omega⟩]
            rfl)
          clear hmem htk hlo hst
          go_wp2_with fail
          go_ret2
          exact ⟨by rw [HV.out]; rfl, rfl⟩
        have e2 : decide ((57 : Int) < (s[k].toNat : Int)) = false := by rw [decide_eq_false_iff_not]; omega
        have hdd : dv s[k] = s[k].toNat - 48 := by unfold dv valR; rw [if_pos ⟨by omega, by omega⟩]; rfl
        have HG2 : Hid (((s.data.toList.take (k + 1)).all fun c => decide (48 ≤ c.toNat ∧ c.toNat ≤ 57)) = true) := by
          show _ = _
          rw [htk, List.all_append, HG.out, List.all_cons, decide_eq_true ⟨by omega, by omega⟩]; rfl
        have hst2 := hst.step (d := s[k].toNat - 48) (by omega)
        have hval : val 10 0 (s.data.toList.take (k + 1)) = val 10 0 (s.data.toList.take k) * 10 + (s[k].toNat - 48) := by
          rw [htk, val_append, val_cons, val_nil, hdd]
        rw [← hval] at hst2
        have hnb := hst.1
        cases gr with
        | true =>
          rw [if_pos (Or.inl rfl)] at hst2
          have HST2 := Lib.hid hst2
          clear hst2 hst hval hdd hmem htk
          go_wp2_with fail
          exact ⟨⟨k + 1, by omega, by go_num, n, true, rfl, rfl, HST2, HG2, trivial⟩, by simp [intOf]; omega⟩
        | false =>
          by_cases hn : 461168601842738790 < n
          · have e3 : decide ((461168601842738790 : Int) < (n : Int)) = true := by rw [decide_eq_true_iff]; omega
            rw [if_pos (Or.inr hn), decide_eq_true hn] at hst2
            have HST2 := Lib.hid hst2
            clear hst2 hst hval hdd hmem htk
            go_wp2_with fail
            exact ⟨⟨k + 1, by omega, by go_num, n, true, rfl, rfl, HST2, HG2, trivial⟩, by simp [intOf]; omega⟩
          · have e3 : decide ((461168601842738790 : Int) < (n : Int)) = false := by rw [decide_eq_false_iff_not]; omega
            rw [if_neg (by simp; omega), decide_eq_false hn] at hst2
            have HST2 := Lib.hid hst2
            clear hst2 hst hval hdd hmem htk
            go_wp2_with fail
            exact ⟨⟨k + 1, by omega, by go_num, n * 10 + (s[k].toNat - 48), false, by go_num, rfl, HST2, HG2, trivial⟩, by simp [intOf]; omega⟩
      · have d2 : decide ((k : Int) < (s.size : Int)) = false := by rw [decide_eq_false_iff_not]; omega
        have hg := HG.out
        rw [List.take_of_length_le (by rw [len_data]; omega)] at hg hst
        have HU := Lib.hid (show undecV most s.data.toList = bndV most (val 10 0 s.data.toList) by
          unfold undecV
          rw [HD.out, hg, if_pos rfl, bnd10_val])
        generalize val 10 0 s.data.toList = V at *
        have hnb := hst.1
        clear hg HG HS
        cases gr with
        | true =>
          have hV : 4611686018427387904 < V := by
            rcases hst.2 with ⟨h, _⟩ | ⟨_, h⟩
            · cases h
            · exact h
          have HV := Lib.hid (show bndV most V = .tuple #[.int .i64 0, .int .i64 14] by unfold bndV; rw [if_neg (by omega)])
          clear hV hst
          go_wp2_with fail
          go_ret2
          exact ⟨by rw [HU.out, HV.out]; rfl, rfl⟩
        | false =>
          have hV : V = n := by
            rcases hst.2 with ⟨_, h⟩ | ⟨h, _⟩
            · exact h.symm
            · cases h
          subst hV
          clear hst
          by_cases hc : most < (V : Int)
          · have d4 : decide (most < (V : Int)) = true := by rw [decide_eq_true_iff]; omega
            have HV := Lib.hid (show bndV most V = .tuple #[.int .i64 0, .int .i64 14] by unfold bndV; rw [if_neg (by omega)])
            clear hc
            go_wp2_with fail
            go_ret2
            exact ⟨by rw [HU.out, HV.out]; rfl, rfl⟩
          · have d4 : decide (most < (V : Int)) = false := by rw [decide_eq_false_iff_not]; omega
            by_cases hb : 4611686018427387904 < V
            · have d3 : decide ((4611686018427387904 : Int) < (V : Int)) = true := by rw [decide_eq_true_iff]; omega
              have HV := Lib.hid (show bndV most V = .tuple #[.int .i64 0, .int .i64 14] by unfold bndV; rw [if_neg (by omega)])
              clear hc hb
              go_wp2_with fail
              go_ret2
              exact ⟨by rw [HU.out, HV.out]; rfl, rfl⟩
            · have d3 : decide ((4611686018427387904 : Int) < (V : Int)) = false := by rw [decide_eq_false_iff_not]; omega
              have HV := Lib.hid (show bndV most V = .tuple #[.int .i64 (V : Int), .int .i64 0] by unfold bndV; rw [if_pos (by omega)])
              clear hc hb
              go_wp2_with fail
              go_ret2
              exact ⟨by rw [HU.out, HV.out]; rfl, rfl⟩
theorem undecV_two (most : Int) (l : List UInt8) : ∃ a b, undecV most l = .tuple #[.int .i64 a, .int .i64 b] := by
  unfold undecV
  split
  · exact bnd10_two most l
  · exact ⟨_, _, rfl⟩
theorem unnumV_two (most : Int) (l : List UInt8) : ∃ a b, unnumV most l = .tuple #[.int .i64 a, .int .i64 b] := by
  unfold unnumV
  split
  · exact bnd16_two most l
  · exact ⟨_, _, rfl⟩
set_option maxHeartbeats 2000000 in
theorem numbers_law (n : Int) (s : ByteArray) (most : Int) (w : World) (h0 : -9223372036854775808 ≤ n) (h1 : n ≤ 9223372036854775807) (hsm : s.size ≤ maxLen) (ht : Tab10 w) (hz : Tz w) :
    Calls Tryd.prog 3 #[.int .i64 n, .string s, .int .i64 most] w fun e w' => e = .returned (.bool true) ∧ Reg.Ext w w' := by
  unfold maxLen at hsm
  have HT := Lib.hid ht
  have HZ := Lib.hid hz
  clear ht hz
  go_enter Tryd.func3, Tryd.ntmps3
  go_wp2_with fail
  refine (awake_any w HT.out).mono ?_
  rintro e w1 ⟨rfl, x1⟩
  have X1 := Lib.hid x1
  clear x1
  by_cases hs : s.size ≤ 100
  · have d1 : decide ((100 : Int) < (s.size : Int)) = false := by rw [decide_eq_false_iff_not]; omega
    obtain ⟨a, b, hab⟩ := undecV_two most s.data.toList
    obtain ⟨c, d, hcd⟩ := unnumV_two most s.data.toList
    have HAB := Lib.hid hab
    have HCD := Lib.hid hcd
    clear hab hcd
    go_wp2_with fail
    refine (undec_any s most w1 (by omega)).mono ?_
    rintro e w2 ⟨rfl, x2⟩
    rw [HAB.out]
    have X2 := Lib.hid (X1.out.trans x2)
    clear x2
    go_wp2_with fail
    refine (undecR_any s most w2 (by omega)).mono ?_
    rintro e w' ⟨rfl, rfl⟩
    rw [HAB.out]
    go_wp2_with fail
    refine (unnum_any s most w2 (by omega)).mono ?_
    rintro e w3 ⟨rfl, x3⟩
    rw [HCD.out]
    have X3 := Lib.hid (X2.out.trans x3)
    clear x3
    go_wp2_with fail
    refine (unnumR_any s most w3 (by omega)).mono ?_
    rintro e w' ⟨rfl, rfl⟩
    rw [HCD.out]
    go_wp2_with fail
    refine (dec_any n w3 h0 h1 (HT.out.ext X3.out)).mono ?_
    rintro e w4 ⟨rfl, x4⟩
    have X4 := Lib.hid (X3.out.trans x4)
    clear x4
    go_wp2_with fail
    refine (decR_any n w4 h0 h1).mono ?_
    rintro e w5 ⟨rfl, x5⟩
    have X5 := Lib.hid (X4.out.trans x5)
    clear x5
    go_wp2_with fail
    refine (hexnum_any n w5 h0 h1 (HZ.out.ext X5.out)).mono ?_
    rintro e w6 ⟨rfl, x6⟩
    have X6 := Lib.hid (X5.out.trans x6)
    clear x6
    go_wp2_with fail
    refine (hexnumR_any n w6 h0 h1).mono ?_
    rintro e w7 ⟨rfl, x7⟩
    have X7 := Lib.hid (X6.out.trans x7)
    clear x7
    go_wp2_with fail
    go_ret
    exact ⟨rfl, X7.out⟩
  · have d1 : decide ((100 : Int) < (s.size : Int)) = true := by rw [decide_eq_true_iff]; omega
    go_wp2_with fail
    go_ret
    exact ⟨rfl, X1.out⟩
end Hex
end Go.Proofs.YthnkllnfdnbckaaDoor

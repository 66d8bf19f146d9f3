/- Chapter 15, plain: the document's part of a name is the program's. -/
import Derived.Test.YtcfdlfedmbmidaaDoorPlaceP
set_option linter.unusedSimpArgs false
set_option linter.unusedVariables false
set_option linter.unusedSectionVars false
namespace Go.Proofs.YtcfdlfedmbmidaaDoor
namespace Pl
def runR (c : UInt8) (l : List UInt8) : Nat := (l.takeWhile (· == c)).length
def okSep (c : UInt8) (n : Nat) : Bool := (c == 46 && n == 1) || (c == 95 && (n == 1 || n == 2)) || (c == 45 && decide (1 ≤ n))
def partRF : Nat → List UInt8 → Bool
  | 0, _ => false
  | f + 1, l => if (l.dropWhile low).length = l.length then false else match l.dropWhile low with
    | [] => true
    | c :: r => if okSep c (runR c (c :: r)) = true then partRF f ((c :: r).drop (runR c (c :: r))) else false
theorem take_run (p : UInt8 → Bool) (l : List UInt8) : l.take (l.length - (l.dropWhile p).length) = l.takeWhile p := by
  have h := List.takeWhile_append_dropWhile (p := p) (l := l)
  have hl := congrArg List.length h
  rw [List.length_append] at hl
  conv => lhs; rw [← h]
  rw [List.take_left' (by rw [h]; omega)]
theorem drop_run (p : UInt8 → Bool) (l : List UInt8) : l.drop (l.takeWhile p).length = l.dropWhile p := by
  have h := List.takeWhile_append_dropWhile (p := p) (l := l)
  conv => lhs; rw [← h]
  rw [List.drop_left' (by rw [h])]
theorem run_rep (c : UInt8) : ∀ l : List UInt8, l.takeWhile (· == c) = List.replicate (runR c l) c
  | [] => rfl
  | d :: l => by
    unfold runR
    rw [List.takeWhile_cons]
    cases h : d == c with
    | false => rfl
    | true =>
      have : d = c := by simpa using h
      subst this
      have ih := run_rep d l
      unfold runR at ih
      simp only [if_true, List.length_cons, List.replicate_succ]
      rw [← ih]
theorem sep_rep (c : UInt8) (hc : sepc c = true) (n : Nat) (hn : 1 ≤ n) : isSep (List.replicate n c) = okSep c n := by
  have hc : c = 46 ∨ c = 95 ∨ c = 45 := by
    unfold sepc at hc
    simp only [Bool.or_eq_true, beq_iff_eq] at hc
    rcases hc with (h | h) | h
    · exact .inl h
    · exact .inr (.inl h)
    · exact .inr (.inr h)
  match n, hn with
  | 1, _ => rcases hc with rfl | rfl | rfl <;> rfl
  | 2, _ => rcases hc with rfl | rfl | rfl <;> rfl
  | n + 3, _ =>
    have e1 : (n + 3 == 1) = false := by rw [beq_eq_false_iff_ne]; omega
    have e2 : (n + 3 == 2) = false := by rw [beq_eq_false_iff_ne]; omega
    have e3 : decide (1 ≤ n + 3) = true := by rw [decide_eq_true_iff]; omega
    unfold isSep okSep
    rw [e1, e2, e3]
    rcases hc with rfl | rfl | rfl
    · simp [List.replicate_succ]
    · simp [List.replicate_succ]
    · simp [List.replicate_succ]
theorem sep_mixed (c d : UInt8) (n : Nat) (hn : 1 ≤ n) (hd : d ≠ c) (t : List UInt8) : isSep (List.replicate n c ++ d :: t) = false := by
  obtain ⟨m, rfl⟩ : ∃ m, n = m + 1 := ⟨n - 1, by omega⟩
  unfold isSep
  rw [List.replicate_succ, List.cons_append]
  have h0 : ∀ x : UInt8, (c :: (List.replicate m c ++ d :: t) == [x]) = false := fun x => by
    rw [beq_eq_false_iff_ne]; intro e; injection e with _ e
    exact absurd e (by simp)
  have h2 : (c :: (List.replicate m c ++ d :: t) == [95, 95]) = false := by
    rw [beq_eq_false_iff_ne]; intro e; injection e with e1 e2
    cases m with
    | zero =>
      rw [List.replicate_zero, List.nil_append] at e2
      injection e2 with e2 _
      exact hd (e2.trans e1.symm)
    | succ m =>
      rw [List.replicate_succ, List.cons_append] at e2
      injection e2 with _ e2
      exact absurd e2 (by simp)
  rw [h0, h0, h2]
  simp only [Bool.false_or, List.isEmpty_cons, Bool.not_false, Bool.true_and, List.all_cons, List.all_append]
  cases h1 : c == 45 with
  | false => rfl
  | true =>
    have : c = 45 := by simpa using h1
    have hd2 : (d == 45) = false := by rw [beq_eq_false_iff_ne]; intro e; exact hd (e.trans this.symm)
    rw [hd2]; simp
theorem sep_low {c : UInt8} (h : sepc c = true) : low c = false := by
  have := all256 (fun c => !sepc c || !low c) (by decide +kernel) c
  rw [h] at this
  simpa using this
theorem part_sep {d : UInt8} {t : List UInt8} (h : low d = false) : partP (d :: t) = false := by
  rw [partP_step, List.dropWhile_cons, h]
  simp
theorem partRF_eq : ∀ (f : Nat) (l : List UInt8), l.length < f → partRF f l = partP l
  | 0, _, h => by omega
  | f + 1, l, h => by
    rw [partP_step]
    unfold partRF
    by_cases hl : (l.dropWhile low).length = l.length
    · rw [if_pos hl, if_pos hl]
    · rw [if_neg hl, if_neg hl]
      have hle := drop_le low l
      cases hr : l.dropWhile low with
      | nil => simp
      | cons c r =>
        rw [hr] at hle hl
        rw [if_neg (by simp), take_run]
        simp only
        have hrun := List.takeWhile_append_dropWhile (p := (· == c)) (l := c :: r)
        have hn1 : 1 ≤ runR c (c :: r) := by unfold runR; rw [List.takeWhile_cons]; simp
        have hdr : (c :: r).drop (runR c (c :: r)) = (c :: r).dropWhile (· == c) := drop_run _ _
        rw [run_rep] at hrun
        rw [hdr]
        have hlen := congrArg List.length hrun
        rw [List.length_append, List.length_replicate] at hlen
        by_cases hs : sepc c = true
        · have hbeq : ∀ x : UInt8, (x == c) = true → sepc x = true := fun x hx => by rw [show x = c by simpa using hx]; exact hs
          generalize hX : (c :: r).dropWhile (· == c) = X at *
          generalize runR c (c :: r) = n at *
          have t1 : (c :: r).takeWhile sepc = List.replicate n c ++ X.takeWhile sepc := by
            rw [← hrun, List.takeWhile_append_of_pos (fun x hx => by rw [(List.mem_replicate.1 hx).2]; exact hs)]
          have t2 : (c :: r).dropWhile sepc = X.dropWhile sepc := by
            rw [← hrun, List.dropWhile_append_of_pos (fun x hx => by rw [(List.mem_replicate.1 hx).2]; exact hs)]
          rw [t1, t2]
          have hfx : X.length < f := by rw [List.length_cons] at hlen hle; omega
          cases X with
          | nil =>
            rw [List.takeWhile_nil, List.append_nil, sep_rep c hs n hn1, List.dropWhile_nil, partRF_eq f _ hfx]
          | cons d X =>
            have hdc : (d == c) = false := by
              have := List.head_dropWhile_not (fun x : UInt8 => x == c) (l := c :: r) (by rw [hX]; simp)
              simpa [hX] using this
            by_cases hsd : sepc d = true
            · rw [List.takeWhile_cons, hsd, if_pos rfl, sep_mixed c d n hn1 (by simpa using hdc), partRF_eq f _ hfx, part_sep (sep_low hsd)]
              simp
            · have hsd : sepc d = false := by simpa using hsd
              rw [List.takeWhile_cons, List.dropWhile_cons, hsd]
              simp only [Bool.false_eq_true, if_false, List.append_nil]
              rw [sep_rep c hs n hn1, partRF_eq f _ hfx]
        · have hs : sepc c = false := by simpa using hs
          rw [List.takeWhile_cons, hs]
          have ho : okSep c (runR c (c :: r)) = false := by
            unfold sepc at hs
            simp only [Bool.or_eq_false_iff] at hs
            unfold okSep
            rw [hs.1.1, hs.1.2, hs.2]; rfl
          rw [ho]
          simp [isSep]
end Pl
end Go.Proofs.YtcfdlfedmbmidaaDoor

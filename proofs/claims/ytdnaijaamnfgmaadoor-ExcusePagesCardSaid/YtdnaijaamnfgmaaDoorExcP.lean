/- Texts as JSON: writing and reading, plain. -/
import Derived.Test.YtdnaijaamnfgmaaDoorHexPlain
set_option linter.unusedSimpArgs false
set_option linter.unusedVariables false
set_option linter.unusedSectionVars false
namespace Go.Proofs.YtdnaijaamnfgmaaDoor
namespace ExcP
open HexP
def shortN (c : UInt8) : UInt8 := if c = 34 ∨ c = 92 then c else if c = 10 then 110 else if c = 13 then 114 else if c = 9 then 116 else 0
def raw (c : UInt8) : Bool := decide (32 ≤ c.toNat) && decide (c.toNat < 127)
def enc1 (c : UInt8) : List UInt8 := if shortN c ≠ 0 then [92, shortN c] else if raw c = true then [c] else [92, 117, 48, 48, dig (c.toNat / 16), dig (c.toNat % 16)]
def enc (l : List UInt8) : List UInt8 := l.flatMap enc1
def quote (l : List UInt8) : List UInt8 := 34 :: (enc l ++ [34])
theorem enc_nil : enc [] = [] := rfl
theorem enc_cons (c : UInt8) (l : List UInt8) : enc (c :: l) = enc1 c ++ enc l := by simp [enc]
theorem enc_append (a b : List UInt8) : enc (a ++ b) = enc a ++ enc b := by simp [enc]
def okLong : Option (List UInt8) → Option UInt8
  | some [c] => if shortN c = 0 ∧ raw c = false then some c else none
  | _ => none
def longP : List UInt8 → Option UInt8
  | a :: b :: d :: x :: y :: _ => if a = 117 ∧ b = 48 ∧ d = 48 then okLong (unhex [x, y]) else none
  | _ => none
def escP : List UInt8 → Option (UInt8 × Nat)
  | [] => none
  | c :: l => if c = 34 then some (34, 1) else if c = 92 then some (92, 1) else if c = 110 then some (10, 1) else if c = 114 then some (13, 1) else if c = 116 then some (9, 1) else (longP (c :: l)).map fun x => (x, 5)
theorem longP_cons (a b d x y : UInt8) (r : List UInt8) : longP (a :: b :: d :: x :: y :: r) = if a = 117 ∧ b = 48 ∧ d = 48 then okLong (unhex [x, y]) else none := rfl
theorem escP_cons (c : UInt8) (l : List UInt8) : escP (c :: l) = if c = 34 then some (34, 1) else if c = 92 then some (92, 1) else if c = 110 then some (10, 1) else if c = 114 then some (13, 1) else if c = 116 then some (9, 1) else (longP (c :: l)).map fun x => (x, 5) := rfl
def put (x : UInt8) (p : List UInt8 × List UInt8) : List UInt8 × List UInt8 := (x :: p.1, p.2)
def body : Nat → List UInt8 → Option (List UInt8 × List UInt8)
  | 0, _ => none
  | _ + 1, [] => none
  | f + 1, c :: l => if c = 34 then some ([], l) else if c = 92 then (match escP l with
    | some (x, n) => (body f (l.drop n)).map (put x)
    | none => none) else if raw c = true then (body f l).map (put c) else none
def bodyF (l : List UInt8) : Option (List UInt8 × List UInt8) := body (l.length + 1) l
theorem body_fuel : ∀ (f g : Nat) (l : List UInt8), l.length < f → l.length < g → body f l = body g l
  | 0, _, l, h, _ => by omega
  | _, 0, l, _, h => by omega
  | f + 1, g + 1, [], _, _ => rfl
  | f + 1, g + 1, c :: l, h1, h2 => by
    have hl : l.length < f := by simpa using h1
    have hg : l.length < g := by simpa using h2
    unfold body
    rw [body_fuel f g l hl hg]
    cases he : escP l with
    | none => rfl
    | some p =>
      obtain ⟨x, n⟩ := p
      have hd : (l.drop n).length ≤ l.length := by rw [List.length_drop]; omega
      simp only
      rw [body_fuel f g (l.drop n) (by omega) (by omega)]
theorem bodyF_nil : bodyF [] = none := rfl
theorem bodyF_cons (c : UInt8) (l : List UInt8) : bodyF (c :: l) = if c = 34 then some ([], l) else if c = 92 then (match escP l with
    | some (x, n) => (bodyF (l.drop n)).map (put x)
    | none => none) else if raw c = true then (bodyF l).map (put c) else none := by
  unfold bodyF
  rw [show (c :: l).length + 1 = (l.length + 1) + 1 by simp]
  conv => lhs; unfold body
  cases he : escP l with
  | none => rfl
  | some p =>
    obtain ⟨x, n⟩ := p
    have hd : (l.drop n).length ≤ l.length := by rw [List.length_drop]; omega
    simp only
    rw [body_fuel (l.length + 1) ((l.drop n).length + 1) (l.drop n) (by omega) (by omega)]
theorem bodyF_end (l : List UInt8) : bodyF (34 :: l) = some ([], l) := by rw [bodyF_cons, if_pos rfl]
theorem bodyF_esc {l : List UInt8} {x : UInt8} {n : Nat} (h : escP l = some (x, n)) : bodyF (92 :: l) = (bodyF (l.drop n)).map (put x) := by
  rw [bodyF_cons, if_neg (by decide), if_pos rfl, h]
theorem bodyF_noesc {l : List UInt8} (h : escP l = none) : bodyF (92 :: l) = none := by
  rw [bodyF_cons, if_neg (by decide), if_pos rfl, h]
theorem bodyF_raw {c : UInt8} {l : List UInt8} (h1 : c ≠ 34) (h2 : c ≠ 92) (h3 : raw c = true) : bodyF (c :: l) = (bodyF l).map (put c) := by
  rw [bodyF_cons, if_neg h1, if_neg h2, if_pos h3]
theorem bodyF_bad {c : UInt8} {l : List UInt8} (h1 : c ≠ 34) (h2 : c ≠ 92) (h3 : raw c = false) : bodyF (c :: l) = none := by
  rw [bodyF_cons, if_neg h1, if_neg h2, if_neg (by rw [h3]; decide)]
theorem short_cases (c : UInt8) : (c = 34 ∧ shortN c = 34) ∨ (c = 92 ∧ shortN c = 92) ∨ (c = 10 ∧ shortN c = 110) ∨ (c = 13 ∧ shortN c = 114) ∨ (c = 9 ∧ shortN c = 116) ∨ (c ≠ 34 ∧ c ≠ 92 ∧ c ≠ 10 ∧ c ≠ 13 ∧ c ≠ 9 ∧ shortN c = 0) := by
  unfold shortN
  by_cases h1 : c = 34
  · subst h1; simp
  · by_cases h2 : c = 92
    · subst h2; simp
    · by_cases h3 : c = 10
      · subst h3; simp
      · by_cases h4 : c = 13
        · subst h4; simp
        · by_cases h5 : c = 9
          · subst h5; simp
          · simp [h1, h2, h3, h4, h5]
theorem unhex_one (c : UInt8) : unhex [dig (c.toNat / 16), dig (c.toNat % 16)] = some [c] := unhex_hex [c]
/-- what was written is read -/
theorem bodyF_enc1 (c : UInt8) (q : List UInt8) : bodyF (enc1 c ++ q) = (bodyF q).map (put c) := by
  unfold enc1
  rcases short_cases c with ⟨rfl, h⟩ | ⟨rfl, h⟩ | ⟨rfl, h⟩ | ⟨rfl, h⟩ | ⟨rfl, h⟩ | ⟨h1, h2, h3, h4, h5, h⟩
  · rw [h, if_pos (by decide)]
    exact bodyF_esc (x := 34) (n := 1) (by unfold escP; rfl)
  · rw [h, if_pos (by decide)]
    exact bodyF_esc (x := 92) (n := 1) (by unfold escP; rfl)
  · rw [h, if_pos (by decide)]
    exact bodyF_esc (x := 10) (n := 1) (by unfold escP; rfl)
  · rw [h, if_pos (by decide)]
    exact bodyF_esc (x := 13) (n := 1) (by unfold escP; rfl)
  · rw [h, if_pos (by decide)]
    exact bodyF_esc (x := 9) (n := 1) (by unfold escP; rfl)
  · rw [h, if_neg (by decide)]
    cases hr : raw c
    · rw [if_neg (by decide)]
      have e : escP (117 :: 48 :: 48 :: dig (c.toNat / 16) :: dig (c.toNat % 16) :: q) = some (c, 5) := by
        rw [escP_cons, if_neg (by decide), if_neg (by decide), if_neg (by decide), if_neg (by decide), if_neg (by decide), longP_cons, if_pos ⟨rfl, rfl, rfl⟩, unhex_one]
        show Option.map _ (if shortN c = 0 ∧ raw c = false then some c else none) = _
        rw [if_pos (And.intro h hr)]
        rfl
      exact bodyF_esc e
    · rw [if_pos rfl]
      exact bodyF_raw h1 h2 hr
theorem bodyF_enc (l q : List UInt8) : bodyF (enc l ++ 34 :: q) = some (l, q) := by
  induction l with
  | nil => exact bodyF_end q
  | cons c l ih => rw [enc_cons, List.append_assoc, bodyF_enc1, ih]; rfl
theorem okLong_spec {o : Option (List UInt8)} {c : UInt8} (h : okLong o = some c) : o = some [c] ∧ shortN c = 0 ∧ raw c = false := by
  unfold okLong at h
  split at h
  · rename_i c'
    by_cases hc : shortN c' = 0 ∧ raw c' = false
    · rw [if_pos hc] at h
      injection h with h
      subst h
      exact ⟨rfl, hc⟩
    · rw [if_neg hc] at h; cases h
  · cases h
theorem longP_spec : ∀ {l : List UInt8} {c : UInt8}, longP l = some c → 92 :: l = enc1 c ++ l.drop 5 ∧ 5 ≤ l.length
  | [], _, h => by cases h
  | [_], _, h => by cases h
  | [_, _], _, h => by cases h
  | [_, _, _], _, h => by cases h
  | [_, _, _, _], _, h => by cases h
  | a :: b :: d :: x :: y :: r, c, h => by
    rw [longP_cons] at h
    by_cases hh : a = 117 ∧ b = 48 ∧ d = 48
    · rw [if_pos hh] at h
      obtain ⟨rfl, rfl, rfl⟩ := hh
      obtain ⟨hu, h1, h2⟩ := okLong_spec h
      have hx := hex_unhex hu
      simp only [hex] at hx
      injection hx with e1 hx
      injection hx with e2 _
      unfold enc1
      rw [h1, if_neg (by decide), if_neg (by rw [h2]; decide), e1, e2]
      exact ⟨rfl, by simp⟩
    · rw [if_neg hh] at h; cases h
theorem escP_spec : ∀ {l : List UInt8} {x : UInt8} {n : Nat}, escP l = some (x, n) → 92 :: l = enc1 x ++ l.drop n ∧ 1 ≤ n ∧ n ≤ l.length
  | [], _, _, h => by cases h
  | c :: l, x, n, h => by
    rw [escP_cons] at h
    by_cases h1 : c = 34
    · rw [if_pos h1] at h; injection h with h; injection h with e1 e2; subst e1 e2 h1
      exact ⟨rfl, Nat.le_refl _, by simp⟩
    · rw [if_neg h1] at h
      by_cases h2 : c = 92
      · rw [if_pos h2] at h; injection h with h; injection h with e1 e2; subst e1 e2 h2
        exact ⟨rfl, Nat.le_refl _, by simp⟩
      · rw [if_neg h2] at h
        by_cases h3 : c = 110
        · rw [if_pos h3] at h; injection h with h; injection h with e1 e2; subst e1 e2 h3
          exact ⟨rfl, Nat.le_refl _, by simp⟩
        · rw [if_neg h3] at h
          by_cases h4 : c = 114
          · rw [if_pos h4] at h; injection h with h; injection h with e1 e2; subst e1 e2 h4
            exact ⟨rfl, Nat.le_refl _, by simp⟩
          · rw [if_neg h4] at h
            by_cases h5 : c = 116
            · rw [if_pos h5] at h; injection h with h; injection h with e1 e2; subst e1 e2 h5
              exact ⟨rfl, Nat.le_refl _, by simp⟩
            · rw [if_neg h5] at h
              obtain ⟨y, hy, he⟩ := Option.map_eq_some_iff.1 h
              injection he with e1 e2
              subst e1 e2
              obtain ⟨a, b⟩ := longP_spec hy
              exact ⟨a, by omega, b⟩
/-- what is read would have been written so -/
theorem bodyF_spec : ∀ (k : Nat) {r t q : List UInt8}, r.length ≤ k → bodyF r = some (t, q) → r = enc t ++ 34 :: q
  | k, [], t, q, _, h => by rw [bodyF_nil] at h; cases h
  | 0, _ :: _, t, q, hk, h => by simp at hk
  | k + 1, c :: l, t, q, hk, h => by
    have hlk : l.length ≤ k := by simpa using hk
    rw [bodyF_cons] at h
    by_cases h1 : c = 34
    · rw [if_pos h1] at h
      injection h with h
      injection h with e1 e2
      subst e1 e2 h1
      rfl
    · rw [if_neg h1] at h
      by_cases h2 : c = 92
      · rw [if_pos h2] at h
        cases he : escP l with
        | none => rw [he] at h; cases h
        | some p =>
          obtain ⟨x, n⟩ := p
          rw [he] at h
          obtain ⟨⟨t', q'⟩, hb, hp⟩ := Option.map_eq_some_iff.1 h
          injection hp with e1 e2
          simp only at e1 e2
          subst e1 e2
          obtain ⟨s1, s2, s3⟩ := escP_spec he
          have ih := bodyF_spec k (r := l.drop n) (by rw [List.length_drop]; omega) hb
          rw [h2, s1, enc_cons, List.append_assoc, ← ih]
      · rw [if_neg h2] at h
        by_cases h3 : raw c = true
        · rw [if_pos h3] at h
          obtain ⟨⟨t', q'⟩, hb, hp⟩ := Option.map_eq_some_iff.1 h
          injection hp with e1 e2
          simp only at e1 e2
          subst e1 e2
          have ih := bodyF_spec k hlk hb
          have hs : enc1 c = [c] := by
            unfold enc1
            have hr : 32 ≤ c.toNat := by unfold raw at h3; simp at h3; exact h3.1
            rcases short_cases c with ⟨e, _⟩ | ⟨e, _⟩ | ⟨e, _⟩ | ⟨e, _⟩ | ⟨e, _⟩ | ⟨_, _, _, _, _, e⟩
            · exact absurd e h1
            · exact absurd e h2
            · rw [e] at hr; exact absurd hr (by decide)
            · rw [e] at hr; exact absurd hr (by decide)
            · rw [e] at hr; exact absurd hr (by decide)
            · rw [e, if_neg (by decide), if_pos h3]
          rw [enc_cons, hs, List.append_assoc, ← ih]; rfl
        · rw [if_neg h3] at h; cases h
def readP : List UInt8 → Option (List UInt8 × List UInt8)
  | [] => none
  | c :: l => if c = 34 then bodyF l else none
theorem readP_cons (c : UInt8) (l : List UInt8) : readP (c :: l) = if c = 34 then bodyF l else none := rfl
theorem readP_quote (l q : List UInt8) : readP (quote l ++ q) = some (l, q) := by
  unfold quote
  show (if (34 : UInt8) = 34 then bodyF (enc l ++ [34] ++ q) else none) = _
  rw [if_pos rfl, List.append_assoc]
  exact bodyF_enc l q
theorem readP_spec : ∀ {s t q : List UInt8}, readP s = some (t, q) → s = quote t ++ q
  | [], _, _, h => by cases h
  | c :: l, t, q, h => by
    rw [readP_cons] at h
    by_cases h1 : c = 34
    · rw [if_pos h1] at h
      have := bodyF_spec l.length (Nat.le_refl _) h
      rw [h1, this]; simp [quote]
    · rw [if_neg h1] at h; cases h
def unquoteP (s : List UInt8) : Option (List UInt8) := match readP s with
  | some (t, []) => some t
  | _ => none
theorem unquote_quote (l : List UInt8) : unquoteP (quote l) = some l := by
  unfold unquoteP
  have := readP_quote l []
  rw [List.append_nil] at this
  rw [this]
theorem unquote_spec {s t : List UInt8} (h : unquoteP s = some t) : s = quote t := by
  unfold unquoteP at h
  split at h
  · rename_i t' hr
    injection h with h
    subst h
    have := readP_spec hr
    rwa [List.append_nil] at this
  · cases h
theorem quote_inj {a b : List UInt8} (h : quote a = quote b) : a = b := by
  have := congrArg unquoteP h
  rw [unquote_quote, unquote_quote] at this
  injection this
/-! ### an error's body -/
def firstL : List UInt8 := [123, 34, 101, 114, 114, 111, 114, 115, 34, 58, 91, 123, 34, 99, 111, 100, 101, 34, 58]
def middleL : List UInt8 := [44, 34, 109, 101, 115, 115, 97, 103, 101, 34, 58]
def lastL : List UInt8 := [125, 93, 125, 10]
def bodyL (a b : List UInt8) : List UInt8 := firstL ++ (quote a ++ (middleL ++ (quote b ++ lastL)))
/-- what stands behind a beginning -/
def cutP (p s : List UInt8) : List UInt8 × Bool := if p.isPrefixOf s = true then (s.drop p.length, true) else (s, false)
def readT (s : List UInt8) : List UInt8 × List UInt8 × Bool := match readP s with
  | some (t, q) => (t, q, true)
  | none => ([], [], false)
theorem cutP_yes (p q : List UInt8) : cutP p (p ++ q) = (q, true) := by
  unfold cutP
  rw [if_pos (by simp), List.drop_left]
theorem cutP_spec {p s q : List UInt8} (h : cutP p s = (q, true)) : s = p ++ q := by
  unfold cutP at h
  split at h
  · rename_i hp
    injection h with h _
    obtain ⟨r, rfl⟩ := List.isPrefixOf_iff_prefix.1 hp
    rw [List.drop_left] at h
    rw [h]
  · injection h with _ h; cases h
theorem readT_quote (l q : List UInt8) : readT (quote l ++ q) = (l, q, true) := by unfold readT; rw [readP_quote]
theorem readT_spec {s t q : List UInt8} (h : readT s = (t, q, true)) : s = quote t ++ q := by
  unfold readT at h
  cases hr : readP s with
  | none => rw [hr] at h; injection h with _ h; injection h with _ h; cases h
  | some p =>
    obtain ⟨a, b⟩ := p
    rw [hr] at h
    injection h with h1 h; injection h with h2 _
    rw [readP_spec hr, h1, h2]
def ofP (s : List UInt8) : Option (List UInt8 × List UInt8) :=
  if (cutP firstL s).2 = true ∧ (readT (cutP firstL s).1).2.2 = true ∧ (cutP middleL (readT (cutP firstL s).1).2.1).2 = true ∧ (readT (cutP middleL (readT (cutP firstL s).1).2.1).1).2.2 = true ∧ (readT (cutP middleL (readT (cutP firstL s).1).2.1).1).2.1 = lastL
  then some ((readT (cutP firstL s).1).1, (readT (cutP middleL (readT (cutP firstL s).1).2.1).1).1) else none
theorem of_body (a b : List UInt8) : ofP (bodyL a b) = some (a, b) := by
  unfold ofP bodyL
  rw [cutP_yes, readT_quote, cutP_yes, readT_quote]
  simp
theorem of_spec {s a b : List UInt8} (h : ofP s = some (a, b)) : s = bodyL a b := by
  unfold ofP at h
  split at h
  · rename_i hc
    obtain ⟨h1, h2, h3, h4, h5⟩ := hc
    injection h with h
    injection h with ha hb
    have e1 : cutP firstL s = ((cutP firstL s).1, true) := Prod.ext rfl h1
    have e2 := cutP_spec e1
    generalize (cutP firstL s).1 = r1 at *
    have e3 : readT r1 = (a, (readT r1).2.1, true) := Prod.ext ha (Prod.ext rfl h2)
    have e4 := readT_spec e3
    generalize (readT r1).2.1 = r2 at *
    have e5 : cutP middleL r2 = ((cutP middleL r2).1, true) := Prod.ext rfl h3
    have e6 := cutP_spec e5
    generalize (cutP middleL r2).1 = r3 at *
    have e7 : readT r3 = (b, lastL, true) := Prod.ext hb (Prod.ext h5 h4)
    have e8 := readT_spec e7
    rw [e2, e4, e6, e8]; rfl
  · cases h
theorem body_inj {a b c d : List UInt8} (h : bodyL a b = bodyL c d) : a = c ∧ b = d := by
  have := congrArg ofP h
  rw [of_body, of_body] at this
  injection this with this
  injection this with h1 h2
  exact ⟨h1, h2⟩
/-- all is ASCII -/
theorem dig_ascii (n : Nat) (h : n < 16) : 32 ≤ (dig n).toNat ∧ (dig n).toNat ≤ 126 := by
  have : ∀ k : Fin 16, 32 ≤ (dig k.val).toNat ∧ (dig k.val).toNat ≤ 126 := by decide
  exact this ⟨n, h⟩
theorem enc1_ascii (c x : UInt8) (h : x ∈ enc1 c) : 32 ≤ x.toNat ∧ x.toNat ≤ 126 := by
  have hc := c.toNat_lt
  unfold enc1 at h
  rcases short_cases c with ⟨_, e⟩ | ⟨_, e⟩ | ⟨_, e⟩ | ⟨_, e⟩ | ⟨_, e⟩ | ⟨_, _, _, _, _, e⟩
  · rw [e, if_pos (by decide)] at h; simp at h; rcases h with rfl | rfl <;> decide
  · rw [e, if_pos (by decide)] at h; simp at h; subst h; decide
  · rw [e, if_pos (by decide)] at h; simp at h; rcases h with rfl | rfl <;> decide
  · rw [e, if_pos (by decide)] at h; simp at h; rcases h with rfl | rfl <;> decide
  · rw [e, if_pos (by decide)] at h; simp at h; rcases h with rfl | rfl <;> decide
  · rw [e, if_neg (by decide)] at h
    cases hr : raw c
    · rw [hr, if_neg (by decide)] at h
      simp only [List.mem_cons, List.not_mem_nil, or_false] at h
      rcases h with rfl | rfl | rfl | rfl | rfl | rfl
      · decide
      · decide
      · decide
      · decide
      · exact dig_ascii _ (by omega)
      · exact dig_ascii _ (by omega)
    · rw [hr, if_pos rfl] at h
      simp at h
      subst h
      unfold raw at hr
      simp at hr
      omega
theorem quote_ascii (l : List UInt8) (x : UInt8) (h : x ∈ quote l) : 32 ≤ x.toNat ∧ x.toNat ≤ 126 := by
  unfold quote at h
  rcases List.mem_cons.1 h with rfl | h
  · decide
  · rcases List.mem_append.1 h with h | h
    · obtain ⟨c, _, hx⟩ := List.mem_flatMap.1 h
      exact enc1_ascii c x hx
    · rw [List.mem_singleton.1 h]; decide
theorem enc1_len (c : UInt8) : (enc1 c).length ≤ 6 := by
  unfold enc1; split
  · simp
  · split <;> simp
theorem enc_len (l : List UInt8) : (enc l).length ≤ 6 * l.length := by
  induction l with
  | nil => simp [enc]
  | cons c l ih => rw [enc_cons, List.length_append, List.length_cons]; have := enc1_len c; omega
theorem quote_len (l : List UInt8) : (quote l).length ≤ 6 * l.length + 2 := by
  unfold quote; rw [List.length_cons, List.length_append]; have := enc_len l; simp; omega
end ExcP
end Go.Proofs.YtdnaijaamnfgmaaDoor

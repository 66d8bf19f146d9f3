/- Parse: plain law and walk. -/
import Derived.Test.YtomfkjllkmilpaaRealPrint
import Derived.Laws.BitsAllLaws
set_option linter.unusedSimpArgs false
set_option linter.unusedVariables false
set_option linter.unusedSectionVars false
namespace Go.Proofs.Ytomfkjllkmilpaa
open Go.RowKit
namespace Flt
open FloatP HexP
def fromB (m : List UInt8) : Nat := m.foldl (fun n c => n * 256 + c.toNat) 0
theorem fromB_snoc (m : List UInt8) (c : UInt8) : fromB (m ++ [c]) = fromB m * 256 + c.toNat := by simp [fromB]
theorem fromB_lt (m : List UInt8) : fromB m < 256 ^ m.length := by
  suffices ∀ r : List UInt8, fromB r.reverse < 256 ^ r.length by simpa using this m.reverse
  intro r
  induction r with
  | nil => exact Nat.one_pos
  | cons c r ih =>
    rw [List.reverse_cons, fromB_snoc, List.length_cons, Nat.pow_succ]
    have := c.toNat_lt
    omega
theorem fromB_b8 {x : Nat} (h : x < 18446744073709551616) : fromB (b8 x) = x := by
  have hb : ∀ n, (UInt8.ofNat (n % 256)).toNat = n % 256 := fun n => UInt8.toNat_ofNat_of_lt' (by show _ < 256; omega)
  show fromB [UInt8.ofNat (x / 256 ^ 7 % 256), UInt8.ofNat (x / 256 ^ 6 % 256), UInt8.ofNat (x / 256 ^ 5 % 256), UInt8.ofNat (x / 256 ^ 4 % 256), UInt8.ofNat (x / 256 ^ 3 % 256), UInt8.ofNat (x / 256 ^ 2 % 256), UInt8.ofNat (x / 256 ^ 1 % 256), UInt8.ofNat (x / 256 ^ 0 % 256)] = x
  simp only [fromB, List.foldl_cons, List.foldl_nil, hb]
  simp only [Nat.reducePow]
  omega
theorem b8_fromB {m : List UInt8} (h : m.length = 8) : b8 (fromB m) = m := by
  match m, h with
  | [a, b, c, d, e, f, g, i], _ =>
    have ha := a.toNat_lt; have hb := b.toNat_lt; have hc := c.toNat_lt; have hd := d.toNat_lt
    have he := e.toNat_lt; have hf := f.toNat_lt; have hg := g.toNat_lt; have hi := i.toNat_lt
    have hu : ∀ (u : UInt8) (n : Nat), n % 256 = u.toNat → UInt8.ofNat (n % 256) = u := fun u n hn => by rw [hn]; exact UInt8.ofNat_toNat
    generalize hn : fromB [a, b, c, d, e, f, g, i] = n
    simp only [fromB, List.foldl_cons, List.foldl_nil] at hn
    show [UInt8.ofNat (n / 256 ^ 7 % 256), UInt8.ofNat (n / 256 ^ 6 % 256), UInt8.ofNat (n / 256 ^ 5 % 256), UInt8.ofNat (n / 256 ^ 4 % 256), UInt8.ofNat (n / 256 ^ 3 % 256), UInt8.ofNat (n / 256 ^ 2 % 256), UInt8.ofNat (n / 256 ^ 1 % 256), UInt8.ofNat (n / 256 ^ 0 % 256)] = _
    simp only [Nat.reducePow]
    rw [hu a _ (by omega), hu b _ (by omega), hu c _ (by omega), hu d _ (by omega), hu e _ (by omega), hu f _ (by omega), hu g _ (by omega), hu i _ (by omega)]
def nanL : List UInt8 := [110, 97, 110]
def belowL : List UInt8 := [45, 105, 110, 102]
def aboveL : List UInt8 := [105, 110, 102]
def special (b : Nat) : Bool := cls b == 1 || cls b == 2 || cls b == 7
def digits (l : List UInt8) : Option Nat := match unhex l with
  | some m => if m.length = 8 ∧ special (fromB m) = false then some (fromB m) else none
  | none => none
def parse (l : List UInt8) : Option Nat :=
  if l = nanL then some 9221120237041090560 else if l = belowL then some 18442240474082181120 else if l = aboveL then some 9218868437227405312 else digits l
def canon (x : Nat) : Nat := if cls x = 1 then 9221120237041090560 else x
theorem bits_of_cls2 {x : Nat} (h : x < 18446744073709551616) (hc : cls x = 2) : x = 18442240474082181120 := by
  have hl := low_bits h
  rcases cls_spec x with ⟨ca, na⟩ | ⟨ca, na, ka, sa⟩ | ⟨ca, _⟩ | ⟨ca, _⟩ | ⟨ca, _⟩ | ⟨ca, _⟩ | ⟨ca, na, ka, sa⟩ <;> first | omega | skip
  rw [sa, if_pos rfl] at hl
  unfold key at ka
  rw [sa, if_pos rfl] at ka
  unfold INF at ka
  omega
theorem bits_of_cls7 {x : Nat} (h : x < 18446744073709551616) (hc : cls x = 7) : x = 9218868437227405312 := by
  have hl := low_bits h
  rcases cls_spec x with ⟨ca, na⟩ | ⟨ca, na, ka, sa⟩ | ⟨ca, _⟩ | ⟨ca, _⟩ | ⟨ca, _⟩ | ⟨ca, _⟩ | ⟨ca, na, ka, sa⟩ <;> first | omega | skip
  rw [sa, if_neg (by simp)] at hl
  unfold key at ka
  rw [sa, if_neg (by simp)] at ka
  unfold INF at ka
  omega
theorem hex_len16 (x : Nat) : (hex (b8 x)).length = 16 := by rw [hex_length]; rfl
theorem parse_print {x : Nat} (h : x < 18446744073709551616) : parse (print x) = some (canon x) := by
  unfold print canon
  by_cases h1 : cls x = 1
  · rw [if_pos h1, if_pos h1]; rfl
  · rw [if_neg h1, if_neg h1]
    by_cases h2 : cls x = 2
    · rw [if_pos h2, bits_of_cls2 h h2]; rfl
    · rw [if_neg h2]
      by_cases h7 : cls x = 7
      · rw [if_pos h7, bits_of_cls7 h h7]; rfl
      · rw [if_neg h7]
        have hl := hex_len16 x
        unfold parse
        rw [if_neg (by intro e; rw [e] at hl; cases hl), if_neg (by intro e; rw [e] at hl; cases hl), if_neg (by intro e; rw [e] at hl; cases hl)]
        unfold digits
        rw [unhex_hex]
        simp only
        rw [fromB_b8 h, if_pos ⟨rfl, by simp [special, h1, h2, h7]⟩]
theorem print_parse {l : List UInt8} {b : Nat} (h : parse l = some b) : print b = l ∧ b < 18446744073709551616 := by
  unfold parse at h
  split at h
  · rename_i e; injection h with h; subst h; rw [e]; exact ⟨by decide, by decide⟩
  · split at h
    · rename_i e; injection h with h; subst h; rw [e]; exact ⟨by decide, by decide⟩
    · split at h
      · rename_i e; injection h with h; subst h; rw [e]; exact ⟨by decide, by decide⟩
      · unfold digits at h
        split at h
        · rename_i m hm
          split at h
          · rename_i hc
            injection h with h
            subst h
            have hs := hc.2
            simp only [special, Bool.or_eq_false_iff, beq_eq_false_iff_ne] at hs
            refine ⟨?_, ?_⟩
            · unfold print
              rw [if_neg hs.1.1, if_neg hs.1.2, if_neg hs.2, b8_fromB hc.1]
              exact hex_unhex hm
            · have := fromB_lt m
              rw [hc.1] at this
              exact this
          · cases h
        · cases h
theorem cls_canon (x : Nat) : cls (canon x) = cls x := by
  unfold canon
  split
  · rename_i h; rw [h]; decide
  · rfl
theorem same_canon {x y : Nat} (hx : x < 18446744073709551616) (hy : y < 18446744073709551616) : same x y = decide (canon x = canon y) := by
  by_cases h : cls x = cls y
  · have hs : same x y = (!lt x y && !lt y x) := by unfold same less; rw [if_neg (by omega), if_neg (by omega)]
    rw [hs]
    have lx := low_bits hx
    have ly := low_bits hy
    have lab := @lt_iff x y
    have lba := @lt_iff y x
    unfold canon
    rcases cls_spec x with ⟨ca, na⟩ | ⟨ca, na, ka, sa⟩ | ⟨ca, na, ka, pa, qa, sa⟩ | ⟨ca, na, ka, pa, sa⟩ | ⟨ca, na, ka, pa, sa⟩ | ⟨ca, na, ka, pa, qa, sa⟩ | ⟨ca, na, ka, sa⟩
    · have l1 : lt x y = false := by cases hh : lt x y with
        | true => have := (lab.1 hh).1; rw [na] at this; cases this
        | false => rfl
      have l2 : lt y x = false := by cases hh : lt y x with
        | true => have := (lba.1 hh).2.1; rw [na] at this; cases this
        | false => rfl
      rw [l1, l2, if_pos ca, if_pos (by omega)]
      simp
    all_goals
      rcases cls_spec y with ⟨cb, nb⟩ | ⟨cb, nb, kb, sb⟩ | ⟨cb, nb, kb, pb, qb, sb⟩ | ⟨cb, nb, kb, pb, sb⟩ | ⟨cb, nb, kb, pb, sb⟩ | ⟨cb, nb, kb, pb, qb, sb⟩ | ⟨cb, nb, kb, sb⟩ <;> first | (exfalso; omega) | skip
    all_goals
      rw [if_neg (by omega), if_neg (by omega)]
      rw [sa] at lx
      rw [sb] at ly
      simp only [if_true, if_false, Bool.false_eq_true] at lx ly
      rw [Bool.eq_iff_iff, decide_eq_true_iff, Bool.and_eq_true, Bool.not_eq_true', Bool.not_eq_true', ← Bool.not_eq_true, ← Bool.not_eq_true, lab, lba, na, nb, ka, kb]
      simp only [true_and]
    · have e1 := bits_of_cls2 hx ca
      have e2 := bits_of_cls2 hy cb
      rw [e1, e2]; simp
    · omega
    · rw [lx, ly, pa, pb]; simp
    · rw [lx, ly, pa, pb]; simp
    · omega
    · have e1 := bits_of_cls7 hx ca
      have e2 := bits_of_cls7 hy cb
      rw [e1, e2]; simp
  · have hc : canon x ≠ canon y := fun e => h (by rw [← cls_canon x, e, cls_canon])
    rw [decide_eq_false hc]
    unfold same less
    rw [if_pos h, if_pos (Ne.symm h)]
    rcases Nat.lt_or_gt_of_ne h with hl | hl
    · rw [decide_eq_true hl]; rfl
    · rw [decide_eq_true (show cls y < cls x from hl)]; simp
end Flt
end Go.Proofs.Ytomfkjllkmilpaa

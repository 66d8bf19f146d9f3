/- Bytes as digits of base 16, and back. No program in sight. -/
import Derived.Laws.BitsAllLaws
set_option linter.unusedSimpArgs false
set_option linter.unusedVariables false
set_option linter.unusedSectionVars false
namespace Go.Proofs.YtglnefmaphajaaaDoor
namespace HexP
def digits : List UInt8 := [48, 49, 50, 51, 52, 53, 54, 55, 56, 57, 97, 98, 99, 100, 101, 102]
def dig (n : Nat) : UInt8 := digits.getD n 0
def hex : List UInt8 → List UInt8
  | [] => []
  | c :: l => dig (c.toNat / 16) :: dig (c.toNat % 16) :: hex l
def small (c : UInt8) : Option Nat :=
  if 48 ≤ c.toNat ∧ c.toNat ≤ 57 then some (c.toNat - 48) else if 97 ≤ c.toNat ∧ c.toNat ≤ 102 then some (c.toNat - 87) else none
def unhex : List UInt8 → Option (List UInt8)
  | [] => some []
  | [_] => none
  | a :: b :: l => match small a, small b with
    | some x, some y => (unhex l).map (UInt8.ofNat (16 * x + y) :: ·)
    | _, _ => none
theorem hex_length (l : List UInt8) : (hex l).length = 2 * l.length := by
  induction l with
  | nil => rfl
  | cons c l ih => simp only [hex, List.length_cons, ih]; omega
theorem small_lt {c : UInt8} {n : Nat} (h : small c = some n) : n < 16 := by
  unfold small at h
  split at h
  · injection h with h; omega
  · split at h
    · injection h with h; omega
    · cases h
theorem hex_append (a b : List UInt8) : hex (a ++ b) = hex a ++ hex b := by
  induction a with
  | nil => rfl
  | cons c a ih => simp only [List.cons_append, hex, ih]
theorem small_dig (n : Nat) (h : n < 16) : small (dig n) = some n := by
  have : ∀ k : Fin 16, small (dig k.val) = some k.val := by decide
  exact this ⟨n, h⟩
theorem dig_small {c : UInt8} {n : Nat} (h : small c = some n) : dig n = c := by
  have : ∀ k : Fin 256, ∀ n, small (UInt8.ofNat k.val) = some n → dig n = UInt8.ofNat k.val := by
    intro k n hk
    have h16 := small_lt hk
    have : ∀ k : Fin 256, ∀ n : Fin 16, small (UInt8.ofNat k.val) = some n.val → dig n.val = UInt8.ofNat k.val := by decide +kernel
    exact this k ⟨n, h16⟩ hk
  have hc := this ⟨c.toNat, c.toNat_lt⟩ n (by rw [show UInt8.ofNat c.toNat = c from UInt8.ofNat_toNat]; exact h)
  rw [hc]
  exact UInt8.ofNat_toNat
theorem unhex_hex (l : List UInt8) : unhex (hex l) = some l := by
  induction l with
  | nil => rfl
  | cons c l ih =>
    have hc := c.toNat_lt
    simp only [hex, unhex, small_dig _ (show c.toNat / 16 < 16 by omega), small_dig _ (show c.toNat % 16 < 16 by omega), ih, Option.map_some]
    rw [show 16 * (c.toNat / 16) + c.toNat % 16 = c.toNat by omega, UInt8.ofNat_toNat]
theorem hex_unhex : ∀ {l m : List UInt8}, unhex l = some m → hex m = l
  | [], m, h => by injection h with h; subst h; rfl
  | [_], m, h => by cases h
  | a :: b :: l, m, h => by
    unfold unhex at h
    split at h
    · rename_i x y hx hy
      cases hu : unhex l with
      | none => rw [hu] at h; cases h
      | some q =>
        rw [hu] at h
        injection h with h
        subst h
        have h1 := small_lt hx
        have h2 := small_lt hy
        have e : (UInt8.ofNat (16 * x + y)).toNat = 16 * x + y := UInt8.toNat_ofNat_of_lt' (by show _ < 256; omega)
        simp only [hex, e]
        rw [show (16 * x + y) / 16 = x by omega, show (16 * x + y) % 16 = y by omega, dig_small hx, dig_small hy, hex_unhex hu]
    · cases h
theorem unhex_length {l m : List UInt8} (h : unhex l = some m) : l.length = 2 * m.length := by
  rw [← hex_unhex h, hex_length]
theorem hex_inj {a b : List UInt8} (h : hex a = hex b) : a = b := by
  have := congrArg unhex h
  rw [unhex_hex, unhex_hex] at this
  injection this
end HexP
end Go.Proofs.YtglnefmaphajaaaDoor

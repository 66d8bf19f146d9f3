/- CRC-32 on natural numbers: what the program's functions compute, and the laws of it. No program in sight. -/
import Derived.Laws.BitsAllLaws
set_option linter.unusedSimpArgs false
set_option linter.unusedVariables false
set_option linter.unusedSectionVars false
namespace Go.Proofs.YtbeghdoffiidoaaDoor
namespace CrcP

def nibs : List Nat := [0x00000000, 0x1db71064, 0x3b6e20c8, 0x26d930ac, 0x76dc4190, 0x6b6b51f4, 0x4db26158, 0x5005713c,
  0xedb88320, 0xf00f9344, 0xd6d6a3e8, 0xcb61b38c, 0x9b64c2b0, 0x86d3d2d4, 0xa00ae278, 0xbdbdf21c]
def nib (i : Nat) : Nat := nibs.getD i 0
def half (x : Nat) : Nat := x / 16 ^^^ nib (x % 16)
def step (x b : Nat) : Nat := half (half (x ^^^ b))
def flip (x : Nat) : Nat := 4294967295 - x
def poly : Nat := 3988292384
def bit (x : Nat) : Nat := if x % 2 = 1 then x / 2 ^^^ poly else x / 2
def bits : Nat → Nat → Nat
  | 0, x => x
  | n + 1, x => bits n (bit x)
def run (x : Nat) (l : List UInt8) : Nat := l.foldl (fun x c => step x c.toNat) x
def runR (x : Nat) (l : List UInt8) : Nat := l.foldl (fun x c => bits 8 (x ^^^ c.toNat)) x
def more (s : Nat) (l : List UInt8) : Nat := flip (run (flip s) l)
def moreR (s : Nat) (l : List UInt8) : Nat := flip (runR (flip s) l)
def ofParts (ps : List (List UInt8)) : Nat := ps.foldl more 0
def tail (n : Nat) : List UInt8 := [UInt8.ofNat (n % 256), UInt8.ofNat (n / 256 % 256), UInt8.ofNat (n / 65536 % 256), UInt8.ofNat (n / 16777216 % 256)]
def ends (l : List UInt8) : Bool := decide (4 ≤ l.length) && (tail (more 0 (l.take (l.length - 4))) == l.drop (l.length - 4))

theorem nib_lt (i : Nat) : nib i < 4294967296 := by
  unfold nib
  rcases Nat.lt_or_ge i 16 with h | h
  · have : ∀ i, i < 16 → nibs.getD i 0 < 4294967296 := by decide
    exact this i h
  · simp [nibs, List.getD, h]
theorem half_lt {x : Nat} (h : x < 4294967296) : half x < 4294967296 := Nat.xor_lt_two_pow (n := 32) (by omega) (nib_lt _)
theorem xor_lt {x b : Nat} (hx : x < 4294967296) (hb : b < 4294967296) : x ^^^ b < 4294967296 := Nat.xor_lt_two_pow (n := 32) hx hb
theorem step_lt {x b : Nat} (hx : x < 4294967296) (hb : b < 256) : step x b < 4294967296 := half_lt (half_lt (xor_lt hx (by omega)))
theorem flip_lt (x : Nat) : flip x < 4294967296 := by unfold flip; omega
theorem flip_flip {x : Nat} (h : x < 4294967296) : flip (flip x) = x := by unfold flip; omega
theorem run_lt {x : Nat} (l : List UInt8) (h : x < 4294967296) : run x l < 4294967296 := by
  induction l generalizing x with
  | nil => exact h
  | cons c l ih => exact ih (step_lt h c.toNat_lt)
theorem more_lt (s : Nat) (l : List UInt8) : more s l < 4294967296 := flip_lt _
theorem run_snoc (x : Nat) (l : List UInt8) (c : UInt8) : run x (l ++ [c]) = step (run x l) c.toNat := by simp [run]
theorem runR_snoc (x : Nat) (l : List UInt8) (c : UInt8) : runR x (l ++ [c]) = bits 8 (runR x l ^^^ c.toNat) := by simp [runR]

/-! ### one bit is linear, on all numbers -/
theorem xor_half (x y : Nat) : (x ^^^ y) / 2 = x / 2 ^^^ y / 2 := by
  have := Nat.shiftRight_xor_distrib (a := x) (b := y) (i := 1)
  simpa [Nat.shiftRight_eq_div_pow] using this
theorem xor_mod2 (x y : Nat) : (x ^^^ y) % 2 = (x % 2 + y % 2) % 2 := by
  have h := Nat.xor_mod_two_pow (a := x) (b := y) (n := 1)
  simp only [Nat.pow_one] at h
  rw [h]
  rcases Nat.mod_two_eq_zero_or_one x with a | a <;> rcases Nat.mod_two_eq_zero_or_one y with b | b <;> rw [a, b] <;> rfl
theorem bit_xor (x y : Nat) : bit (x ^^^ y) = bit x ^^^ bit y := by
  unfold bit
  rw [xor_mod2, xor_half]
  rcases Nat.mod_two_eq_zero_or_one x with a | a <;> rcases Nat.mod_two_eq_zero_or_one y with b | b <;> rw [a, b] <;> simp only [Nat.zero_add, Nat.reduceAdd, Nat.reduceMod, if_true, if_false, Nat.reduceEqDiff, Nat.zero_ne_one]
  · exact (Nat.xor_assoc _ _ _)
  · rw [Nat.xor_assoc, Nat.xor_comm (y / 2) poly, ← Nat.xor_assoc]
  · rw [Nat.xor_assoc, ← Nat.xor_assoc poly, Nat.xor_comm poly (y / 2), Nat.xor_assoc, Nat.xor_self, Nat.xor_zero]
theorem bits_xor (n x y : Nat) : bits n (x ^^^ y) = bits n x ^^^ bits n y := by
  induction n generalizing x y with
  | zero => rfl
  | succ n ih => simp only [bits]; rw [bit_xor, ih]
theorem bits_add (m n x : Nat) : bits (m + n) x = bits n (bits m x) := by
  induction m generalizing x with
  | zero => simp [bits]
  | succ m ih => rw [Nat.succ_add]; simp only [bits]; exact ih _
theorem bit_double (x : Nat) : bit (2 * x) = x := by
  unfold bit
  rw [if_neg (by omega)]; omega
theorem bits_pow (n x : Nat) : bits n (2 ^ n * x) = x := by
  induction n with
  | zero => simp [bits]
  | succ n ih =>
    simp only [bits]
    rw [Nat.pow_succ, Nat.mul_comm (2 ^ n) 2, Nat.mul_assoc, bit_double]
    exact ih
theorem bits_zero (n : Nat) : bits n 0 = 0 := by have := bits_pow n 0; simpa using this
theorem bit_lt {x : Nat} (h : x < 4294967296) : bit x < 4294967296 := by
  unfold bit
  split
  · exact Nat.xor_lt_two_pow (n := 32) (by omega) (by decide)
  · omega
theorem bits_lt (n : Nat) {x : Nat} (h : x < 4294967296) : bits n x < 4294967296 := by
  induction n generalizing x with
  | zero => exact h
  | succ n ih => exact ih (bit_lt h)
theorem nib_bits (r : Nat) (h : r < 16) : bits 4 r = nib r := by
  have : ∀ r, r < 16 → bits 4 r = nib r := by decide
  exact this r h
theorem split_xor (n x : Nat) : x = 2 ^ n * (x / 2 ^ n) ^^^ x % 2 ^ n := by
  apply Nat.eq_of_testBit_eq
  intro i
  rw [Nat.testBit_xor, Nat.testBit_mod_two_pow, Nat.mul_comm, Nat.testBit_mul_two_pow, Nat.testBit_div_two_pow]
  by_cases h : i < n
  · simp [h, Nat.not_le.2 h]
  · have h' : n ≤ i := by omega
    simp [h, h']
theorem half_bits (x : Nat) : half x = bits 4 x := by
  have h := split_xor 4 x
  have e : bits 4 x = bits 4 (2 ^ 4 * (x / 2 ^ 4) ^^^ x % 2 ^ 4) := congrArg _ h
  rw [e, bits_xor, bits_pow, nib_bits _ (Nat.mod_lt _ (by decide))]
  rfl
theorem step_bits (x b : Nat) : step x b = bits 8 (x ^^^ b) := by
  unfold step
  rw [half_bits, half_bits]
  rfl
theorem run_runR (x : Nat) (l : List UInt8) : run x l = runR x l := by
  unfold run runR
  congr 1
  funext x c
  exact step_bits _ _
theorem more_moreR (s : Nat) (l : List UInt8) : more s l = moreR s l := by unfold more moreR; rw [run_runR]

/-! ### a text as one number -/
def le : List UInt8 → Nat
  | [] => 0
  | c :: l => c.toNat + 256 * le l
theorem le_lt (l : List UInt8) : le l < 2 ^ (8 * l.length) := by
  induction l with
  | nil => simp [le]
  | cons c l ih =>
    have hc := c.toNat_lt
    simp only [le, List.length_cons]
    rw [show 8 * (l.length + 1) = 8 * l.length + 8 from by omega, Nat.pow_add]
    omega
theorem run_le (x : Nat) (l : List UInt8) : run x l = bits (8 * l.length) (x ^^^ le l) := by
  induction l generalizing x with
  | nil => simp [run, le, bits]
  | cons c l ih =>
    have e : run x (c :: l) = run (step x c.toNat) l := rfl
    rw [e, ih, step_bits, show 8 * (c :: l).length = 8 + 8 * l.length from by simp; omega, bits_add]
    congr 1
    have h : le (c :: l) = 2 ^ 8 * le l ^^^ c.toNat := by
      have h1 := split_xor 8 (le (c :: l))
      have hc := c.toNat_lt
      have e1 : le (c :: l) / 2 ^ 8 = le l := by simp only [le]; omega
      have e2 : le (c :: l) % 2 ^ 8 = c.toNat := by simp only [le]; omega
      rw [e1, e2] at h1
      exact h1
    rw [h, Nat.xor_comm (2 ^ 8 * le l), ← Nat.xor_assoc, bits_xor 8 (x ^^^ c.toNat) (2 ^ 8 * le l), bits_pow]
theorem bits_inj (n : Nat) {x : Nat} (h : x < 4294967296) (h0 : bits n x = 0) : x = 0 := by
  induction n generalizing x with
  | zero => exact h0
  | succ n ih =>
    have hb := ih (bit_lt h) h0
    unfold bit at hb
    split at hb
    · have hx : x / 2 = poly := by
        have := congrArg (· ^^^ poly) hb
        simpa [Nat.xor_assoc] using this
      unfold poly at hx
      omega
    · omega
theorem xor_cancel (x a b : Nat) : (x ^^^ a) ^^^ (x ^^^ b) = a ^^^ b := by
  apply Nat.eq_of_testBit_eq
  intro i
  simp only [Nat.testBit_xor]
  cases x.testBit i <;> cases a.testBit i <;> cases b.testBit i <;> rfl
/-- two texts of one length: their sums part by what their numbers part -/
theorem run_xor (x : Nat) (l m : List UInt8) (h : l.length = m.length) : run x l ^^^ run x m = bits (8 * l.length) (le l ^^^ le m) := by
  rw [run_le, run_le, ← h, ← bits_xor, xor_cancel]
theorem flip_eq {x : Nat} (h : x < 4294967296) : flip x = x ^^^ 4294967295 := by
  have h1 : (BitVec.ofNat 32 x ^^^ BitVec.allOnes 32) = ~~~ (BitVec.ofNat 32 x) := BitVec.xor_allOnes
  have h2 := congrArg BitVec.toNat h1
  simp only [BitVec.toNat_xor, BitVec.toNat_not, BitVec.toNat_ofNat, BitVec.toNat_allOnes, Nat.mod_eq_of_lt h] at h2
  unfold flip
  exact h2.symm

/-! ### CrcParts -/
theorem more_append (s : Nat) (l m : List UInt8) : more s (l ++ m) = more (more s l) m := by
  unfold more
  rw [flip_flip (run_lt l (flip_lt _))]
  simp [run]
theorem run_append (x : Nat) (l m : List UInt8) : run x (l ++ m) = run (run x l) m := by simp [run]
theorem tail_length (n : Nat) : (tail n).length = 4 := rfl
theorem le_tail {n : Nat} (h : n < 4294967296) : le (tail n) = n := by
  simp only [tail, le, UInt8.toNat_ofNat']
  omega
theorem residue {n : Nat} (h : n < 4294967296) : more n (tail n) = 0x2144DF1C := by
  unfold more
  rw [run_le, tail_length, le_tail h, flip_eq h, Nat.xor_comm n, Nat.xor_assoc, Nat.xor_self, Nat.xor_zero]
  decide
theorem ends_tail (l : List UInt8) : ends (l ++ tail (more 0 l)) = true := by
  unfold ends
  have e : (l ++ tail (more 0 l)).length - 4 = l.length := by rw [List.length_append, tail_length]; omega
  rw [e, List.take_left, List.drop_left]
  simp [tail_length]

/-! ### CrcLinear -/
def xor3 (a b c : List UInt8) : List UInt8 := List.zipWith (fun x y => x ^^^ y) (List.zipWith (fun x y => x ^^^ y) a b) c
theorem le_zip (a b : List UInt8) (h : a.length = b.length) : le (List.zipWith (fun x y => x ^^^ y) a b) = le a ^^^ le b := by
  induction a generalizing b with
  | nil => cases b <;> simp_all [le]
  | cons x a ih =>
    cases b with
    | nil => simp at h
    | cons y b =>
      simp only [List.zipWith_cons_cons, le, UInt8.toNat_xor]
      rw [ih b (by simpa using h)]
      have hx := x.toNat_lt
      have hy := y.toNat_lt
      have e : ∀ (u v : Nat), u < 256 → u + 256 * v = 2 ^ 8 * v ^^^ u := fun u v hu => by
        have h1 := split_xor 8 (u + 256 * v)
        have e1 : (u + 256 * v) / 2 ^ 8 = v := by omega
        have e2 : (u + 256 * v) % 2 ^ 8 = u := by omega
        rw [e1, e2] at h1
        exact h1
      rw [e _ _ (Nat.xor_lt_two_pow (n := 8) hx hy), e _ _ hx, e _ _ hy]
      have m : 2 ^ 8 * (le a ^^^ le b) = 2 ^ 8 * le a ^^^ 2 ^ 8 * le b := by
        have := Nat.shiftLeft_xor_distrib (a := le a) (b := le b) (i := 8)
        simpa [Nat.shiftLeft_eq, Nat.mul_comm] using this
      rw [m]
      apply Nat.eq_of_testBit_eq
      intro i
      simp only [Nat.testBit_xor]
      generalize (2 ^ 8 * le a).testBit i = p1
      generalize (2 ^ 8 * le b).testBit i = p2
      cases p1 <;> cases p2 <;> cases x.toNat.testBit i <;> cases y.toNat.testBit i <;> rfl
theorem run_three (x : Nat) (a b c : List UInt8) (h1 : a.length = b.length) (h2 : a.length = c.length) : run x a ^^^ run x b ^^^ run x c = run x (xor3 a b c) := by
  have hz : (List.zipWith (fun x y => x ^^^ y) a b).length = a.length := by simp [h1]
  have hz3 : (xor3 a b c).length = a.length := by simp [xor3, h1, ← h2]
  rw [run_le, run_le, run_le, run_le, hz3, ← h1, ← h2, ← bits_xor, ← bits_xor]
  congr 1
  unfold xor3
  rw [le_zip _ _ (by rw [hz, h2]), le_zip _ _ h1, xor_cancel]
  apply Nat.eq_of_testBit_eq
  intro i
  simp only [Nat.testBit_xor]
  cases (le a).testBit i <;> cases (le b).testBit i <;> cases (le c).testBit i <;> cases x.testBit i <;> rfl
theorem linear (a b c : List UInt8) (h1 : a.length = b.length) (h2 : a.length = c.length) : more 0 a ^^^ more 0 b ^^^ more 0 c = more 0 (xor3 a b c) := by
  unfold more
  have r : ∀ l, run (flip 0) l < 4294967296 := fun l => run_lt l (flip_lt _)
  rw [flip_eq (r a), flip_eq (r b), flip_eq (r c), flip_eq (r _), ← run_three _ a b c h1 h2]
  apply Nat.eq_of_testBit_eq
  intro i
  simp only [Nat.testBit_xor]
  generalize (run (flip 0) a).testBit i = p1
  generalize (run (flip 0) b).testBit i = p2
  generalize (run (flip 0) c).testBit i = p3
  generalize (4294967295 : Nat).testBit i = p4
  cases p1 <;> cases p2 <;> cases p3 <;> cases p4 <;> rfl

/-! ### CrcTells -/
theorem tells (l m : List UInt8) (h : l.length = m.length) (k mask : Nat) (hm : mask < 4294967296) (hm0 : mask ≠ 0) (hk : k + 32 ≤ 8 * l.length) (hx : le l ^^^ le m = 2 ^ k * mask) :
    more 0 m ≠ more 0 l := by
  intro e
  unfold more at e
  have r : ∀ l, run (flip 0) l < 4294967296 := fun l => run_lt l (flip_lt _)
  have e' : run (flip 0) m = run (flip 0) l := by rw [← flip_flip (r m), ← flip_flip (r l), e]
  have h1 := run_xor (flip 0) l m h
  rw [e', Nat.xor_self, hx, show 8 * l.length = k + (8 * l.length - k) from by omega, bits_add, bits_pow] at h1
  exact hm0 (bits_inj _ hm h1.symm)
end CrcP
end Go.Proofs.YtbeghdoffiidoaaDoor

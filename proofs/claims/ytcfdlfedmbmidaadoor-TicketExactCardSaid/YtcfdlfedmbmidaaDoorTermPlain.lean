/- Package term: the nearest of spans, plain. -/
import Derived.Test.YtcfdlfedmbmidaaDoorFloatPlain
set_option linter.unusedSimpArgs false
set_option linter.unusedVariables false
set_option linter.unusedSectionVars false
namespace Go.Proofs.YtcfdlfedmbmidaaDoor
namespace FloatP
open Ieee
def good (b : Nat) : Bool := decide (4 ≤ cls b)
def near1 (o x : Nat) : Nat := if good x && less (clean x) o then clean x else o
def nearest (l : List Nat) : Nat := l.foldl near1 INF
theorem nearest_snoc (l : List Nat) (x : Nat) : nearest (l ++ [x]) = near1 (nearest l) x := by simp [nearest]
theorem good_spec {b : Nat} (h : good b = true) (hb : b < 18446744073709551616) : isNan b = false ∧ key b = (mag b : Int) ∧ mag b ≤ INF ∧ clean b = mag b := by
  have h4 : 4 ≤ cls b := by simpa [good] using h
  have lb := low_bits hb
  rcases cls_spec b with ⟨ca, na⟩ | ⟨ca, na, ka, sa⟩ | ⟨ca, na, ka, pa, qa, sa⟩ | ⟨ca, na, ka, pa, sa⟩ | ⟨ca, na, ka, pa, sa⟩ | ⟨ca, na, ka, pa, qa, sa⟩ | ⟨ca, na, ka, sa⟩
  · omega
  · omega
  · omega
  · refine ⟨na, by rw [ka, pa]; rfl, by rw [pa]; exact Nat.zero_le _, ?_⟩
    unfold clean; rw [if_neg (by omega), if_pos ca, pa]
  · refine ⟨na, by rw [ka, pa]; rfl, by rw [pa]; exact Nat.zero_le _, ?_⟩
    unfold clean; rw [if_neg (by omega), if_neg (by omega)]
    rw [sa] at lb; simpa using lb
  · refine ⟨na, ka, by omega, ?_⟩
    unfold clean; rw [if_neg (by omega), if_neg (by omega)]
    rw [sa] at lb; simpa using lb
  · refine ⟨na, ?_, isNan_iff.1 na, ?_⟩
    · unfold key; rw [sa]; rfl
    · unfold clean; rw [if_neg (by omega), if_neg (by omega)]
      rw [sa] at lb; simpa using lb
/-- a number that is its own magnitude -/
theorem pos_mag {a : Nat} (h : a ≤ INF) : mag a = a ∧ neg a = false := by
  unfold mag neg INF at *
  refine ⟨by omega, ?_⟩
  rw [show a / 9223372036854775808 = 0 by omega]; rfl
theorem pos_key {a : Nat} (h : a ≤ INF) : key a = (a : Int) ∧ isNan a = false := by
  obtain ⟨h1, h2⟩ := pos_mag h
  refine ⟨by unfold key; rw [h1, h2]; rfl, ?_⟩
  rw [isNan_iff, h1]; exact h
theorem pos_cls {a : Nat} (h : a ≤ INF) : cls a = if a = INF then 7 else if a = 0 then 5 else 6 := by
  obtain ⟨h1, h2⟩ := pos_mag h
  unfold cls
  rw [h1, h2, if_neg (by omega)]; rfl
theorem pos_less {a b : Nat} (ha : a ≤ INF) (hb : b ≤ INF) : less a b = decide (a < b) := by
  unfold less
  have la : lt a b = decide (a < b) := by
    rw [Bool.eq_iff_iff, lt_iff, (pos_key ha).1, (pos_key ha).2, (pos_key hb).1, (pos_key hb).2]
    simp
  rw [la, pos_cls ha, pos_cls hb]
  unfold INF at *
  by_cases h1 : a = 9218868437227405312 <;> by_cases h2 : b = 9218868437227405312 <;> by_cases h3 : a = 0 <;> by_cases h4 : b = 0 <;> simp [h1, h2, h3, h4] <;> omega
theorem near1_eq {o x : Nat} (ho : o ≤ INF) (hx : x < 18446744073709551616) : near1 o x = if good x then min (mag x) o else o := by
  unfold near1
  cases hg : good x
  · simp
  · obtain ⟨_, _, hm, hc⟩ := good_spec hg hx
    rw [hc, pos_less hm ho]
    by_cases h : mag x < o
    · simp [h]; omega
    · simp [h]; omega
theorem nearest_le (l : List Nat) (hl : ∀ x ∈ l, x < 18446744073709551616) : nearest l ≤ INF := by
  suffices H : ∀ (l : List Nat) (o : Nat), o ≤ INF → (∀ x ∈ l, x < 18446744073709551616) → l.foldl near1 o ≤ INF from H l INF (Nat.le_refl _) hl
  intro l
  induction l with
  | nil => intro o ho _; exact ho
  | cons x l ih =>
    intro o ho hl
    refine ih _ ?_ fun y hy => hl y (by simp [hy])
    rw [near1_eq ho (hl x (by simp))]
    split <;> omega
/-- what the nearest is: a lower bound, and one of them or infinity -/
theorem nearest_spec (l : List Nat) (hl : ∀ x ∈ l, x < 18446744073709551616) : (∀ x ∈ l, good x = true → nearest l ≤ mag x) ∧ (nearest l = INF ∨ ∃ x ∈ l, good x = true ∧ mag x = nearest l) := by
  suffices H : ∀ (l : List Nat) (o : Nat), o ≤ INF → (∀ x ∈ l, x < 18446744073709551616) → l.foldl near1 o ≤ o ∧ (∀ x ∈ l, good x = true → l.foldl near1 o ≤ mag x) ∧ (l.foldl near1 o = o ∨ ∃ x ∈ l, good x = true ∧ mag x = l.foldl near1 o) from (H l INF (Nat.le_refl _) hl).2
  intro l
  induction l with
  | nil => intro o ho _; exact ⟨Nat.le_refl _, by simp, .inl rfl⟩
  | cons x l ih =>
    intro o ho hl
    have hx := near1_eq ho (hl x (by simp))
    have h1 : near1 o x ≤ o := by rw [hx]; split <;> omega
    obtain ⟨h2, h3, h4⟩ := ih (near1 o x) (Nat.le_trans h1 ho) fun y hy => hl y (by simp [hy])
    refine ⟨Nat.le_trans h2 h1, ?_, ?_⟩
    · intro y hy hg
      rcases List.mem_cons.1 hy with rfl | hy
      · refine Nat.le_trans h2 ?_
        rw [hx, hg]; simp; omega
      · exact h3 y hy hg
    · rcases h4 with h4 | ⟨y, hy, hg, he⟩
      · show List.foldl near1 (near1 o x) l = o ∨ _
        cases hg : good x
        · left; rw [h4, hx, hg]; simp
        · rw [hg] at hx; simp only [if_true] at hx
          rcases Nat.lt_or_ge (mag x) o with hlt | hge
          · right; exact ⟨x, by simp, hg, by show mag x = List.foldl near1 (near1 o x) l; rw [h4, hx]; omega⟩
          · left; rw [h4, hx]; omega
      · right; exact ⟨y, by simp [hy], hg, he⟩
theorem nearest_reverse (l : List Nat) (hl : ∀ x ∈ l, x < 18446744073709551616) : nearest l.reverse = nearest l := by
  have hr : ∀ x ∈ l.reverse, x < 18446744073709551616 := fun x hx => hl x (by simpa using hx)
  obtain ⟨a1, a2⟩ := nearest_spec l hl
  obtain ⟨b1, b2⟩ := nearest_spec l.reverse hr
  have l1 := nearest_le l hl
  have l2 := nearest_le l.reverse hr
  refine Nat.le_antisymm ?_ ?_
  · rcases a2 with h | ⟨x, hx, hg, he⟩
    · rw [h]; exact l2
    · rw [← he]; exact b1 x (by simpa using hx) hg
  · rcases b2 with h | ⟨x, hx, hg, he⟩
    · rw [h]; exact l1
    · rw [← he]; exact a1 x (by simpa using hx) hg
/-- the loop of the law, over the rest of the list -/
def eqF (a b : Nat) : Bool := double.order a b == some .eq
def foundIn (n : Nat) (l : List Nat) : Bool := cls n == 7 || l.any fun x => good x && eqF x n
theorem nearest_not_lt {l : List Nat} (hl : ∀ x ∈ l, x < 18446744073709551616) {x : Nat} (hx : x ∈ l) (hg : good x = true) : lt x (nearest l) = false := by
  rw [Bool.eq_false_iff]
  intro h
  have h := (lt_iff.1 h).2.2
  rw [(good_spec hg (hl x hx)).2.1, (pos_key (nearest_le l hl)).1] at h
  have := (nearest_spec l hl).1 x hx hg
  omega
theorem nearest_found {l : List Nat} (hl : ∀ x ∈ l, x < 18446744073709551616) : foundIn (nearest l) l = true := by
  unfold foundIn
  rcases (nearest_spec l hl).2 with h | ⟨x, hx, hg, he⟩
  · rw [h]; rfl
  · simp only [Bool.or_eq_true, List.any_eq_true, Bool.and_eq_true]
    right
    refine ⟨x, hx, hg, ?_⟩
    unfold eqF
    have h1 := good_spec hg (hl x hx)
    have h2 := pos_key (nearest_le l hl)
    rw [eq_iff]
    exact ⟨h1.1, h2.2, by rw [h1.2.1, h2.1, he]⟩
theorem nearest_good {l : List Nat} (hl : ∀ x ∈ l, x < 18446744073709551616) : good (nearest l) = true := by
  unfold good
  rw [pos_cls (nearest_le l hl)]
  split
  · rfl
  · split <;> rfl
theorem pos_same (a : Nat) (h : a ≤ INF) : same a a = true := by
  unfold same
  rw [pos_less h h]
  simp
end FloatP
end Go.Proofs.YtcfdlfedmbmidaaDoor

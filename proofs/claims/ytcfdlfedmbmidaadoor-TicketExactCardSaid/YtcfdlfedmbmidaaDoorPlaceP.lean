/- Names and tags, plain. -/
import Derived.Lib.SlTrimSet
import Derived.Lib.Bytealg
set_option linter.unusedSimpArgs false
set_option linter.unusedVariables false
set_option linter.unusedSectionVars false
namespace Go.Proofs.YtcfdlfedmbmidaaDoor
namespace Pl
def lettersL : List UInt8 := [97, 98, 99, 100, 101, 102, 103, 104, 105, 106, 107, 108, 109, 110, 111, 112, 113, 114, 115, 116, 117, 118, 119, 120, 121, 122, 48, 49, 50, 51, 52, 53, 54, 55, 56, 57]
def sepsL : List UInt8 := [46, 95, 45]
def tagsL : List UInt8 := [97, 98, 99, 100, 101, 102, 103, 104, 105, 106, 107, 108, 109, 110, 111, 112, 113, 114, 115, 116, 117, 118, 119, 120, 121, 122, 48, 49, 50, 51, 52, 53, 54, 55, 56, 57, 65, 66, 67, 68, 69, 70, 71, 72, 73, 74, 75, 76, 77, 78, 79, 80, 81, 82, 83, 84, 85, 86, 87, 88, 89, 90, 46, 95, 45]
def low (c : UInt8) : Bool := (97 ≤ c.toNat && c.toNat ≤ 122) || (48 ≤ c.toNat && c.toNat ≤ 57)
def sepc (c : UInt8) : Bool := c == 46 || c == 95 || c == 45
theorem all256 (p : UInt8 → Bool) (h : ∀ k : Fin 256, p (UInt8.ofNat k.val) = true) (c : UInt8) : p c = true := by
  have := h ⟨c.toNat, c.toNat_lt⟩
  simpa using this
theorem low_mem (c : UInt8) : lettersL.contains c = low c := by
  have := all256 (fun c => lettersL.contains c == low c) (by decide +kernel) c
  simpa using this
theorem sep_mem (c : UInt8) : sepsL.contains c = sepc c := by
  have := all256 (fun c => sepsL.contains c == sepc c) (by decide +kernel) c
  simpa using this
theorem trim_low (l : List UInt8) : Lib.trimLeftS l lettersL = l.dropWhile low := by
  unfold Lib.trimLeftS
  congr 1
  funext c
  exact low_mem c
theorem trim_sep (l : List UInt8) : Lib.trimLeftS l sepsL = l.dropWhile sepc := by
  unfold Lib.trimLeftS
  congr 1
  funext c
  exact sep_mem c
def isSep (l : List UInt8) : Bool := l == [46] || l == [95] || l == [95, 95] || (!l.isEmpty && l.all (· == 45))
theorem drop_nil (p : UInt8 → Bool) : ∀ (l : List UInt8), l.dropWhile p = [] ↔ l.all p = true
  | [] => by simp
  | c :: l => by
    rw [List.dropWhile_cons]
    cases h : p c
    · simp [h]
    · simp [h, drop_nil p l]
theorem trim_dash (l : List UInt8) : (Lib.trimS l [45] = []) ↔ l.all (· == 45) = true := by
  have hc : ∀ c : UInt8, [(45 : UInt8)].contains c = (c == 45) := fun c => by simp; rfl
  have e : ([(45 : UInt8)].contains ·) = (fun c : UInt8 => c == 45) := by funext c; exact hc c
  unfold Lib.trimS Lib.trimLeftS Lib.trimRightS
  rw [e, drop_nil]
  constructor
  · intro h
    have h2 : (l.reverse.dropWhile fun c => c == 45) = [] := by
      cases hd : l.reverse.dropWhile (fun c => c == 45) with
      | nil => rfl
      | cons x r =>
        have hx := List.head_dropWhile_not (fun c : UInt8 => c == 45) (l := l.reverse) (by rw [hd]; simp)
        rw [List.all_eq_true] at h
        have := h x (by rw [hd]; simp)
        simp only [hd, List.head_cons] at hx
        rw [this] at hx; cases hx
    have := (drop_nil (fun c : UInt8 => c == 45) l.reverse).1 h2
    rw [List.all_reverse] at this
    exact this
  · intro h
    have h2 : (l.reverse.dropWhile fun c => c == 45) = [] := (drop_nil (fun c : UInt8 => c == 45) l.reverse).2 (by rw [List.all_reverse]; exact h)
    rw [h2]; rfl
/-- a part of a name: as the program goes -/
def partF : Nat → List UInt8 → Bool
  | 0, _ => false
  | f + 1, l => if (l.dropWhile low).length = l.length then false else if l.dropWhile low = [] then true else
      if isSep ((l.dropWhile low).take ((l.dropWhile low).length - ((l.dropWhile low).dropWhile sepc).length)) = true then partF f ((l.dropWhile low).dropWhile sepc) else false
def partP (l : List UInt8) : Bool := partF (l.length + 1) l
theorem drop_le (p : UInt8 → Bool) (l : List UInt8) : (l.dropWhile p).length ≤ l.length := (List.dropWhile_suffix p).length_le
theorem partF_fuel : ∀ (f g : Nat) (l : List UInt8), l.length < f → l.length < g → partF f l = partF g l
  | 0, _, l, h, _ => by omega
  | _, 0, l, _, h => by omega
  | f + 1, g + 1, l, h1, h2 => by
    unfold partF
    by_cases hl : (l.dropWhile low).length = l.length
    · rw [if_pos hl, if_pos hl]
    · rw [if_neg hl, if_neg hl]
      have a := drop_le low l
      have b := drop_le sepc (l.dropWhile low)
      rw [partF_fuel f g _ (by omega) (by omega)]
theorem partP_step (l : List UInt8) : partP l = if (l.dropWhile low).length = l.length then false else if l.dropWhile low = [] then true else
      if isSep ((l.dropWhile low).take ((l.dropWhile low).length - ((l.dropWhile low).dropWhile sepc).length)) = true then partP ((l.dropWhile low).dropWhile sepc) else false := by
  unfold partP
  conv => lhs; unfold partF
  by_cases hl : (l.dropWhile low).length = l.length
  · rw [if_pos hl, if_pos hl]
  · rw [if_neg hl, if_neg hl]
    have a := drop_le low l
    have b := drop_le sepc (l.dropWhile low)
    rw [partF_fuel l.length (((l.dropWhile low).dropWhile sepc).length + 1) _ (by omega) (by omega)]
/-- the parts between slashes -/
def splitP : List UInt8 → List (List UInt8)
  | [] => [[]]
  | c :: l => if c = 47 then [] :: splitP l else match splitP l with
    | p :: ps => (c :: p) :: ps
    | [] => [[c]]
theorem splitP_ne (l : List UInt8) : splitP l ≠ [] := by
  cases l with
  | nil => simp [splitP]
  | cons c l =>
    unfold splitP
    split
    · simp
    · split <;> simp
def repoP (l : List UInt8) : Bool := decide (l.length ≤ 128) && (splitP l).all partP
def tagc (c : UInt8) : Bool := low c || (65 ≤ c.toNat && c.toNat ≤ 90) || sepc c
theorem tag_mem (c : UInt8) : tagsL.contains c = tagc c := by
  have := all256 (fun c => tagsL.contains c == tagc c) (by decide +kernel) c
  simpa using this
def tagP : List UInt8 → Bool
  | [] => false
  | c :: l => decide ((c :: l).length ≤ 128) && (c != 46) && (c != 45) && (c :: l).all tagc
end Pl
end Go.Proofs.YtcfdlfedmbmidaaDoor

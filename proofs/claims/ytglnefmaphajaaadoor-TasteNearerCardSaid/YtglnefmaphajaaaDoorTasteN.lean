/- Chapter 17: nearer ranges, plain. -/
import Derived.Test.YtglnefmaphajaaaDoorTasteA
set_option linter.unusedSimpArgs false
set_option linter.unusedVariables false
set_option linter.unusedSectionVars false
namespace Go.Proofs.YtglnefmaphajaaaDoor
open Go.RowKit
namespace Tst
open Fld
def kL : List UInt8 := [122, 122, 57, 47, 111, 119, 110]
def kU : List UInt8 := [90, 90, 57, 47, 79, 119, 110]
def zL : List UInt8 := [122, 122, 57]
def wB : Nat → ByteArray
  | 0 => ⟨#[48]⟩
  | 1 => ⟨#[48, 46, 48, 48, 49]⟩
  | 2 => ⟨#[48, 46, 53]⟩
  | 3 => ⟨#[48, 46, 57, 57, 57]⟩
  | _ => ⟨#[49]⟩
def ownL (k : Nat) : List UInt8 := [122, 122, 57, 47, 111, 119, 110, 59, 113, 61] ++ (wB k).data.toList
def qW (k : Nat) : Nat := (weightP [([113], (wB k).data.toList)]).1
structure Own (k : Nat) : Prop where
  el : (cutP 44 (ownL k)).filter (fun x => !x.isEmpty) = [ownL k]
  pa : paramsP (ownL k) = some [([113], (wB k).data.toList)]
  ok : (weightP [([113], (wB k).data.toList)]).2 = true
  he : headP (ownL k) = kL
theorem own_all {k : Nat} (h : k ≤ 4) : Own k := by
  rcases (by omega : k = 0 ∨ k = 1 ∨ k = 2 ∨ k = 3 ∨ k = 4) with rfl | rfl | rfl | rfl | rfl <;> exact ⟨by decide +kernel, by decide +kernel, by decide +kernel, by decide +kernel⟩
theorem split_kL : splitT kL = some (zL, [111, 119, 110]) := by decide +kernel
theorem split_kU : splitT kU = some (zL, [111, 119, 110]) := by decide +kernel
theorem near_own : nearP kL kL = 3 := by decide +kernel
theorem step_own {k : Nat} (h : Own k) (st : Nat × Nat) (hs : st.2 < 3) : stepQ kL st (ownL k) = (qW k, 3) := by
  unfold stepQ
  rw [h.pa]
  simp only [h.ok, h.he, near_own]
  rw [if_neg (by rintro ((h | h) | h); cases h; cases h; omega), if_pos (.inl hs)]
  rfl
theorem near_kU (s : List UInt8) : nearP s kU = nearP s kL := by unfold nearP; rw [split_kL, split_kU]
theorem qual_kU (fs : List Fld) : qualP fs kU = qualP fs kL := by
  have e : stepQ kU = stepQ kL := by
    funext st x
    unfold stepQ
    simp only [near_kU]
  unfold qualP
  rw [split_kL, split_kU, e]
/-! ### no range for the type -/
def bad3 (t : List UInt8) : Prop := t = [122, 122, 57] ∨ t = [90, 90, 57] ∨ t = [90, 122, 57] ∨ t = [122, 90, 57]
def NoZ (l : List UInt8) : Prop := ∀ j, j + 3 ≤ l.length → ¬ bad3 ((l.drop j).take 3)
theorem low_z {c : UInt8} (h : lowc c = 122) : c = 122 ∨ c = 90 := by
  unfold lowc at h
  split at h
  · next hc =>
    right
    have h1 := congrArg UInt8.toNat h
    rw [UInt8.toNat_add] at h1
    have h2 : (32 : UInt8).toNat = 32 := rfl
    have h3 : (122 : UInt8).toNat = 122 := rfl
    rw [h2, h3] at h1
    exact UInt8.toNat_inj.1 (by show c.toNat = 90; omega)
  · exact .inl h
theorem low_9 {c : UInt8} (h : lowc c = 57) : c = 57 := by
  unfold lowc at h
  split at h
  · next hc =>
    exfalso
    have h1 := congrArg UInt8.toNat h
    rw [UInt8.toNat_add] at h1
    have h2 : (32 : UInt8).toNat = 32 := rfl
    have h3 : (57 : UInt8).toNat = 57 := rfl
    rw [h2, h3] at h1
    omega
  · exact h
theorem no_head {l h : List UInt8} (hz : NoZ l) (hi : h <:+: l) {b : List UInt8} (hs : splitT h = some (zL, b)) : False := by
  unfold splitT at hs
  split at hs
  · next hc =>
    injection hs with hs
    injection hs with h1 h2
    rcases Str.cut1_cases 47 (lowL h) with ⟨a, b', e1, _, e3, _⟩ | ⟨e1, _, _⟩
    · rw [e1] at h1
      have h1 : a = zL := h1
      subst h1
      match h, e3 with
      | c1 :: c2 :: c3 :: r, e3 =>
        simp only [lowL, List.map_cons, zL, List.cons_append, List.nil_append, List.cons.injEq] at e3
        obtain ⟨x1, x2, x3, _⟩ := e3
        obtain ⟨p, q, hpq⟩ := hi
        have hl : p.length + 3 ≤ l.length := by
          rw [← hpq]; simp only [List.length_append, List.length_cons]; omega
        refine hz p.length hl ?_
        have : (l.drop p.length).take 3 = [c1, c2, c3] := by
          rw [← hpq, List.append_assoc, List.drop_left]
          rfl
        rw [this, low_9 x3]
        unfold bad3
        rcases low_z x1 with rfl | rfl <;> rcases low_z x2 with rfl | rfl
        · exact .inl rfl
        · exact .inr (.inr (.inr rfl))
        · exact .inr (.inr (.inl rfl))
        · exact .inr (.inl rfl)
      | [], e3 => simp [lowL, zL] at e3
      | [_], e3 => simp [lowL, zL] at e3
      | [_, _], e3 => simp [lowL, zL] at e3
    · rw [e1] at hc
      exact absurd hc.1.1 Bool.false_ne_true
  · cases hs
theorem near_no {l x : List UInt8} (hz : NoZ l) (hx : x ∈ (cutP 44 l).filter (fun x => !x.isEmpty)) : nearP (headP x) kL ≤ 2 := by
  have hxi := cutP_infix 44 (List.mem_filter.1 hx).1
  have hhi : headP x <:+: x := by
    unfold headP
    cases h : cutP 59 x with
    | nil => exact ⟨[], x, rfl⟩
    | cons p ps => exact cutP_infix 59 (by rw [h]; exact List.mem_cons_self)
  have hi := hhi.trans hxi
  unfold nearP
  rw [split_kL]
  cases hs : splitT (headP x) with
  | none => exact Nat.zero_le _
  | some p =>
    obtain ⟨a, b⟩ := p
    show nearT (a, b) (zL, [111, 119, 110]) ≤ 2
    unfold nearT
    split
    · split <;> omega
    split
    · split <;> omega
    split
    · next hc =>
      exfalso
      have ha : a = zL := hc.1
      subst ha
      exact no_head hz hi hs
    · omega
theorem step_le {st : Nat × Nat} {x : List UInt8} (h : st.2 ≤ 2) (hn : nearP (headP x) kL ≤ 2) : (stepQ kL st x).2 ≤ 2 := by
  unfold stepQ
  split
  · exact h
  · split
    · exact h
    · exact hn
theorem step_keep {q : Nat} {x : List UInt8} (hn : nearP (headP x) kL ≤ 2) : stepQ kL (q, 3) x = (q, 3) := by
  unfold stepQ
  split
  · rfl
  · rw [if_pos (.inr (by show _ < 3; omega))]
theorem fold_le : ∀ (xs : List (List UInt8)) (st : Nat × Nat), st.2 ≤ 2 → (∀ x ∈ xs, nearP (headP x) kL ≤ 2) → (xs.foldl (stepQ kL) st).2 ≤ 2
  | [], _, h, _ => h
  | x :: xs, st, h, hn => fold_le xs _ (step_le h (hn x List.mem_cons_self)) fun y hy => hn y (List.mem_cons_of_mem _ hy)
theorem fold_keep (q : Nat) : ∀ (xs : List (List UInt8)), (∀ x ∈ xs, nearP (headP x) kL ≤ 2) → xs.foldl (stepQ kL) (q, 3) = (q, 3)
  | [], _ => rfl
  | x :: xs, hn => by
    rw [List.foldl_cons, step_keep (hn x List.mem_cons_self)]
    exact fold_keep q xs fun y hy => hn y (List.mem_cons_of_mem _ hy)
theorem named_acc (V : ByteArray) : named acceptL (accB, V) = true := (by decide : (lowL accB.data.toList == lowL acceptL) = true)
theorem qual_one {k : Nat} (h : Own k) (O : ByteArray) (hO : O.data.toList = ownL k) : qualP [(accB, O)] kL = qW k := by
  have he : elemsP acceptL [(accB, O)] = [ownL k] := by
    unfold elemsP
    rw [List.filter_cons, if_pos (named_acc O), List.filter_nil, List.flatMap_cons, List.flatMap_nil, List.append_nil]
    unfold elemsOf
    rw [hO]; exact h.el
  unfold qualP
  rw [split_kL, he, if_neg (by decide), List.filter_cons, if_pos (named_acc O), if_neg (by simp)]
  rw [List.foldl_cons, step_own h _ (by decide)]
  rfl
theorem qual_behind {k : Nat} (h : Own k) (O V : ByteArray) (hO : O.data.toList = ownL k) (hV : NoZ V.data.toList) : qualP [(accB, V), (accB, O)] kL = qW k := by
  have he : elemsP acceptL [(accB, V), (accB, O)] = (cutP 44 V.data.toList).filter (fun x => !x.isEmpty) ++ [ownL k] := by
    unfold elemsP
    rw [List.filter_cons, if_pos (named_acc V), List.filter_cons, if_pos (named_acc O), List.filter_nil, List.flatMap_cons, List.flatMap_cons, List.flatMap_nil, List.append_nil]
    unfold elemsOf
    rw [hO, h.el]
  unfold qualP
  rw [split_kL, he, if_neg (by decide), List.filter_cons, if_pos (named_acc V), if_neg (by simp)]
  have h2 := fold_le ((cutP 44 V.data.toList).filter (fun x => !x.isEmpty)) (0, 0) (by decide) fun x hx => near_no hV hx
  rw [List.foldl_append, List.foldl_cons, step_own h _ (by omega)]
  rfl
theorem qual_ahead {k : Nat} (h : Own k) (O V : ByteArray) (hO : O.data.toList = ownL k) (hV : NoZ V.data.toList) : qualP [(accB, O), (accB, V)] kL = qW k := by
  have he : elemsP acceptL [(accB, O), (accB, V)] = [ownL k] ++ (cutP 44 V.data.toList).filter (fun x => !x.isEmpty) := by
    unfold elemsP
    rw [List.filter_cons, if_pos (named_acc O), List.filter_cons, if_pos (named_acc V), List.filter_nil, List.flatMap_cons, List.flatMap_cons, List.flatMap_nil, List.append_nil]
    unfold elemsOf
    rw [hO, h.el]
  unfold qualP
  rw [split_kL, he, if_neg (by decide), List.filter_cons, if_pos (named_acc O), if_neg (by simp)]
  rw [List.foldl_append, List.foldl_cons, step_own h _ (by decide), List.foldl_nil, fold_keep _ _ fun x hx => near_no hV hx]
theorem fin0 : (Ieee.double.order (qW 0) 0 == some .eq) = true := by decide +kernel
theorem fin4 : (Ieee.double.order (qW 4) 4607182418800017408 == some .eq) = true := by decide +kernel
theorem fin1 {k : Nat} (h : k = 1 ∨ k = 2 ∨ k = 3) : (Ieee.double.order (qW k) 0 == some .gt) = true ∧ (Ieee.double.order (qW k) 4607182418800017408 == some .lt) = true := by
  rcases h with rfl | rfl | rfl <;> exact ⟨by decide +kernel, by decide +kernel⟩
theorem fin_self {k : Nat} (h : k ≤ 4) : (Ieee.double.order (qW k) (qW k) == some .eq) = true := by
  rcases (by omega : k = 0 ∨ k = 1 ∨ k = 2 ∨ k = 3 ∨ k = 4) with rfl | rfl | rfl | rfl | rfl <;> decide +kernel
end Tst
end Go.Proofs.YtglnefmaphajaaaDoor

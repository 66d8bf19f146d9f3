/- Chapter 15, plain: what is written is read; what is read is written. -/
import Derived.Test.YtdoplndijlfabaaDoorPlaceParse
set_option linter.unusedSimpArgs false
set_option linter.unusedVariables false
set_option linter.unusedSectionVars false
namespace Go.Proofs.YtdoplndijlfabaaDoor
open Go.RowKit
namespace Pl
open Rte
theorem beh_of (p l : List UInt8) (hl : l.length = 32) : Stp.beh p (p ++ HexP.hex l) = some l := by
  have h : Pre.has p (p ++ HexP.hex l) = true := by
    unfold Pre.has
    rw [List.isPrefixOf_iff_prefix]
    exact List.prefix_append _ _
  unfold Stp.beh
  rw [h, if_pos rfl, List.drop_left, HexP.unhex_hex]
  simp only
  rw [if_pos hl]
theorem has_app (p l : List UInt8) : Pre.has p (p ++ l) = true := by
  unfold Pre.has
  rw [List.isPrefixOf_iff_prefix]
  exact List.prefix_append _ _
theorem has_split {p l : List UInt8} (h : Pre.has p l = true) : l = p ++ l.drop p.length := by
  unfold Pre.has at h
  rw [List.isPrefixOf_iff_prefix] at h
  obtain ⟨t, rfl⟩ := h
  rw [List.drop_left]
theorem of_beh {p s m : List UInt8} (h : Stp.beh p s = some m) : s = p ++ HexP.hex m := by
  unfold Stp.beh at h
  split at h
  · rename_i hp
    have := has_split hp
    rw [this]
    split at h
    · rename_i m' hm
      split at h
      · injection h with h
        subst h
        rw [HexP.hex_unhex hm]
      · cases h
    · cases h
  · cases h
theorem dig_slash (n : Nat) (h : n < 16) : HexP.dig n ≠ 47 := fun e => by
  have := HexP.small_dig n h
  rw [e] at this
  have h2 : HexP.small 47 = none := by decide
  rw [h2] at this
  cases this
theorem hex_slash : ∀ l : List UInt8, 47 ∉ HexP.hex l
  | [] => by simp [HexP.hex]
  | c :: l => by
    have h1 := dig_slash (c.toNat / 16) (by have := c.toNat_lt; omega)
    have h2 := dig_slash (c.toNat % 16) (by omega)
    have h3 := hex_slash l
    unfold HexP.hex
    simp only [List.mem_cons, not_or]
    exact ⟨Ne.symm h1, Ne.symm h2, h3⟩
/-! ### names and tags -/
theorem splitP_cat : ∀ (a b : List UInt8), splitP (a ++ 47 :: b) = splitP a ++ splitP b
  | [], b => by simp [splitP]
  | c :: a, b => by
    rw [List.cons_append, splitP, splitP_cat a b, splitP]
    by_cases hc : c = 47
    · rw [if_pos hc, if_pos hc]; rfl
    · rw [if_neg hc, if_neg hc]
      cases h : splitP a with
      | nil => exact absurd h (splitP_ne a)
      | cons p ps => rfl
theorem part_nil : partP [] = false := by rfl
theorem repo_cat (a b : List UInt8) (h : a.length + b.length < 128) : repoP (a ++ 47 :: b) = (repoP a && repoP b) := by
  unfold repoP
  rw [splitP_cat, List.all_append]
  have h1 : decide ((a ++ 47 :: b).length ≤ 128) = true := by rw [decide_eq_true_iff, List.length_append, List.length_cons]; omega
  have h2 : decide (a.length ≤ 128) = true := by rw [decide_eq_true_iff]; omega
  have h3 : decide (b.length ≤ 128) = true := by rw [decide_eq_true_iff]; omega
  rw [h1, h2, h3]
  simp
theorem repo_no {l : List UInt8} (h : [] ∈ splitP l) : repoP l = false := by
  unfold repoP
  have : (splitP l).all partP = false := by
    rw [List.all_eq_false]
    exact ⟨[], h, by rw [part_nil]; decide⟩
  rw [this, Bool.and_false]
theorem nil_mem : ([] : List UInt8) ∈ splitP [] := by simp [splitP]
theorem repo_two (a b : List UInt8) : repoP (a ++ [47, 47] ++ b) = false := by
  apply repo_no
  rw [show a ++ [47, 47] ++ b = a ++ 47 :: ([] ++ 47 :: b) by simp, splitP_cat, splitP_cat]
  simp [nil_mem]
theorem repo_end (a : List UInt8) : repoP (a ++ [47]) = false := by
  apply repo_no
  rw [splitP_cat]
  simp [nil_mem]
theorem repo_start (b : List UInt8) : repoP ([47] ++ b) = false := by
  apply repo_no
  rw [show [47] ++ b = [] ++ 47 :: b from rfl, splitP_cat]
  simp [nil_mem]
theorem tag_all {l : List UInt8} (h : tagP l = true) : l ≠ [] ∧ l.length ≤ 128 ∧ ∀ c ∈ l, tagc c = true := by
  cases l with
  | nil => cases h
  | cons c l =>
    unfold tagP at h
    simp only [Bool.and_eq_true, decide_eq_true_iff, List.all_eq_true] at h
    exact ⟨by simp, h.1.1.1, h.2⟩
theorem tag_slash {l : List UInt8} (h : tagP l = true) : 47 ∉ l := fun hm => by
  have := (tag_all h).2.2 47 hm
  have h2 : tagc 47 = false := by decide
  rw [h2] at this; cases this
theorem tag_colon {l : List UInt8} (h : tagP l = true) : 58 ∉ l := fun hm => by
  have := (tag_all h).2.2 58 hm
  have h2 : tagc 58 = false := by decide
  rw [h2] at this; cases this
theorem tag_no (a b : List UInt8) : tagP (a ++ [47] ++ b) = false := by
  cases h : tagP (a ++ [47] ++ b) with
  | false => rfl
  | true => exact absurd (by simp) (tag_slash h)
theorem tag_cat {a b : List UInt8} (ha : tagP a = true) (hb : tagP b = true) (h : a.length + b.length ≤ 128) : tagP (a ++ b) = true := by
  have hb' := tag_all hb
  cases a with
  | nil => cases ha
  | cons c a =>
    rw [List.cons_append]
    unfold tagP at ha ⊢
    simp only [Bool.and_eq_true, decide_eq_true_iff, List.all_eq_true] at ha ⊢
    refine ⟨⟨⟨?_, ha.1.1.2⟩, ha.1.2⟩, ?_⟩
    · rw [← List.cons_append, List.length_append]; omega
    · intro x hx
      rw [← List.cons_append, List.mem_append] at hx
      rcases hx with hx | hx
      · exact ha.2 x hx
      · exact hb'.2.2 x hx
theorem pA_tag {l : List UInt8} (h : tagP l = true) : Pre.has Stp.pA l = false := by
  cases hh : Pre.has Stp.pA l with
  | false => rfl
  | true =>
    have := has_split hh
    have hm : (58 : UInt8) ∈ l := by
      rw [this, List.mem_append]
      exact .inl (by decide)
    exact absurd hm (tag_colon h)
/-! ### what is written is read -/
theorem man_slash : (47 : UInt8) ∉ manL := by decide
theorem blob_slash : (47 : UInt8) ∉ blobL := by decide
theorem parse_cat (repo word ref : List UInt8) (hw : word = manL ∨ word = blobL) (hr : 47 ∉ ref) :
    parseP (rootL ++ (repo ++ 47 :: word) ++ 47 :: ref) = if repoP repo = false then (S.none, 10) else referP ⟨repo.toArray⟩ word ref := by
  have h1 : Pre.has rootL (rootL ++ (repo ++ 47 :: word) ++ 47 :: ref) = true := by rw [List.append_assoc]; exact has_app _ _
  have h2 : (rootL ++ (repo ++ 47 :: word) ++ 47 :: ref).drop 4 = (repo ++ 47 :: word) ++ 47 :: ref := by rw [List.append_assoc]; rfl
  have h3 : cutL ((repo ++ 47 :: word) ++ 47 :: ref) = some (repo ++ 47 :: word, ref) := cutL_some.2 ⟨rfl, hr⟩
  have h4 : cutL (repo ++ 47 :: word) = some (repo, word) := cutL_some.2 ⟨rfl, by rcases hw with rfl | rfl; exact man_slash; exact blob_slash⟩
  unfold parseP
  rw [h1, h2, if_neg (by decide), if_neg (by simp), h3]
  simp only [h4]
  rw [if_neg (by rcases hw with rfl | rfl; exact fun h => h.1 rfl; exact fun h => h.2 rfl)]
theorem parse_print {r : S} (h : goodP r = true) (hd : r.dig.length = 32) : parseP (printL r) = (r, 0) := by
  unfold goodP at h
  unfold printL
  by_cases k1 : r.k = 1
  · rw [if_pos k1] at h ⊢
    rw [(same_iff _ _).1 h]
    rfl
  · rw [if_neg k1] at h ⊢
    by_cases k2 : r.k = 2
    · rw [if_pos k2] at h ⊢
      rw [Bool.and_eq_true, Bool.and_eq_true, beq_iff_eq] at h
      obtain ⟨h1, h2, h3⟩ := h
      have := parse_cat r.repo.data.toList manL r.tag.data.toList (.inl rfl) (tag_slash h2)
      rw [h1, if_neg (by decide)] at this
      rw [show rootL ++ r.repo.data.toList ++ [47] ++ manL ++ [47] ++ r.tag.data.toList = rootL ++ (r.repo.data.toList ++ 47 :: manL) ++ 47 :: r.tag.data.toList by simp, this]
      unfold referP
      rw [if_pos ⟨rfl, pA_tag h2⟩, if_pos h2, ba_data, ba_data, ← h3, ← k2]
    · rw [if_neg k2] at h ⊢
      by_cases k3 : r.k = 3 ∨ r.k = 4
      · rw [if_pos k3, Bool.and_eq_true, decide_eq_true_iff] at h
        obtain ⟨h1, h2⟩ := h
        have ht : r.tag = noStr := ba_ext (by rw [(empty_of r.tag h2).1]; rfl)
        have hs : (47 : UInt8) ∉ Stp.pA ++ HexP.hex r.dig := by
          rw [List.mem_append, not_or]
          exact ⟨by decide, hex_slash _⟩
        have hp := has_app Stp.pA (HexP.hex r.dig)
        have hb := beh_of Stp.pA r.dig hd
        obtain ⟨word, hw⟩ : ∃ word, word = (if r.k = 4 then blobL else manL) := ⟨_, rfl⟩
        have hww : word = manL ∨ word = blobL := by rw [hw]; split; exact .inr rfl; exact .inl rfl
        rw [← hw]
        have := parse_cat r.repo.data.toList word (Stp.pA ++ HexP.hex r.dig) hww hs
        rw [h1, if_neg (by decide)] at this
        rw [show rootL ++ r.repo.data.toList ++ [47] ++ word ++ [47] ++ (Stp.pA ++ HexP.hex r.dig) = rootL ++ (r.repo.data.toList ++ 47 :: word) ++ 47 :: (Stp.pA ++ HexP.hex r.dig) by simp, this]
        unfold referP
        rw [if_neg (fun h => by rw [hp] at h; cases h.2), hb]
        simp only
        rw [ba_data]
        have hk : (if word = blobL then (4 : Int) else 3) = r.k := by
          rcases k3 with k | k
          · rw [hw, k]; decide
          · rw [hw, k]; decide
        rw [hk, ← ht]
      · rw [if_neg k3] at h; cases h
/-! ### what is read is written -/
theorem print_parse {s : List UInt8} {r : S} (h : parseP s = (r, 0)) : goodP r = true ∧ printL r = s := by
  unfold parseP at h
  split at h
  · injection h with _ h; cases h
  · rename_i hp
    have hs : s = rootL ++ s.drop 4 := has_split (p := rootL) (by simpa using hp)
    split at h
    · rename_i h0
      injection h with h _
      rw [h0] at hs
      subst h
      exact ⟨same_refl _, hs.symm⟩
    · generalize s.drop 4 = t at *
      split at h
      · injection h with _ h; cases h
      · rename_i x ref hc
        obtain ⟨e1, n1⟩ := cutL_some.1 hc
        split at h
        · injection h with _ h; cases h
        · rename_i repo word hc2
          obtain ⟨e2, n2⟩ := cutL_some.1 hc2
          split at h
          · injection h with _ h; cases h
          · rename_i hw
            split at h
            · injection h with _ h; cases h
            · rename_i hrp
              have hrp : repoP repo = true := by simpa using hrp
              subst e1 e2
              subst hs
              unfold referP at h
              split at h
              · rename_i hm
                split at h
                · rename_i ht
                  injection h with h _
                  subst h
                  unfold goodP printL
                  obtain ⟨rfl, _⟩ := hm
                  simp [hrp, ht]
                · injection h with _ h; cases h
              · rename_i hm
                split at h
                · rename_i d hd
                  injection h with h _
                  have := of_beh hd
                  subst h
                  unfold goodP printL
                  by_cases hb : word = blobL
                  · subst hb
                    refine ⟨by simp [hrp, noStr]; rfl, ?_⟩
                    rw [this]; simp
                  · have hw2 : word = manL := by
                      by_cases hm2 : word = manL
                      · exact hm2
                      · exact absurd ⟨hm2, hb⟩ hw
                    subst hw2
                    refine ⟨by simp [hb, hrp, noStr]; rfl, ?_⟩
                    rw [this]; simp [hb]
                · injection h with _ h; cases h
theorem parse_none {s : List UInt8} {r : S} {n : Int} (h : parseP s = (r, n)) (hn : n ≠ 0) : r = S.none := by
  unfold parseP at h
  split at h
  · injection h with h _; exact h.symm
  split at h
  · injection h with _ h; exact absurd h.symm hn
  split at h
  · injection h with h _; exact h.symm
  split at h
  · injection h with h _; exact h.symm
  split at h
  · injection h with h _; exact h.symm
  split at h
  · injection h with h _; exact h.symm
  unfold referP at h
  split at h
  · split at h
    · injection h with _ h; exact absurd h.symm hn
    · injection h with h _; exact h.symm
  · split at h
    · injection h with _ h; exact absurd h.symm hn
    · injection h with h _; exact h.symm
theorem print_inj {a b : S} (ha : goodP a = true) (hb : goodP b = true) (h1 : a.dig.length = 32) (h2 : b.dig.length = 32) : printL a = printL b ↔ a = b := by
  constructor
  · intro h
    have e1 := parse_print ha h1
    have e2 := parse_print hb h2
    rw [h, e2] at e1
    injection e1 with e1 _
    exact e1.symm
  · rintro rfl; rfl
end Pl
end Go.Proofs.YtdoplndijlfabaaDoor

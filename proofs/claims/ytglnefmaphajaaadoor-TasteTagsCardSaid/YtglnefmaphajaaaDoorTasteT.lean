/- Chapter 17: TasteTags. -/
import Derived.Test.YtglnefmaphajaaaDoorTasteA
import Derived.Test.YtglnefmaphajaaaDoorBytesEq
set_option linter.unusedSimpArgs false
set_option linter.unusedVariables false
set_option linter.unusedSectionVars false
namespace Go.Proofs.YtglnefmaphajaaaDoor
open Go.RowKit
namespace Tst
open Fld
/-! ### plain -/
theorem cut_run (s : UInt8) : ∀ (body cur : List UInt8), (∀ c ∈ body, c ≠ 34 ∧ c ≠ 92) → cutG s true cur (body ++ [34]) = [trimL (cur ++ body ++ [34])]
  | [], cur, _ => by
    rw [List.nil_append, List.append_nil]
    unfold cutG
    rw [if_pos rfl]
    rfl
  | b :: body, cur, h => by
    obtain ⟨h1, h2⟩ := h b List.mem_cons_self
    rw [List.cons_append]
    unfold cutG
    rw [if_neg h1, if_neg (fun h => h2 h.1), if_neg (fun h => by cases h.2), cut_run s body (cur ++ [b]) fun c hc => h c (List.mem_cons_of_mem _ hc)]
    simp
theorem trim_tag (x : UInt8) (mid : List UInt8) (hx : x ≠ 32 ∧ x ≠ 9) : trimL (32 :: x :: (mid ++ [34])) = x :: (mid ++ [34]) := by
  unfold trimL Lib.trimS Lib.trimLeftS Lib.trimRightS
  have h34 : [(32 : UInt8), 9].contains 34 = false := by decide
  have h32 : [(32 : UInt8), 9].contains 32 = true := by decide
  have hxx : [(32 : UInt8), 9].contains x = false := by
    rw [Bool.eq_false_iff]
    intro h
    have := List.contains_iff_mem.1 h
    simp only [List.mem_cons, List.not_mem_nil, or_false] at this
    rcases this with h | h
    · exact hx.1 h
    · exact hx.2 h
  have e : (32 :: x :: (mid ++ [34])).reverse = 34 :: (32 :: x :: mid).reverse := by simp
  rw [e, List.dropWhile_cons, h34]
  simp only [Bool.false_eq_true, if_false]
  rw [← e, List.reverse_reverse, List.dropWhile_cons, h32]
  simp only [if_true]
  rw [List.dropWhile_cons, hxx]
  simp
def bodyT (d : List UInt8) : List UInt8 := Stp.pA ++ HexP.hex d
theorem dig_plain (n : Nat) (h : n < 16) : HexP.dig n ≠ 34 ∧ HexP.dig n ≠ 92 := by
  have : ∀ k : Fin 16, HexP.dig k.val ≠ 34 ∧ HexP.dig k.val ≠ 92 := by decide
  exact this ⟨n, h⟩
theorem hex_plain : ∀ l : List UInt8, ∀ c ∈ HexP.hex l, c ≠ 34 ∧ c ≠ 92
  | [], c, h => by cases h
  | x :: l, c, h => by
    unfold HexP.hex at h
    simp only [List.mem_cons] at h
    rcases h with rfl | rfl | h
    · exact dig_plain _ (by have := x.toNat_lt; omega)
    · exact dig_plain _ (by omega)
    · exact hex_plain l c h
theorem body_plain (d : List UInt8) : ∀ c ∈ bodyT d, c ≠ 34 ∧ c ≠ 92 := by
  intro c hc
  rcases List.mem_append.1 hc with h | h
  · have : ∀ c ∈ Stp.pA, c ≠ 34 ∧ c ≠ 92 := by decide
    exact this c h
  · exact hex_plain d c h
theorem tag_form (d : List UInt8) : tagL d = 34 :: (bodyT d ++ [34]) := rfl
theorem tag_len (d : List UInt8) (h : d.length = 32) : (tagL d).length = 73 := by
  unfold tagL
  simp only [List.length_append, List.length_cons, List.length_nil, HexP.hex_length, h]
  decide
theorem tag_inj {a b : List UInt8} (h : tagL a = tagL b) : a = b := by
  rw [tag_form, tag_form] at h
  injection h with _ h
  exact HexP.hex_inj (List.append_cancel_left (List.append_cancel_right h))
def sent (weak : Bool) (d : List UInt8) : List UInt8 := if weak then 87 :: 47 :: tagL d else tagL d
theorem cut_sent (weak : Bool) (d : List UInt8) : cutP 44 ([34, 120, 34, 44, 32] ++ sent weak d) = [[34, 120, 34], sent weak d] := by
  have h0 : cutP 44 ([34, 120, 34, 44, 32] ++ sent weak d) = [34, 120, 34] :: cutG 44 false [32] (sent weak d) := by
    kernel_rfl
  rw [h0]
  cases weak with
  | false =>
    have h1 : cutG 44 false [32] (sent false d) = cutG 44 true [32, 34] (bodyT d ++ [34]) := rfl
    rw [h1, cut_run 44 _ _ (body_plain d)]
    have := trim_tag 34 (bodyT d) (by decide)
    rw [show ([32, 34] ++ bodyT d ++ [34] : List UInt8) = 32 :: 34 :: (bodyT d ++ [34]) from rfl, this]
    rfl
  | true =>
    have h1 : cutG 44 false [32] (sent true d) = cutG 44 true [32, 87, 47, 34] (bodyT d ++ [34]) := rfl
    rw [h1, cut_run 44 _ _ (body_plain d)]
    have := trim_tag 87 (47 :: 34 :: bodyT d) (by decide)
    rw [show ([32, 87, 47, 34] ++ bodyT d ++ [34] : List UInt8) = 32 :: 87 :: ((47 :: 34 :: bodyT d) ++ [34]) from rfl, this]
    rfl
def inmS : ByteArray := ⟨#[105, 102, 45, 110, 111, 110, 101, 45, 109, 97, 116, 99, 104]⟩
def xB : ByteArray := ⟨#[88]⟩
def starB : ByteArray := ⟨#[42]⟩
theorem elems_sent (weak : Bool) (d : List UInt8) (V : ByteArray) (hV : V.data.toList = [34, 120, 34, 44, 32] ++ sent weak d) : elemsP inmL [(inmS, V), (xB, starB)] = [[34, 120, 34], sent weak d] := by
  unfold elemsP
  rw [List.filter_cons, if_pos (show named inmL (inmS, V) = true from (by decide : (lowL inmS.data.toList == lowL inmL) = true)), List.filter_cons, if_neg (show ¬ named inmL (xB, starB) = true from by decide), List.filter_nil, List.flatMap_cons, List.flatMap_nil, List.append_nil]
  unfold elemsOf
  rw [hV, cut_sent]
  cases weak <;> rfl
theorem hit_short (d : List UInt8) (h : d.length = 32) : hitP d [34, 120, 34] = false := by
  unfold hitP
  rw [decide_eq_false (by decide), decide_eq_false, Bool.or_false]
  intro e
  have h1 := congrArg List.length e
  rw [tag_len d h] at h1
  exact absurd h1 (by decide)
theorem hit_sent (weak : Bool) (a d : List UInt8) (ha : a.length = 32) : hitP d (sent weak a) = decide (a = d) := by
  have hs : trimP [87, 47] (sent weak a) = tagL a := by cases weak <;> rfl
  unfold hitP
  rw [hs, decide_eq_false (p := sent weak a = [42]), Bool.false_or]
  · exact decide_eq_decide.2 ⟨tag_inj, fun h => by rw [h]⟩
  · intro e
    have h1 := congrArg List.length e
    have h2 := tag_len a ha
    cases weak with
    | false => rw [show sent false a = tagL a from rfl, h2] at h1; exact absurd h1 (by decide)
    | true => rw [show (sent true a).length = (tagL a).length + 2 from rfl, h2] at h1; exact absurd h1 (by decide)
theorem match_sent (weak : Bool) (a d : List UInt8) (ha : a.length = 32) (hd : d.length = 32) (V : ByteArray) (hV : V.data.toList = [34, 120, 34, 44, 32] ++ sent weak a) : matchP [(inmS, V), (xB, starB)] d = (a == d) := by
  unfold matchP
  rw [elems_sent weak a V hV, List.any_cons, List.any_cons, List.any_nil, hit_short d hd, hit_sent weak a d ha, Bool.false_or, Bool.or_false]
  rw [Bool.eq_iff_iff, beq_iff_eq, decide_eq_true_iff]
theorem match_star (d : List UInt8) : matchP [(inmB, starB)] d = true := by
  unfold matchP
  rw [show elemsP inmL [(inmB, starB)] = [[42]] from by decide]
  rfl
theorem match_x (d : List UInt8) : matchP [(xB, starB)] d = false := by
  unfold matchP
  rw [show elemsP inmL [(xB, starB)] = [] from by decide]
  rfl
end Tst
end Go.Proofs.YtglnefmaphajaaaDoor

/- Records of slips, read and written, as plain Lean: what is read is what was written. -/
import Derived.Test.YtbeghdoffiidoaaDoorSlipParsed
import Derived.Test.YtbeghdoffiidoaaDoorSlipWrite2
set_option linter.unusedSimpArgs false
set_option linter.unusedVariables false
set_option linter.unusedSectionVars false
namespace Go.Proofs.YtbeghdoffiidoaaDoor
open Go.RowKit
namespace Slp
open Bld (be8 len1 be)
open CrcP (more tail)
theorem same_eq {x y : S} (h : x.same y = true) : x = y := by
  unfold S.same at h
  simp only [Bool.and_eq_true, beq_iff_eq] at h
  obtain ⟨⟨⟨⟨⟨⟨h1, h2⟩, h3⟩, h4⟩, h5⟩, h6⟩, h7⟩ := h
  have e : ∀ {a b : ByteArray}, a.toList = b.toList → a = b := fun {a b} h => ba_ext (by rw [← ByteArray.toList_eq, ← ByteArray.toList_eq]; exact h)
  cases x; cases y
  simp only at *
  rw [h1, e h2, e h3, h4, e h5, h6, h7]
theorem same_refl (x : S) : x.same x = true := by simp [S.same]
theorem same_iff (x y : S) : x.same y = true ↔ x = y := ⟨same_eq, fun h => by rw [h]; exact same_refl y⟩
theorem good_only {x : S} (h : good x = true) : x = x.only (flds x.k) := by
  unfold good at h
  simp only [Bool.and_eq_true] at h
  exact same_eq h.2.1
/-! ### a body is parsed as it was written -/
theorem fromB_be8 (n : Nat) (h : n < 18446744073709551616) : fromB (be8 n) = n := by
  have e : be8 n = [be n 0, be n 1, be n 2, be n 3, be n 4, be n 5, be n 6, be n 7] := rfl
  have b : ∀ i, (be n i).toNat = n / 256 ^ (7 - i) % 256 := fun i => UInt8.toNat_ofNat_of_lt' (by show _ < 256; omega)
  rw [e]
  simp only [fromB, List.foldl_cons, List.foldl_nil, b]
  simp only [Nat.reducePow, Nat.reduceSub]
  omega
theorem take_app (l r : List UInt8) : take l.length (some (l ++ r)) = (l, some r) := by
  rw [take_ok (by simp)]; simp
theorem nextB_cons (c : UInt8) (r : List UInt8) : nextB (some (c :: r)) = (c.toNat, some r) := by
  unfold nextB
  rw [take_ok (by simp)]; simp
theorem text_app (s : ByteArray) (r : List UInt8) (h : s.size < 256) : textS (some (len1 s :: (s.data.toList ++ r))) = (s.data.toList, some r) := by
  unfold textS
  rw [nextB_cons]
  simp only
  rw [Bld.len1_nat, Nat.mod_eq_of_lt h, ← len_data]
  exact take_app _ _
theorem num_app (n : Nat) (r : List UInt8) (h : n ≤ 1099511627776) : numS (some (be8 n ++ r)) = (n, some r) := by
  unfold numS
  have := take_app (be8 n) r
  rw [be8_len] at this
  rw [this]
  simp only
  rw [fromB_be8 n (by omega), if_pos h]
theorem dig_app (d r : List UInt8) (h : d.length = 32) : take 32 (some (d ++ r)) = (d, some r) := by
  have := take_app d r
  rw [h] at this
  exact this
theorem ba_self (s : ByteArray) : (⟨s.data.toList.toArray⟩ : ByteArray) = s := by simp
theorem parsed_body (x : S) (hx : x.dig.length = 32) (hg : good x = true) : parsed (body x) = (x, some []) := by
  obtain ⟨hk, hnm, ht, hs0, hs1, ha0, ha1⟩ := good_bounds hg
  have hkb := kind_byte hk
  have ho := good_only hg
  have hkn : (((UInt8.ofNat x.k.toNat).toNat : Nat) : Int) = x.k := by rw [← hkb.1, hkb.2]
  have hd0 : x.dig ≠ [] := by intro e; rw [e] at hx; cases hx
  have hsz : ((x.size.toNat : Nat) : Int) = x.size := Int.toNat_of_nonneg hs0
  have hat : ((x.at_.toNat : Nat) : Int) = x.at_ := Int.toNat_of_nonneg ha0
  have hst : x.size.toNat ≤ 1099511627776 := by omega
  have hattn : x.at_.toNat ≤ 1099511627776 := by omega
  have hdig := fun r => dig_app x.dig r hx
  have htyp := fun r => text_app x.typ r (by omega)
  have hnum := fun r => num_app x.size.toNat r hst
  have hnat := fun r => num_app x.at_.toNat r hattn
  have hnat0 := hnat []
  have hnum0 := hnum []
  have hdig0 := hdig []
  rw [List.append_nil] at hnat0 hnum0 hdig0
  have hfst : ∀ t, parsed (UInt8.ofNat x.k.toNat :: t) = parseF (flds x.k) ({ S.none with k := x.k }, some t) := by
    intro t
    unfold parsed first
    rw [nextB_cons]
    simp only
    rw [hkn]
  unfold body
  rcases flds_known hk with e | e | e | e | e
  · have hr := fun r => text_app x.repo r (by have := (hnm (by rw [e])).1; omega)
    have hg := fun r => text_app x.tag r (by have := (hnm (by rw [e])).2; omega)
    rw [e] at ho
    rw [e]
    simp only [if_true, List.cons_append, List.append_assoc, List.nil_append]
    rw [hfst, e]
    simp only [parseF, pNames, pDig, pThing, pAt, if_true, hr, hg, hdig, htyp, hnum, hnat, hnat0, if_neg hd0, ba_self, hsz, hat]
  · have hr := fun r => text_app x.repo r (by have := (hnm (by rw [e])).1; omega)
    have hg := fun r => text_app x.tag r (by have := (hnm (by rw [e])).2; omega)
    rw [e] at ho
    rw [e]
    simp only [if_true, Bool.false_eq_true, if_false, List.cons_append, List.append_assoc, List.nil_append, List.append_nil]
    rw [hfst, e]
    simp only [parseF, pNames, pAt, if_true, Bool.false_eq_true, if_false, hr, hg, hnat, hnat0, ba_self, hat]
    rw [ho]; rfl
  · have hr := fun r => text_app x.repo r (by have := (hnm (by rw [e])).1; omega)
    have hg := text_app x.tag [] (by have := (hnm (by rw [e])).2; omega)
    rw [List.append_nil] at hg
    rw [e] at ho
    rw [e]
    simp only [if_true, Bool.false_eq_true, if_false, List.cons_append, List.append_assoc, List.nil_append, List.append_nil]
    rw [hfst, e]
    simp only [parseF, pNames, if_true, Bool.false_eq_true, if_false, hr, hg, ba_self]
    rw [ho]; rfl
  · rw [e] at ho
    rw [e]
    simp only [if_true, Bool.false_eq_true, if_false, List.cons_append, List.append_assoc, List.nil_append, List.append_nil]
    rw [hfst, e]
    simp only [parseF, pDig, pThing, if_true, Bool.false_eq_true, if_false, hdig, htyp, hnum0, if_neg hd0, ba_self, hsz]
    rw [ho]; rfl
  · rw [e] at ho
    rw [e]
    simp only [if_true, Bool.false_eq_true, if_false, List.cons_append, List.append_assoc, List.nil_append, List.append_nil]
    rw [hfst, e]
    simp only [parseF, pDig, if_true, Bool.false_eq_true, if_false, hdig0, if_neg hd0]
    rw [ho]; rfl
theorem parse_body (x : S) (hx : x.dig.length = 32) (hg : good x = true) : parse (body x) = some x := by
  unfold parse
  rw [parsed_body x hx hg]
  simp [hg]
theorem body_len (x : S) (hx : x.dig.length = 32) (hg : good x = true) : 1 ≤ (body x).length ∧ (body x).length ≤ 1024 := by
  obtain ⟨hk, hnm, ht, -, -, -, -⟩ := good_bounds hg
  unfold body
  rcases flds_known hk with e | e | e | e | e <;> rw [e] at hnm ⊢ <;> simp [be8_len, hx, len_data] at * <;> omega
theorem parse_dig {l : List UInt8} {x : S} (h : parse l = some x) : x.dig.length = 32 ∧ good x = true := by
  have hp : (parsed l).1.dig.length = 32 := by
    have h0 : (first l).1.dig.length = 32 := none_dig
    unfold parsed
    generalize first l = p at *
    generalize flds _ = f
    unfold parseF
    simp only
    have hN : (if f.names = true then pNames p else p).1.dig.length = 32 := by split <;> exact h0
    generalize (if f.names = true then pNames p else p) = p1 at *
    have hD : (if f.digest = true then pDig p1 else p1).1.dig.length = 32 := by
      split
      · exact pDig_len _ hN
      · exact hN
    generalize (if f.digest = true then pDig p1 else p1) = p2 at *
    have hT : (if f.thing = true then pThing p2 else p2).1.dig.length = 32 := by split <;> exact hD
    generalize (if f.thing = true then pThing p2 else p2) = p3 at *
    split <;> exact hT
  unfold parse at h
  split at h
  · rename_i hc
    injection h with h
    rw [← h]
    exact ⟨hp, hc.2⟩
  · cases h
/-! ### records -/
def hd (l : List UInt8) : Nat := (l.getD 0 0).toNat * 256 + (l.getD 1 0).toNat
def readP (l : List UInt8) : S × Nat × Nat :=
  if l.length < 6 then (S.none, 0, 17) else
  if hd l = 0 ∨ 1024 < hd l then (S.none, 0, 3) else
  if l.length < 6 + hd l then (S.none, 0, 17) else
  if frame ((l.drop 6).take (hd l)) ≠ l.take (6 + hd l) then (S.none, 0, 5) else
  match parse ((l.drop 6).take (hd l)) with
  | none => (S.none, 0, 3)
  | some x => (x, 6 + hd l, 0)
theorem readP_ok {l : List UInt8} (h : (readP l).2.2 = 0) : (readP l).1.dig.length = 32 ∧ good (readP l).1 = true ∧ 7 ≤ (readP l).2.1 ∧ (readP l).2.1 ≤ l.length := by
  unfold readP at h ⊢
  split at h
  · cases h
  split at h
  · cases h
  split at h
  · cases h
  split at h
  · cases h
  rename_i h1 h2 h3 h4
  rw [if_neg h1, if_neg h2, if_neg h3, if_neg h4]
  cases hp : parse ((l.drop 6).take (hd l)) with
  | none => rw [hp] at h; cases h
  | some x => exact ⟨(parse_dig hp).1, (parse_dig hp).2, by simp only; omega, by simp only; omega⟩
theorem readP_dig (l : List UInt8) : (readP l).1.dig.length = 32 := by
  unfold readP
  split
  · exact none_dig
  split
  · exact none_dig
  split
  · exact none_dig
  split
  · exact none_dig
  cases hp : parse ((l.drop 6).take (hd l)) with
  | none => exact none_dig
  | some x => exact (parse_dig hp).1
def allF : Nat → List UInt8 → List S × Nat
  | 0, _ => ([], 0)
  | f + 1, l => if (readP l).2.2 = 0 then ((readP l).1 :: (allF f (l.drop (readP l).2.1)).1, (readP l).2.1 + (allF f (l.drop (readP l).2.1)).2) else ([], 0)
theorem allF_more (f : Nat) (l : List UInt8) (h : l.length < f) : allF (f + 1) l = allF f l := by
  induction f generalizing l with
  | zero => omega
  | succ f ih =>
    unfold allF
    split
    · rename_i h0
      have := (readP_ok h0).2.2
      rw [ih _ (by rw [List.length_drop]; omega)]
    · rfl
theorem allF_eq (f g : Nat) (l : List UInt8) (h : l.length < f) (hg : f ≤ g) : allF g l = allF f l := by
  obtain ⟨d, rfl⟩ : ∃ d, g = f + d := ⟨g - f, by omega⟩
  induction d with
  | zero => rfl
  | succ d ih => rw [← Nat.add_assoc, allF_more (f + d) l (by omega), ih (by omega)]
def allP (l : List UInt8) : List S × Nat := allF (l.length + 1) l
theorem allP_ok {l : List UInt8} (h : (readP l).2.2 = 0) : allP l = ((readP l).1 :: (allP (l.drop (readP l).2.1)).1, (readP l).2.1 + (allP (l.drop (readP l).2.1)).2) := by
  have := (readP_ok h).2.2
  unfold allP
  rw [allF, if_pos h, allF_eq ((l.drop (readP l).2.1).length + 1) l.length _ (by omega) (by rw [List.length_drop]; omega)]
theorem allP_end {l : List UInt8} (h : (readP l).2.2 ≠ 0) : allP l = ([], 0) := by
  unfold allP
  rw [allF, if_neg h]
/-- so far read: these slips, so many bytes -/
def Got (l : List UInt8) (xs : List S) (k : Nat) : Prop := k ≤ l.length ∧ allP l = (xs ++ (allP (l.drop k)).1, k + (allP (l.drop k)).2)
theorem Got.zero (l : List UInt8) : Got l [] 0 := ⟨Nat.zero_le _, by simp⟩
theorem Got.next {l : List UInt8} {xs : List S} {k : Nat} (h : Got l xs k) (h0 : (readP (l.drop k)).2.2 = 0) : Got l (xs ++ [(readP (l.drop k)).1]) (k + (readP (l.drop k)).2.1) := by
  have h1 := (readP_ok h0).2.2
  rw [List.length_drop] at h1
  refine ⟨by have := h.1; omega, ?_⟩
  rw [h.2, allP_ok h0, List.drop_drop]
  simp [Nat.add_assoc]
theorem Got.done {l : List UInt8} {xs : List S} {k : Nat} (h : Got l xs k) (h0 : (readP (l.drop k)).2.2 ≠ 0) : allP l = (xs, k) := by
  rw [h.2, allP_end h0]; simp
end Slp
end Go.Proofs.YtbeghdoffiidoaaDoor

/- Records cut off, and records with a burst, as plain Lean. -/
import Derived.Test.YtbeghdoffiidoaaDoorSlipLaws
set_option linter.unusedSimpArgs false
set_option linter.unusedVariables false
set_option linter.unusedSectionVars false
namespace Go.Proofs.YtbeghdoffiidoaaDoor
open Go.RowKit
namespace Slp
open CrcP (more tail le)
theorem frame_len (b : List UInt8) : (frame b).length = 6 + b.length := by simp [frame, headB, CrcP.tail_length]; omega
theorem hd_headB (n : Nat) (h : n < 65536) (t : List UInt8) : hd (headB n ++ t) = n := by
  have a : (UInt8.ofNat (n / 256 % 256)).toNat = n / 256 % 256 := UInt8.toNat_ofNat_of_lt' (by show _ < 256; omega)
  have b : (UInt8.ofNat (n % 256)).toNat = n % 256 := UInt8.toNat_ofNat_of_lt' (by show _ < 256; omega)
  simp [hd, headB, a, b]
  omega
theorem hd_take {l : List UInt8} {k : Nat} (h : 2 ≤ k) : hd (l.take k) = hd l := by
  unfold hd
  rw [List.getD_eq_getElem?_getD, List.getD_eq_getElem?_getD, List.getD_eq_getElem?_getD, List.getD_eq_getElem?_getD, List.getElem?_take_of_lt (by omega), List.getElem?_take_of_lt (by omega)]
/-- what stands in a record: head, sum, body -/
def rec3 (n : Nat) (t b : List UInt8) : List UInt8 := headB n ++ t ++ b
theorem frame_rec (b : List UInt8) : frame b = rec3 b.length (tail (more 0 (headB b.length ++ b))) b := rfl
theorem rec_drop (n : Nat) (t b r : List UInt8) (ht : t.length = 4) : (rec3 n t b ++ r).drop 6 = b ++ r := by
  unfold rec3
  rw [List.append_assoc, List.drop_append_of_le_length (by simp [headB, ht])]
  rw [List.drop_of_length_le (by simp [headB, ht])]
  rfl
theorem rec_take (n : Nat) (t b r : List UInt8) (ht : t.length = 4) : (rec3 n t b ++ r).take (6 + b.length) = rec3 n t b := by
  rw [List.take_append_of_le_length (by simp [rec3, headB, ht]; omega), List.take_of_length_le (by simp [rec3, headB, ht]; omega)]
theorem readP_rec (n : Nat) (t b r : List UInt8) (ht : t.length = 4) (hn : b.length = n) (h1 : 1 ≤ n) (h2 : n ≤ 1024) :
    readP (rec3 n t b ++ r) = if frame b ≠ rec3 n t b then (S.none, 0, 5) else match parse b with | none => (S.none, 0, 3) | some x => (x, 6 + n, 0) := by
  have hh : hd (rec3 n t b ++ r) = n := by
    unfold rec3
    rw [List.append_assoc, List.append_assoc]
    exact hd_headB n (by omega) _
  have hl : (rec3 n t b ++ r).length = 6 + n + r.length := by simp [rec3, headB, ht, hn]; omega
  have e1 := rec_drop n t b r ht
  have e2 := rec_take n t b r ht
  rw [hn] at e2
  unfold readP
  rw [hh, hl, if_neg (by omega), if_neg (by omega), if_neg (by omega), e1, e2, ← hn, List.take_left]
  rfl
theorem readP_frame (x : S) (hx : x.dig.length = 32) (hg : good x = true) (r : List UInt8) : readP (frame (body x) ++ r) = (x, (frame (body x)).length, 0) := by
  have hb := body_len x hx hg
  rw [frame_len, frame_rec, readP_rec _ _ _ _ (CrcP.tail_length _) rfl hb.1 hb.2, if_neg (by rw [frame_rec]; simp), parse_body x hx hg]
theorem frame_inj {a b : List UInt8} (h : frame a = frame b) : a = b := by
  have h1 := rec_drop a.length (tail (more 0 (headB a.length ++ a))) a [] (CrcP.tail_length _)
  have h2 := rec_drop b.length (tail (more 0 (headB b.length ++ b))) b [] (CrcP.tail_length _)
  rw [List.append_nil, List.append_nil, ← frame_rec] at h1 h2
  rw [← h1, ← h2, h]
theorem body_inj {x y : S} (hx : x.dig.length = 32) (hy : y.dig.length = 32) (gx : good x = true) (gy : good y = true) (h : body x = body y) : x = y := by
  have h1 := parse_body x hx gx
  rw [h, parse_body y hy gy] at h1
  injection h1 with h1
  exact h1.symm
theorem readP_torn (b : List UInt8) (k : Nat) (h1 : 1 ≤ b.length) (h2 : b.length ≤ 1024) (hk : k < 6 + b.length) : (readP ((frame b).take k)).2.2 ≠ 0 := by
  have hl : ((frame b).take k).length = k := by rw [List.length_take, frame_len]; omega
  unfold readP
  rw [hl]
  by_cases h6 : k < 6
  · rw [if_pos h6]; decide
  · have hh : hd ((frame b).take k) = b.length := by
      rw [hd_take (by omega), frame_rec]
      unfold rec3
      rw [List.append_assoc]
      exact hd_headB _ (by omega) _
    rw [hh, if_neg h6, if_neg (by omega), if_pos hk]
    decide
theorem tail_inj {m n : Nat} (hm : m < 4294967296) (hn : n < 4294967296) (h : tail m = tail n) : m = n := by
  rw [← CrcP.le_tail hm, ← CrcP.le_tail hn, h]
theorem readP_burst (b c r : List UInt8) (hl : c.length = b.length) (h1 : 1 ≤ b.length) (h2 : b.length ≤ 1024) (hne : more 0 (headB b.length ++ c) ≠ more 0 (headB b.length ++ b)) :
    (readP (rec3 b.length (tail (more 0 (headB b.length ++ b))) c ++ r)).2.2 ≠ 0 := by
  rw [readP_rec _ _ _ _ (CrcP.tail_length _) hl h1 h2, if_pos]
  · decide
  · intro e
    rw [frame_rec, hl] at e
    unfold rec3 at e
    have e2 := List.append_cancel_left (List.append_cancel_right e)
    exact hne (tail_inj (CrcP.more_lt _ _) (CrcP.more_lt _ _) e2)
/-- records one behind the other -/
def frames (xs : List S) : List UInt8 := (xs.map (fun x => frame (body x))).flatten
theorem frames_cons (x : S) (xs : List S) : frames (x :: xs) = frame (body x) ++ frames xs := by simp [frames]
theorem frames_nil : frames [] = [] := rfl
theorem frames_snoc (xs : List S) (x : S) : frames (xs ++ [x]) = frames xs ++ frame (body x) := by simp [frames]
theorem frames_append (xs ys : List S) : frames (xs ++ ys) = frames xs ++ frames ys := by simp [frames]
def Fit (xs : List S) : Prop := ∀ x ∈ xs, x.dig.length = 32 ∧ good x = true
theorem allP_frames (xs : List S) (h : Fit xs) (r : List UInt8) : allP (frames xs ++ r) = (xs ++ (allP r).1, (frames xs).length + (allP r).2) := by
  induction xs with
  | nil => simp [frames]
  | cons x xs ih =>
    have hx := h x (List.mem_cons_self ..)
    have ih := ih (fun y hy => h y (List.mem_cons_of_mem _ hy))
    have e : frames (x :: xs) ++ r = frame (body x) ++ (frames xs ++ r) := by simp [frames]
    have hr := readP_frame x hx.1 hx.2 (frames xs ++ r)
    rw [e, allP_ok (by rw [hr]), hr]
    simp only
    rw [List.drop_left, ih]
    simp [frames, Nat.add_assoc]
theorem allP_nil : allP [] = ([], 0) := allP_end (by decide)
theorem allP_whole (xs : List S) (h : Fit xs) : allP (frames xs) = (xs, (frames xs).length) := by
  have := allP_frames xs h []
  rw [List.append_nil, allP_nil] at this
  simpa using this
/-- cut off at k behind just so many whole records -/
theorem allP_cut (xs : List S) (h : Fit xs) (k i : Nat) (hk : k ≤ (frames xs).length) (hi : i ≤ xs.length) (h1 : (frames (xs.take i)).length ≤ k) (h2 : i < xs.length → k < (frames (xs.take (i + 1))).length) :
    allP ((frames xs).take k) = (xs.take i, (frames (xs.take i)).length) := by
  have hF : Fit (xs.take i) := fun y hy => h y (List.mem_of_mem_take hy)
  have e : frames xs = frames (xs.take i) ++ frames (xs.drop i) := by rw [← frames_append, List.take_append_drop]
  have hend : (readP ((frames (xs.drop i)).take (k - (frames (xs.take i)).length))).2.2 ≠ 0 := by
    by_cases hlt : i < xs.length
    · have hd : xs.drop i = xs[i] :: xs.drop (i + 1) := List.drop_eq_getElem_cons hlt
      have hx := h xs[i] (List.getElem_mem hlt)
      have hb := body_len _ hx.1 hx.2
      have h2 := h2 hlt
      rw [List.take_succ_eq_append_getElem hlt, frames_snoc, List.length_append, frame_len] at h2
      have e2 : frames (xs.drop i) = frame (body xs[i]) ++ frames (xs.drop (i + 1)) := by rw [hd, frames_cons]
      rw [e2, List.take_append_of_le_length (by rw [frame_len]; omega)]
      exact readP_torn _ _ hb.1 hb.2 (by omega)
    · have : xs.drop i = [] := List.drop_of_length_le (by omega)
      rw [this]
      simp [frames]
      decide
  rw [e, List.take_append, List.take_of_length_le h1, allP_frames _ hF, allP_end hend]
  simp
end Slp
end Go.Proofs.YtbeghdoffiidoaaDoor

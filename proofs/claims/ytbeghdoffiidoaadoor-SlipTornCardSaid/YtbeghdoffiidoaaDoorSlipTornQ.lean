/- A burst of four bytes in a body, as plain Lean; the places at which records end; rows of numbers. -/
import Derived.Test.YtbeghdoffiidoaaDoorSlipBack
import Derived.Lib.ConvBytes
import Derived.Maps.AppendAt
set_option linter.unusedSimpArgs false
set_option linter.unusedVariables false
set_option linter.unusedSectionVars false
namespace Go.Proofs.YtbeghdoffiidoaaDoor
open Go.RowKit
namespace Slp
open CrcP (more tail le split_xor)
theorem byte_split (u v : Nat) (hu : u < 256) : u + 256 * v = 2 ^ 8 * v ^^^ u := by
  have h1 := split_xor 8 (u + 256 * v)
  have e1 : (u + 256 * v) / 2 ^ 8 = v := by omega
  have e2 : (u + 256 * v) % 2 ^ 8 = u := by omega
  rw [e1, e2] at h1
  exact h1
theorem shl_xor (k a b : Nat) : 2 ^ k * (a ^^^ b) = 2 ^ k * a ^^^ 2 ^ k * b := by
  have := Nat.shiftLeft_xor_distrib (a := a) (b := b) (i := k)
  simpa [Nat.shiftLeft_eq, Nat.mul_comm] using this
theorem le_set (l : List UInt8) (p : Nat) (x : UInt8) (h : p < l.length) : le (l.set p (l[p] ^^^ x)) = le l ^^^ 2 ^ (8 * p) * x.toNat := by
  induction l generalizing p with
  | nil => simp at h
  | cons c l ih =>
    cases p with
    | zero =>
      simp only [List.set_cons_zero, List.getElem_cons_zero, le, UInt8.toNat_xor, Nat.mul_zero, Nat.pow_zero, Nat.one_mul]
      rw [byte_split _ _ (Nat.xor_lt_two_pow (n := 8) c.toNat_lt x.toNat_lt), byte_split _ _ c.toNat_lt, Nat.xor_assoc]
    | succ p =>
      have h' : p < l.length := by simpa using h
      simp only [List.set_cons_succ, List.getElem_cons_succ, le]
      rw [ih p h', byte_split _ _ c.toNat_lt, byte_split _ _ c.toNat_lt, shl_xor]
      rw [show 8 * (p + 1) = 8 + 8 * p from by omega, Nat.pow_add, Nat.mul_assoc, Nat.xor_assoc, Nat.xor_comm _ c.toNat, ← Nat.xor_assoc]
theorem mod_next (B k : Nat) : B % 2 ^ (8 * (k + 1)) = B % 2 ^ (8 * k) ^^^ 2 ^ (8 * k) * (B / 2 ^ (8 * k) % 256) := by
  have h := split_xor (8 * k) (B % 2 ^ (8 * (k + 1)))
  have e : 2 ^ (8 * (k + 1)) = 2 ^ (8 * k) * 256 := by rw [show 8 * (k + 1) = 8 * k + 8 from by omega, Nat.pow_add]
  rw [e, Nat.mod_mul_right_div_self, Nat.mod_mul_right_mod] at h
  rw [e, h, Nat.xor_comm]
theorem le_cons_xor (x : UInt8) (b c : List UInt8) : le (x :: b) ^^^ le (x :: c) = 2 ^ 8 * (le b ^^^ le c) := by
  simp only [le]
  rw [byte_split _ _ x.toNat_lt, byte_split _ _ x.toNat_lt, shl_xor]
  generalize 2 ^ 8 * le b = B
  generalize 2 ^ 8 * le c = C
  apply Nat.eq_of_testBit_eq
  intro i
  simp only [Nat.testBit_xor]
  generalize B.testBit i = p
  generalize C.testBit i = q
  generalize x.toNat.testBit i = r
  cases p <;> cases q <;> cases r <;> rfl
/-- four bytes xored into a body at q -/
theorem burst_more (n : Nat) (b c : List UInt8) (q mask : Nat) (hl : c.length = b.length) (hq : q + 4 ≤ b.length) (hm : mask < 4294967296) (h0 : mask ≠ 0) (hx : le c = le b ^^^ 2 ^ (8 * q) * mask) :
    more 0 (headB n ++ c) ≠ more 0 (headB n ++ b) := by
  refine CrcP.tells (headB n ++ b) (headB n ++ c) (by simp [hl]) (16 + 8 * q) mask hm h0 (by simp [headB]; omega) ?_
  unfold headB
  simp only [List.cons_append, List.nil_append]
  rw [le_cons_xor, le_cons_xor, hx, ← Nat.xor_assoc, Nat.xor_self, Nat.zero_xor, ← Nat.mul_assoc, ← Nat.mul_assoc, ← Nat.pow_add, ← Nat.pow_add]
theorem body_len5 (x : S) (hx : x.dig.length = 32) (hg : good x = true) : 5 ≤ (body x).length := by
  obtain ⟨hk, hnm, -, -, -, -, -⟩ := good_bounds hg
  have hn : (flds x.k).names = true → 1 ≤ x.repo.size ∧ 1 ≤ x.tag.size := by
    intro h
    unfold good names128 at hg
    simp only [Bool.and_eq_true, Bool.or_eq_true, Bool.not_eq_true', decide_eq_true_eq] at hg
    rcases hg.2.2.1 with h' | h'
    · rw [h] at h'; cases h'
    · exact ⟨h'.1.1, h'.2.1⟩
  unfold body
  rcases flds_known hk with e | e | e | e | e <;> rw [e] at hn ⊢ <;> simp [be8_len, hx, len_data] at * <;> omega
def endsL (zs : List S) : List Nat := (List.range (zs.length + 1)).map fun i => (frames (zs.take i)).length
theorem endsL_len (zs : List S) : (endsL zs).length = zs.length + 1 := by simp [endsL]
theorem endsL_at (zs : List S) (i : Nat) (h : i ≤ zs.length) : (endsL zs)[i]? = some (frames (zs.take i)).length := by
  unfold endsL
  rw [List.getElem?_map, List.getElem?_range (by omega)]
  rfl
theorem endsL_snoc (zs : List S) (x : S) : endsL (zs ++ [x]) = endsL zs ++ [(frames (zs ++ [x])).length] := by
  unfold endsL
  rw [show (zs ++ [x]).length + 1 = (zs.length + 1) + 1 by simp, List.range_succ, List.map_append]
  congr 1
  · apply List.map_congr_left
    intro i hi
    have := List.mem_range.1 hi
    rw [List.take_append_of_le_length (by omega)]
  · simp only [List.map_cons, List.map_nil]
    rw [List.take_of_length_le (by simp)]
theorem frames_mono (zs : List S) (i j : Nat) (h : i ≤ j) : (frames (zs.take i)).length ≤ (frames (zs.take j)).length := by
  have e : zs.take i = (zs.take j).take i := by rw [List.take_take, Nat.min_eq_left h]
  rw [e]
  conv => rhs; rw [← List.take_append_drop i (zs.take j), frames_append, List.length_append]
  omega
/-! ### rows of numbers -/
def intV (n : Nat) : Value := .int .i64 (n : Int)
def Ints (B : Nat) (v : Value) (ns : List Nat) (w : World) : Prop := w.ownsRow B 3 1 v ns.length (ns.map intV)
theorem Ints.kept {B : Nat} {v : Value} {ns : List Nat} {w w' : World} {r : Option Nat} (h : Ints B v ns w) (hg : w.grownBy w' r) (hne : v.ownBlock = none ∨ v.ownBlock ≠ r) : Ints B v ns w' := World.ownsRow.kept h hg hne
theorem Ints.ext {B : Nat} {v : Value} {ns : List Nat} {w w' : World} (h : Ints B v ns w) (hx : Reg.Ext w w') : Ints B v ns w' :=
  h.kept (r := none) ⟨hx.os, hx.tape, hx.output, hx.size, fun i hi _ => hx.block i hi⟩ (by cases v.ownBlock <;> simp)
/-- two rows do not lie in one block -/
def Apart (v u : Value) : Prop := ∀ k, v.ownBlock = some k → u.ownBlock = some k → False
theorem Apart.symm {v u : Value} (h : Apart v u) : Apart u v := fun k h1 h2 => h k h2 h1
theorem Apart.ne {v u : Value} (h : Apart v u) : v.ownBlock = none ∨ v.ownBlock ≠ u.ownBlock := by
  cases hv : v.ownBlock with
  | none => exact .inl rfl
  | some k => exact .inr fun e => h k hv e.symm
theorem Apart.moved {v v' u : Value} {w : World} (h : Apart v u) (hat : v'.ownBlock = v.ownBlock ∨ v'.ownBlock = some w.heap.size) (hu : ∀ k, u.ownBlock = some k → k < w.heap.size) : Apart v' u := by
  intro k h1 h2
  rcases hat with e | e
  · rw [e] at h1; exact h k h1 h2
  · rw [e] at h1
    injection h1 with h1
    have := hu k h2
    omega
theorem Ints.at_ {B : Nat} {v : Value} {ns : List Nat} {w : World} (h : Ints B v ns w) (h0 : 0 < ns.length) : ∃ g c, v = .slice (some ⟨g, 0, none⟩) ns.length c ∧ ∀ (i n : Nat), ns[i]? = some n → w.cell? ⟨g, i, none⟩ = some (.int .i64 (n : Int)) := by
  rcases h.2 with ⟨rfl, h1⟩ | ⟨g, cap, cur, rfl, _⟩
  · omega
  · refine ⟨g, cap, rfl, fun i n hn => ?_⟩
    have := World.ownsRow.cells h (g := g) rfl i (intV n) (by rw [List.getElem?_map, hn]; rfl)
    rw [Addr.add_mid, Nat.zero_add] at this
    exact this
theorem Ints.new (w : World) (B : Nat) (hB : B ≤ w.heap.size) (n : Nat) : Ints B (.slice (some ⟨w.heap.size, 0, none⟩) 1 1) [n] (w.alloc (.cells #[.int .i64 (n : Int)] 3)) := by
  refine ⟨rfl, .inr ⟨w.heap.size, 1, #[.int .i64 (n : Int)], rfl, hB, heap_alloc_new w _, Nat.le_refl _, by decide, rfl, rfl⟩⟩
theorem intInfo_of : ∃ i, Tryd.prog.info? 3 = some i ∧ i.zero = some (.int .i64 0) ∧ i.size = 1 ∧ i.bytes = 8 ∧ (Value.int .i64 0).cells.size = 1 := by
  refine ⟨(Tryd.prog.info? 3).getD default, ?_, ?_, ?_, ?_, ?_⟩ <;> kernel_rfl
/-! ### bytes that may be written -/
structure WB (w : World) (g : Nat) (l : List UInt8) : Prop where
  cell : ∀ j (h : j < l.length), w.cell? ⟨g, j, none⟩ = some (byteV l[j])
  free : ∀ j, j < l.length → w.frozen? ⟨g, j, none⟩ = false
theorem WB.set {w : World} {g : Nat} {l : List UInt8} (h : WB w g l) (p : Nat) (c : UInt8) (hp : p < l.length) : WB (w.setCell ⟨g, p, none⟩ (byteV c)) g (l.set p c) := by
  refine ⟨fun j hj => ?_, fun j hj => by rw [World.frozen?_setCell]; exact h.free j (by simpa using hj)⟩
  have hj' : j < l.length := by simpa using hj
  by_cases hjp : p = j
  · subst hjp
    rw [World.cell?_setCell_same _ _ _ (h.cell p hp)]
    simp
  · rw [World.cell?_setCell_other _ _ _ _ (fun e => hjp (by injection e)), h.cell j hj']
    simp [List.getElem_set, hjp]
theorem WB.drewN {w : World} {g : Nat} {l : List UInt8} (h : WB w g l) (n : Nat) : WB (w.drewN n) g l := ⟨h.cell, h.free⟩
theorem WB.drew {w : World} {g : Nat} {l : List UInt8} (h : WB w g l) : WB w.drew g l := ⟨h.cell, h.free⟩
theorem WB.conv (w : World) (e : TypeId) (s : ByteArray) : WB (Lib.bytesWorld w e s) w.heap.size s.data.toList := by
  refine ⟨fun j hj => ?_, fun j hj => ?_⟩
  · have hj' : j < s.size := by rw [← len_data]; exact hj
    rw [Lib.bytesWorld_cell w e s j hj']
    rw [List.getD_eq_getElem?_getD, List.getElem?_eq_getElem hj]
    rfl
  · have hj' : j < s.size := by rw [← len_data]; exact hj
    have hc : s.size ≤ (Lib.bytesCells w e s).size := by
      simp [Lib.bytesCells]
    simp [World.frozen?, Lib.bytesWorld_at_new]
    omega
theorem conv_ext (w : World) (e : TypeId) (s : ByteArray) : Reg.Ext w (Lib.bytesWorld w e s) :=
  ⟨rfl, rfl, rfl, by rw [Lib.bytesWorld_size]; omega, fun k hk => Lib.bytesWorld_at_old w e s k hk⟩
/-- one round of the burst: byte q + k of the body behind pre -/
theorem burst_round (wr : World) (g : Nat) (pre c b : List UInt8) (q k B : Nat) (hp : q + k < c.length) (hb : WB wr g (pre ++ c)) (hle : le c = le b ^^^ 2 ^ (8 * q) * (B % 2 ^ (8 * k))) :
    ∃ (c3 c2 : Nat) (c' : List UInt8), wr.cell? ⟨g, pre.length + q + k, none⟩ = some (.int .u8 (c3 : Int)) ∧ wr.frozen? ⟨g, pre.length + q + k, none⟩ = false ∧
      Go.bits .xor .u8 (c3 : Int) ((B / 2 ^ (8 * k) % 256 : Nat) : Int) = (c2 : Int) ∧ WB (wr.setCell ⟨g, pre.length + q + k, none⟩ (.int .u8 (c2 : Int))) g (pre ++ c') ∧ c'.length = c.length ∧
      le c' = le b ^^^ 2 ^ (8 * q) * (B % 2 ^ (8 * (k + 1))) := by
  have hx : B / 2 ^ (8 * k) % 256 < 256 := Nat.mod_lt _ (by decide)
  have hx' : (UInt8.ofNat (B / 2 ^ (8 * k) % 256)).toNat = B / 2 ^ (8 * k) % 256 := by
    rw [UInt8.toNat_ofNat', Nat.mod_eq_of_lt hx]
  have hlt : pre.length + q + k < (pre ++ c).length := by rw [List.length_append]; omega
  have hge : (pre ++ c)[pre.length + q + k]'hlt = c[q + k] := by
    rw [List.getElem_append_right (by omega)]
    congr 1
    omega
  have hset : (pre ++ c).set (pre.length + q + k) (c[q + k] ^^^ UInt8.ofNat (B / 2 ^ (8 * k) % 256)) = pre ++ c.set (q + k) (c[q + k] ^^^ UInt8.ofNat (B / 2 ^ (8 * k) % 256)) := by
    rw [List.set_append_right _ _ (by omega), show pre.length + q + k - pre.length = q + k by omega]
  refine ⟨(c[q + k]).toNat, (c[q + k] ^^^ UInt8.ofNat (B / 2 ^ (8 * k) % 256)).toNat, c.set (q + k) (c[q + k] ^^^ UInt8.ofNat (B / 2 ^ (8 * k) % 256)), by rw [hb.cell _ hlt, hge]; rfl, hb.free _ hlt, ?_, by rw [← hset]; exact hb.set _ _ hlt, List.length_set, ?_⟩
  · rw [u8_xor_nat _ _ (c[q + k]).toNat_lt hx, UInt8.toNat_xor, hx']
  · rw [le_set c (q + k) _ hp, hle, mod_next B k, shl_xor, Nat.xor_assoc, hx', ← Nat.mul_assoc, ← Nat.pow_add, Nat.mul_add]
theorem Row.take_rd {B i g c : Nat} {xs : List S} {w : World} (h : Row B (.slice (some ⟨g, 0, none⟩) xs.length c) xs w) (hi : i ≤ xs.length) : RdS (.slice (some ⟨g, 0, none⟩) i c) (xs.take i) w := by
  obtain ⟨h1, p, c', h2, h3, h4⟩ := h.rd
  injection h2 with h2 _ h2'
  subst h2 h2'
  refine ⟨fun x hx => h1 x (List.mem_of_mem_take hx), some ⟨g, 0, none⟩, c, by rw [List.length_take, Nat.min_eq_left hi], by rw [List.length_take]; omega, fun j hj => ?_⟩
  have hjl : j < xs.length := by rw [List.length_take] at hj; omega
  obtain ⟨g', o, hp, hr⟩ := h4 j hjl
  refine ⟨g', o, hp, ?_⟩
  rw [List.getElem_take]
  exact hr
theorem Row.slice_of {B : Nat} {v : Value} {xs : List S} {w : World} (h : Row B v xs w) (h0 : 0 < xs.length) : ∃ g c, v = .slice (some ⟨g, 0, none⟩) xs.length c ∧ xs.length ≤ c ∧ c ≤ maxLen := by
  rcases h.1.2 with ⟨rfl, h1⟩ | ⟨g, cap, cur, rfl, _, _, hn, hm, _⟩
  · omega
  · exact ⟨g, cap, rfl, hn, hm⟩
end Slp
end Go.Proofs.YtbeghdoffiidoaaDoor

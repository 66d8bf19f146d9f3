/- SHA-256 on words of 32 bits: what the program's functions and the reference compute. No program in sight. -/
import Derived.Laws.BitsAllLaws
set_option linter.unusedSimpArgs false
set_option linter.unusedVariables false
set_option linter.unusedSectionVars false
namespace Go.Proofs.YthgbhpeidngjmaaDoor
namespace ShaP
abbrev W := BitVec 32

def keysL : List W := [
  0x428a2f98#32, 0x71374491#32, 0xb5c0fbcf#32, 0xe9b5dba5#32, 0x3956c25b#32, 0x59f111f1#32, 0x923f82a4#32, 0xab1c5ed5#32,
  0xd807aa98#32, 0x12835b01#32, 0x243185be#32, 0x550c7dc3#32, 0x72be5d74#32, 0x80deb1fe#32, 0x9bdc06a7#32, 0xc19bf174#32,
  0xe49b69c1#32, 0xefbe4786#32, 0x0fc19dc6#32, 0x240ca1cc#32, 0x2de92c6f#32, 0x4a7484aa#32, 0x5cb0a9dc#32, 0x76f988da#32,
  0x983e5152#32, 0xa831c66d#32, 0xb00327c8#32, 0xbf597fc7#32, 0xc6e00bf3#32, 0xd5a79147#32, 0x06ca6351#32, 0x14292967#32,
  0x27b70a85#32, 0x2e1b2138#32, 0x4d2c6dfc#32, 0x53380d13#32, 0x650a7354#32, 0x766a0abb#32, 0x81c2c92e#32, 0x92722c85#32,
  0xa2bfe8a1#32, 0xa81a664b#32, 0xc24b8b70#32, 0xc76c51a3#32, 0xd192e819#32, 0xd6990624#32, 0xf40e3585#32, 0x106aa070#32,
  0x19a4c116#32, 0x1e376c08#32, 0x2748774c#32, 0x34b0bcb5#32, 0x391c0cb3#32, 0x4ed8aa4a#32, 0x5b9cca4f#32, 0x682e6ff3#32,
  0x748f82ee#32, 0x78a5636f#32, 0x84c87814#32, 0x8cc70208#32, 0x90befffa#32, 0xa4506ceb#32, 0xbef9a3f7#32, 0xc67178f2#32]
def startL : List W := [0x6a09e667#32, 0xbb67ae85#32, 0x3c6ef372#32, 0xa54ff53a#32, 0x510e527f#32, 0x9b05688c#32, 0x1f83d9ab#32, 0x5be0cd19#32]

def rr (x : W) (n : Nat) : W := x >>> n ||| x <<< (32 - n)
def s0 (x : W) : W := rr x 7 ^^^ rr x 18 ^^^ x >>> 3
def s1 (y : W) : W := rr y 17 ^^^ rr y 19 ^^^ y >>> 10
def S1 (e : W) : W := rr e 6 ^^^ rr e 11 ^^^ rr e 25
def S0 (a : W) : W := rr a 2 ^^^ rr a 13 ^^^ rr a 22
def ch (e f g : W) : W := e &&& f ^^^ ~~~e &&& g
def maj (a b c : W) : W := a &&& b ^^^ a &&& c ^^^ b &&& c

/-- four bytes, the greatest first -/
def word (b : List UInt8) : W := b.foldl (fun (r : W) (c : UInt8) => r <<< 8 ||| BitVec.ofNat 32 c.toNat) 0#32
/-- the first sixteen numbers of a block -/
def first (b : List UInt8) : List W := (List.range 16).map fun t => word ((b.drop (4 * t)).take 4)
/-- one number more -/
def grow (w : List W) : List W :=
  let t := w.length
  w ++ [s1 (w.getD (t - 2) 0#32) + w.getD (t - 7) 0#32 + s0 (w.getD (t - 15) 0#32) + w.getD (t - 16) 0#32]
def growN : Nat → List W → List W
  | 0, w => w
  | n + 1, w => growN n (grow w)
def spread (b : List UInt8) : List W := growN 48 (first b)

structure S8 where
  a : W
  b : W
  c : W
  d : W
  e : W
  f : W
  g : W
  h : W

def round (s : S8) (k w : W) : S8 :=
  let t1 := s.h + S1 s.e + ch s.e s.f s.g + k + w
  let t2 := S0 s.a + maj s.a s.b s.c
  ⟨t1 + t2, s.a, s.b, s.c, s.d + t1, s.e, s.f, s.g⟩
def rounds (ws : List W) : Nat → S8 → S8
  | 0, s => s
  | n + 1, s => round (rounds ws n s) (keysL.getD n 0#32) (ws.getD n 0#32)
def S8.list (s : S8) : List W := [s.a, s.b, s.c, s.d, s.e, s.f, s.g, s.h]
def S8.add (s t : S8) : S8 := ⟨s.a + t.a, s.b + t.b, s.c + t.c, s.d + t.d, s.e + t.e, s.f + t.f, s.g + t.g, s.h + t.h⟩
def adds (k : Nat) (s v : S8) : S8 := ⟨if 0 < k then s.a + v.a else s.a, if 1 < k then s.b + v.b else s.b, if 2 < k then s.c + v.c else s.c, if 3 < k then s.d + v.d else s.d,
  if 4 < k then s.e + v.e else s.e, if 5 < k then s.f + v.f else s.f, if 6 < k then s.g + v.g else s.g, if 7 < k then s.h + v.h else s.h⟩
def turn (s : S8) (b : List UInt8) : S8 := s.add (rounds (spread b) 64 s)
def start : S8 := ⟨0x6a09e667#32, 0xbb67ae85#32, 0x3c6ef372#32, 0xa54ff53a#32, 0x510e527f#32, 0x9b05688c#32, 0x1f83d9ab#32, 0x5be0cd19#32⟩

/-- the state behind all whole blocks of a text -/
def states : Nat → List UInt8 → S8
  | 0, _ => start
  | n + 1, l => turn (states n l) ((l.drop (64 * n)).take 64)
def state (l : List UInt8) : S8 := states (l.length / 64) l
def be8 (n : Nat) : List UInt8 := (List.range 8).map fun i => UInt8.ofNat (n / 256 ^ (7 - i) % 256)
def zeros (n : Nat) : Nat := (119 - n % 64) % 64
def padding (n : Nat) : List UInt8 := 0x80 :: (List.replicate (zeros n) 0 ++ be8 (n * 8))
def padded (l : List UInt8) : List UInt8 := l ++ padding l.length
def bytesOf (x : W) : List UInt8 := [UInt8.ofNat (x.toNat / 16777216 % 256), UInt8.ofNat (x.toNat / 65536 % 256), UInt8.ofNat (x.toNat / 256 % 256), UInt8.ofNat (x.toNat % 256)]
def out (s : S8) : List UInt8 := s.list.flatMap bytesOf
def sum (l : List UInt8) : List UInt8 := out (state (padded l))

/-- the words of a block so far: t of them, of the next k bytes of four, zeros -/
def part (blk : List UInt8) (t k : Nat) : W := word ((blk.drop (4 * t)).take k)
def sofar (blk : List UInt8) (t : Nat) : List W := (first blk).take t ++ List.replicate (64 - t) 0#32
theorem word_snoc (l : List UInt8) (c : UInt8) : word (l ++ [c]) = word l <<< 8 ||| BitVec.ofNat 32 c.toNat := by simp [word]
theorem part_zero (blk : List UInt8) (t : Nat) : part blk t 0 = 0#32 := by simp [part, word]
theorem part_succ (blk : List UInt8) (t k : Nat) (h : 4 * t + k < blk.length) : part blk t (k + 1) = part blk t k <<< 8 ||| BitVec.ofNat 32 (blk[4 * t + k]).toNat := by
  unfold part
  rw [List.take_succ_eq_append_getElem (by rw [List.length_drop]; omega), word_snoc, List.getElem_drop]
theorem sofar_length (blk : List UInt8) (t : Nat) (h : t ≤ 16) : (sofar blk t).length = 64 := by simp [sofar, first]; omega
theorem sofar_set (blk : List UInt8) (t : Nat) (h : t < 16) : (sofar blk t).set t (part blk t 4) = sofar blk (t + 1) := by
  have hl : ((first blk).take t).length = t := by simp [first]; omega
  unfold sofar
  rw [List.set_append_right _ _ (by omega), hl, Nat.sub_self]
  have e1 : List.replicate (64 - t) (0#32 : W) = 0#32 :: List.replicate (64 - (t + 1)) 0#32 := by
    rw [show 64 - t = (64 - (t + 1)) + 1 from by omega, List.replicate_succ]
  rw [e1, List.set_cons_zero]
  have e2 : (first blk).take (t + 1) = (first blk).take t ++ [part blk t 4] := by
    rw [List.take_succ_eq_append_getElem (by rw [first, List.length_map, List.length_range]; omega)]
    congr 2
    simp [first, part]
  rw [e2, List.append_assoc]
  rfl
theorem sofar_get (blk : List UInt8) (t : Nat) (h : t < 16) : (sofar blk t)[t]'(by rw [sofar_length _ _ (by omega)]; omega) = 0#32 := by
  have hl : ((first blk).take t).length = t := by simp [first]; omega
  unfold sofar
  rw [List.getElem_append_right (by omega)]
  simp
/-! ### laws -/
theorem states_append (n : Nat) (l m : List UInt8) (h : 64 * n ≤ l.length) : states n (l ++ m) = states n l := by
  induction n with
  | zero => rfl
  | succ n ih =>
    simp only [states]
    rw [ih (by omega), List.drop_append_of_le_length (by omega), List.take_append_of_le_length (by rw [List.length_drop]; omega)]
theorem rounds_succ (ws : List W) (n : Nat) (s : S8) : rounds ws (n + 1) s = round (rounds ws n s) (keysL.getD n 0#32) (ws.getD n 0#32) := rfl
theorem growN_succ (n : Nat) (w : List W) : growN (n + 1) w = grow (growN n w) := by
  induction n generalizing w with
  | zero => rfl
  | succ n ih => rw [growN, ih]; rfl
theorem first_length (b : List UInt8) : (first b).length = 16 := by simp [first]
theorem growN_length (n : Nat) (w : List W) : (growN n w).length = w.length + n := by
  induction n generalizing w with
  | zero => rfl
  | succ n ih => rw [growN, ih]; simp [grow]; omega
theorem padded_length (l : List UInt8) : (padded l).length % 64 = 0 := by
  simp [padded, padding, be8, zeros]; omega
def full (blk : List UInt8) (t : Nat) : List W := growN (t - 16) (first blk) ++ List.replicate (64 - t) 0#32
theorem full_sixteen (blk : List UInt8) : full blk 16 = sofar blk 16 := by
  unfold full sofar
  rw [show growN (16 - 16) (first blk) = first blk from rfl, List.take_of_length_le (by rw [first_length]; omega)]
theorem gl (blk : List UInt8) (t : Nat) (h : 16 ≤ t) : (growN (t - 16) (first blk)).length = t := by rw [growN_length, first_length]; omega
theorem full_length (blk : List UInt8) (t : Nat) (h : 16 ≤ t) (h' : t ≤ 64) : (full blk t).length = 64 := by unfold full; rw [List.length_append, gl blk t h, List.length_replicate]; omega
theorem full_get (blk : List UInt8) (t j : Nat) (h : 16 ≤ t) (h' : t ≤ 64) (hj : j < t) : (full blk t)[j]? = some ((growN (t - 16) (first blk)).getD j 0#32) := by
  unfold full
  have hl := gl blk t h
  rw [List.getElem?_append_left (by omega), List.getElem?_eq_getElem (by omega)]
  simp [List.getD, show j < (growN (t - 16) (first blk)).length by omega]
theorem full_set (blk : List UInt8) (t : Nat) (h : 16 ≤ t) (h' : t < 64) :
    (full blk t).set t (s1 ((growN (t - 16) (first blk)).getD (t - 2) 0#32) + (growN (t - 16) (first blk)).getD (t - 7) 0#32 + s0 ((growN (t - 16) (first blk)).getD (t - 15) 0#32) + (growN (t - 16) (first blk)).getD (t - 16) 0#32) = full blk (t + 1) := by
  have hl := gl blk t h
  unfold full
  rw [List.set_append_right _ _ (by omega), hl, Nat.sub_self]
  rw [show 64 - t = (64 - (t + 1)) + 1 from by omega, List.replicate_succ, List.set_cons_zero]
  rw [show t + 1 - 16 = (t - 16) + 1 from by omega, growN_succ]
  generalize growN (t - 16) (first blk) = w at *
  unfold grow
  simp only [hl, List.append_assoc, List.cons_append, List.nil_append]
theorem full_end (blk : List UInt8) : full blk 64 = spread blk := by simp [full, spread]
end ShaP
end Go.Proofs.YthgbhpeidngjmaaDoor

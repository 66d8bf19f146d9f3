/- The walks of the package crc and of its reference: each function returns what CrcPlain says. -/
import Derived.Test.YtbeghdoffiidoaaDoorRows
import Derived.Test.YtbeghdoffiidoaaDoorReg
import Derived.Test.YtbeghdoffiidoaaDoorCrcPlain
import Derived.Test.YtbeghdoffiidoaaDoorWords
import Derived.WalkKit
import Derived.WalkSpells
import Derived.WalkLawsBesides
import Derived.BigQuiet
import Derived.Lib.Hide
import Derived.Laws.ShiftsVar
set_option linter.unusedSimpArgs false
set_option linter.unusedVariables false
set_option linter.unusedSectionVars false
namespace Go.Proofs.YtbeghdoffiidoaaDoor
open Go.RowKit
namespace Crc
open CrcP

theorem unary_not_u32 (n : Int) : Op.unary .xor (.int .u32 n) = Op.intBits .xor .u32 4294967295 n := rfl
attribute [local go_sem high] unary_not_u32

/-- the table lies in memory -/
def Tab (w : World) : Prop := ∀ i : Nat, i < 16 → w.cell? ⟨0, i, none⟩ = some (.int .u32 (nib i))

theorem u32_xor (a b : Nat) (ha : a < 4294967296) (hb : b < 4294967296) : Go.bits .xor .u32 (a : Int) (b : Int) = ((a ^^^ b : Nat) : Int) := u32_xor_nat a b ha hb

set_option maxHeartbeats 400000 in
theorem step_any (x b : Nat) (w : World) (hx : x < 4294967296) (hb : b < 256) (hT : Tab w) :
    Calls Tryd.prog 47 #[.int .u32 (x : Int), .int .u8 (b : Int)] w fun e w' => e = .returned (.int .u32 (CrcP.step x b : Nat)) ∧ w = w' := by
  have e1 := u32_xor x b hx (by omega)
  have hy : x ^^^ b < 4294967296 := xor_lt hx (by omega)
  have hs : CrcP.step x b = CrcP.half (CrcP.half (x ^^^ b)) := rfl
  have HS := Lib.hid hs
  clear hs
  generalize x ^^^ b = y at *
  have e2 : Go.bits .and .u32 (y : Int) 15 = ((y % 16 : Nat) : Int) := by
    have := u32_and_nat y 15 hy (by decide); rw [nat_mask4] at this; exact this
  have c1 := hT (y % 16) (by omega)
  have e3 : Go.bits .xor .u32 ((y : Int) / 16) (nib (y % 16) : Nat) = (CrcP.half y : Nat) := by
    have := u32_xor (y / 16) (nib (y % 16)) (by omega) (nib_lt _)
    simpa [CrcP.half] using this
  have hz := half_lt hy
  generalize hyz : CrcP.half y = z at *
  have HZ := Lib.hid hyz
  clear hyz
  have e4 : Go.bits .and .u32 (z : Int) 15 = ((z % 16 : Nat) : Int) := by
    have := u32_and_nat z 15 hz (by decide); rw [nat_mask4] at this; exact this
  have c2 := hT (z % 16) (by omega)
  have e5 : Go.bits .xor .u32 ((z : Int) / 16) (nib (z % 16) : Nat) = (CrcP.half z : Nat) := by
    have := u32_xor (z / 16) (nib (z % 16)) (by omega) (nib_lt _)
    simpa [CrcP.half] using this
  generalize hzz : CrcP.half z = z2 at *
  have HZ2 := Lib.hid hzz
  clear hzz
  generalize nib (y % 16) = n1 at *
  generalize nib (z % 16) = n2 at *
  clear hT
  go_enter Tryd.func47, Tryd.ntmps47
  go_wp2
  go_ret
  exact ⟨by rw [HS.out]; rfl, rfl⟩

theorem not_eq (x : Nat) (hx : x < 4294967296) : Go.bits .xor .u32 4294967295 (x : Int) = (flip x : Nat) := by
  have := u32_xor 4294967295 x (by decide) hx
  rw [flip_eq hx, Nat.xor_comm]
  exact this

set_option maxHeartbeats 400000 in
theorem more_any (x : Nat) (s : ByteArray) (w : World) (hx : x < 4294967296) (hs : s.size ≤ maxLen) (hT : Tab w) :
    Calls Tryd.prog 44 #[.int .u32 (x : Int), .string s] w fun e w' => e = .returned (.int .u32 (more x s.data.toList : Nat)) ∧ w = w' := by
  unfold maxLen at hs
  have HT := Lib.hid hT
  clear hT
  have e1 := not_eq x hx
  have hfl := flip_lt x
  generalize hf : flip x = f at *
  have HF := Lib.hid hf
  clear hf
  go_enter Tryd.func44, Tryd.ntmps44
  go_wp2
  go_loop [5, 6, 11] (fun v _ i => ∃ k : Nat, k ≤ s.size ∧ i = .int .i64 k ∧ v = .int .u32 (run f (s.data.toList.take k) : Nat)) (fun _ _ i => s.size - (intOf i).toNat)
  case atStart => exact ⟨0, Nat.zero_le _, rfl, rfl⟩
  case round =>
    obtain ⟨k, hk, rfl, rfl⟩ := hrel
    have hlt := run_lt (s.data.toList.take k) hfl
    by_cases hks : k < s.size
    · have hsn : run f (s.data.toList.take (k + 1)) = CrcP.step (run f (s.data.toList.take k)) (s[k]).toNat := by
        rw [List.take_succ_eq_append_getElem (by simpa using hks), run_snoc]; rfl
      have HS := Lib.hid hsn
      clear hsn
      have hb := (s[k]).toNat_lt
      generalize run f (s.data.toList.take k) = r at *
      go_wp2_with (go_at_call 47; refine (step_any _ _ _ hlt hb HT.out).mono ?_; rintro e w' ⟨rfl, rfl⟩)
      go_round
      case rel => exact ⟨k + 1, by omega, by go_num, by rw [HS.out]⟩
      case measure => simp [intOf]; omega
    · have hke : k = s.size := by omega
      have e2 := not_eq _ hlt
      have hall : s.data.toList.take k = s.data.toList := List.take_of_length_le (by simp; omega)
      rw [hall] at e2
      have hm : more x s.data.toList = flip (run f s.data.toList) := by rw [← HF.out]; rfl
      have HM := Lib.hid hm
      have HA := Lib.hid hall
      clear hm
      rw [hall]
      clear hall hlt
      generalize run f s.data.toList = r at *
      go_wp2
      go_ret
      exact ⟨by rw [HM.out]; rfl, rfl⟩

set_option maxHeartbeats 400000 in
theorem moreR_any (x : Nat) (s : ByteArray) (w : World) (hx : x < 4294967296) (hs : s.size ≤ maxLen) :
    Calls Tryd.prog 29 #[.int .u32 (x : Int), .string s] w fun e w' => e = .returned (.int .u32 (moreR x s.data.toList : Nat)) ∧ w = w' := by
  unfold maxLen at hs
  have e1 := not_eq x hx
  have hfl := flip_lt x
  generalize hf : flip x = f at *
  have HF := Lib.hid hf
  clear hf
  have h0 : runR f (s.data.toList.take 0) < 4294967296 := hfl
  go_enter Tryd.func29, Tryd.ntmps29
  go_wp2
  go_loop [5, 6, 7] (fun v i _ => ∃ k : Nat, k ≤ s.size ∧ i = .int .i64 k ∧ v = .int .u32 (runR f (s.data.toList.take k) : Nat)) (fun _ i _ => s.size - (intOf i).toNat)
  case atStart => exact ⟨0, Nat.zero_le _, rfl, rfl⟩
  case round =>
    obtain ⟨k, hk, rfl, rfl⟩ := hrel
    have hlt : runR f (s.data.toList.take k) < 4294967296 := by rw [← run_runR]; exact run_lt _ hfl
    by_cases hks : k < s.size
    · have hsn : runR f (s.data.toList.take (k + 1)) = CrcP.bits 8 (runR f (s.data.toList.take k) ^^^ (s[k]).toNat) := by
        rw [List.take_succ_eq_append_getElem (by simpa using hks), runR_snoc]; rfl
      have HS := Lib.hid hsn
      clear hsn
      have hb := (s[k]).toNat_lt
      generalize runR f (s.data.toList.take k) = r at *
      have e2 := u32_xor r (s[k]).toNat hlt (by omega)
      have hy : r ^^^ (s[k]).toNat < 4294967296 := xor_lt hlt (by omega)
      generalize r ^^^ (s[k]).toNat = y at *
      go_wp2
      go_loop [5, 7] (fun v i => ∃ j : Nat, j ≤ 8 ∧ i = .int .i64 j ∧ v = .int .u32 (CrcP.bits j y : Nat)) (fun _ i => 8 - (intOf i).toNat)
      case atStart => exact ⟨0, by omega, rfl, rfl⟩
      case round =>
        obtain ⟨j, hj, rfl, rfl⟩ := hrel
        by_cases hj8 : j < 8
        · have hs1 : CrcP.bits (j + 1) y = bit (CrcP.bits j y) := by rw [bits_add]; rfl
          have hlj := bits_lt j hy
          have HS1 := Lib.hid hs1
          clear hs1
          generalize CrcP.bits j y = u at *
          have e3 : Go.bits .and .u32 (u : Int) 1 = ((u % 2 : Nat) : Int) := by
            have := u32_and_nat u 1 hlj (by decide); rw [nat_mask1] at this; exact this
          have e4 : Go.bits .xor .u32 ((u : Int) / 2) 3988292384 = ((u / 2 ^^^ poly : Nat) : Int) := by
            have := u32_xor (u / 2) poly (by omega) (by decide)
            simpa [show poly = 3988292384 from rfl] using this
          have hb1 : bit u = if u % 2 = 1 then u / 2 ^^^ poly else u / 2 := rfl
          have HB := Lib.hid hb1
          clear hb1
          by_cases hu : u % 2 = 1
          · have t1 : (((u % 2 : Nat) : Int) == 1) = true := by rw [hu]; rfl
            have HU := Lib.hid hu
            clear hu
            generalize u / 2 ^^^ poly = p1 at *
            go_wp2
            go_round
            case rel => exact ⟨j + 1, by omega, by go_num, by rw [HS1.out, HB.out, if_pos HU.out]⟩
            case measure => simp [intOf]; omega
          · have t1 : (((u % 2 : Nat) : Int) == 1) = false := by
              have : u % 2 = 0 := by omega
              rw [this]; rfl
            have HU := Lib.hid hu
            clear hu
            generalize u / 2 ^^^ poly = p1 at *
            go_wp2
            go_round
            case rel => exact ⟨j + 1, by omega, by go_num, by rw [HS1.out, HB.out, if_neg HU.out]; rfl⟩
            case measure => simp [intOf]; omega
        · have hj9 : j = 8 := by omega
          subst hj9
          have e8 := HS.out
          generalize CrcP.bits 8 y = u at *
          have HS2 := Lib.hid e8
          clear e8 HS
          go_wp2
          go_round
          case rel => exact ⟨k + 1, by omega, by go_num, by rw [HS2.out]⟩
          case measure => simp [intOf]; omega
    · have hke : k = s.size := by omega
      have e2 := not_eq _ hlt
      have hall : s.data.toList.take k = s.data.toList := List.take_of_length_le (by simp; omega)
      rw [hall] at e2
      have hm : moreR x s.data.toList = flip (runR f s.data.toList) := by rw [← HF.out]; rfl
      have HM := Lib.hid hm
      have HA := Lib.hid hall
      clear hm
      rw [hall]
      clear hall hlt
      generalize runR f s.data.toList = r at *
      go_wp2
      go_ret
      exact ⟨by rw [HM.out]; rfl, rfl⟩

theorem byte_ofNat (n : Nat) : byteV (UInt8.ofNat n) = .int .u8 ((n % 256 : Nat) : Int) := by simp [byteV]
set_option maxHeartbeats 400000 in
theorem tailR_any (n : Nat) (w : World) (hn : n < 4294967296) :
    Calls Tryd.prog 28 #[.int .u32 (n : Int)] w fun e w' => e = .returned (.string ⟨(tail n).toArray⟩) ∧ Reg.Ext w w' := by
  go_enter Tryd.func28, Tryd.ntmps28
  go_wp2
  rw [conv_bytes _ _ _ 5 Tryd.underlying42 Tryd.underlying5 Tryd.underlying9 _ _ 4 _ (tail n) rfl]
  · go_wp2
    go_ret
    exact ⟨rfl, (Below.refl _ _).alloc (Nat.le_refl _) _⟩
  · intro j hj
    have hj' : j < 4 := hj
    rcases (by omega : j = 0 ∨ j = 1 ∨ j = 2 ∨ j = 3) with rfl | rfl | rfl | rfl <;> simp [tail, byteV, go_sem] <;> omega
def tcells (n : Nat) : Nat → Array Value
  | 0 => #[.int .u8 0, .int .u8 0, .int .u8 0, .int .u8 0]
  | 1 => #[.int .u8 ((n : Int) % 256), .int .u8 0, .int .u8 0, .int .u8 0]
  | 2 => #[.int .u8 ((n : Int) % 256), .int .u8 ((n : Int) / 256 % 256), .int .u8 0, .int .u8 0]
  | 3 => #[.int .u8 ((n : Int) % 256), .int .u8 ((n : Int) / 256 % 256), .int .u8 ((n : Int) / 65536 % 256), .int .u8 0]
  | _ => #[.int .u8 ((n : Int) % 256), .int .u8 ((n : Int) / 256 % 256), .int .u8 ((n : Int) / 65536 % 256), .int .u8 ((n : Int) / 16777216)]
set_option maxHeartbeats 400000 in
theorem tail_any (n : Nat) (w : World) (hn : n < 4294967296) :
    Calls Tryd.prog 36 #[.int .u32 (n : Int)] w fun e w' => e = .returned (.string ⟨(tail n).toArray⟩) ∧ Reg.Ext w w' := by
  have hmk : ∀ w, (Instr.makeSlice 42 (.int .i64 4) (.int .i64 4)).run Tryd.prog w = .ok (.slice (some ⟨w.heap.size, 0, none⟩) 4 4) (w.alloc (.cells #[.int .u8 0, .int .u8 0, .int .u8 0, .int .u8 0] 5)) := fun _ => by kernel_rfl
  go_enter Tryd.func36, Tryd.ntmps36
  go_wp2
  go_loopw [4, 8] (fun _ i wr => ∃ k : Nat, k ≤ 4 ∧ i = .int .i64 k ∧ wr = w.alloc (.cells (tcells n k) 5)) (fun _ i _ => 4 - (intOf i).toNat)
  case atStart => exact ⟨0, by omega, rfl, rfl⟩
  case round =>
    obtain ⟨k, hk, rfl, rfl⟩ := hrel
    rcases (by omega : k = 0 ∨ k = 1 ∨ k = 2 ∨ k = 3 ∨ k = 4) with rfl | rfl | rfl | rfl | rfl
    · unfold tcells
      go_wp2
      go_roundw
      case rel => exact ⟨1, by omega, rfl, rfl⟩
      case measure => simp [intOf]
    · unfold tcells
      go_wp2
      go_roundw
      case rel => exact ⟨2, by omega, rfl, rfl⟩
      case measure => simp [intOf]
    · unfold tcells
      go_wp2
      go_roundw
      case rel => exact ⟨3, by omega, rfl, rfl⟩
      case measure => simp [intOf]
    · unfold tcells
      go_wp2
      go_roundw
      case rel => exact ⟨4, by omega, rfl, rfl⟩
      case measure => simp [intOf]
    · unfold tcells
      go_wp2
      rw [conv_bytes _ _ _ 5 Tryd.underlying42 Tryd.underlying5 Tryd.underlying9 _ _ 4 _ (tail n) rfl]
      · go_wp2
        go_ret
        exact ⟨rfl, (Below.refl _ _).alloc (Nat.le_refl _) _⟩
      · intro j hj
        have hj' : j < 4 := hj
        rcases (by omega : j = 0 ∨ j = 1 ∨ j = 2 ∨ j = 3) with rfl | rfl | rfl | rfl <;> simp [tail, byteV, go_sem] <;> omega

theorem Tab.lt {w : World} (h : Tab w) : 0 < w.heap.size := World.block_lt_of_cell? w _ (h 0 (by omega))
theorem Tab.below {w w' : World} (h : Tab w) (hb : Below w.heap.size w w') : Tab w' := fun i hi => by
  rw [hb.cell (p := ⟨0, i, none⟩) h.lt]; exact h i hi

def ofS (ss : List ByteArray) : Nat := ofParts (ss.map (·.data.toList))
theorem ofS_snoc (ss : List ByteArray) (s : ByteArray) : ofS (ss ++ [s]) = more (ofS ss) s.data.toList := by simp [ofS, ofParts]
theorem ofS_lt (ss : List ByteArray) : ofS ss < 4294967296 := by
  rcases List.eq_nil_or_concat ss with rfl | ⟨l, a, rfl⟩
  · decide
  · rw [List.concat_eq_append, ofS_snoc]; exact more_lt _ _

set_option maxHeartbeats 400000 in
theorem of_any (A : Option Addr) (n c : Nat) (ss : List ByteArray) (w : World) (hn : ss.length = n) (hm : n ≤ maxLen) (hr : Rd w A (ss.map strV)) (hz : ∀ s ∈ ss, s.size ≤ maxLen) (hT : Tab w) :
    Calls Tryd.prog 37 #[.slice A n c] w fun e w' => e = .returned (.int .u32 (ofS ss : Nat)) ∧ w = w' := by
  unfold maxLen at hm
  have HT := Lib.hid hT
  have HR := Lib.hid hr
  have HN := Lib.hid hn
  have HZ := Lib.hid hz
  clear hT hr hn hz
  go_enter Tryd.func37, Tryd.ntmps37
  go_wp2
  go_loop [2, 4, 7] (fun v _ i => ∃ k : Nat, k ≤ n ∧ i = .int .i64 k ∧ v = .int .u32 (ofS (ss.take k) : Nat)) (fun _ _ i => n - (intOf i).toNat)
  case atStart => exact ⟨0, Nat.zero_le _, rfl, rfl⟩
  case round =>
    obtain ⟨k, hk, rfl, rfl⟩ := hrel
    have hlt := ofS_lt (ss.take k)
    by_cases hkn : k < n
    · have hkl : k < ss.length := by rw [HN.out]; exact hkn
      obtain ⟨ad, rfl, hb, hc⟩ := HR.out k (by simpa using hkl)
      have hc' : w.cell? (ad.add k) = some (.string ss[k]) := by simpa [strV] using hc
      have hsz : ss[k].size ≤ maxLen := HZ.out _ (List.getElem_mem hkl)
      have hsn : ofS (ss.take (k + 1)) = more (ofS (ss.take k)) (ss[k]).data.toList := by
        rw [List.take_succ_eq_append_getElem hkl, ofS_snoc]
      have HS := Lib.hid hsn
      clear hsn hc hb
      generalize ss[k] = s at *
      generalize ofS (ss.take k) = r at *
      go_wp2_with (go_at_call 44; refine (more_any _ _ _ hlt hsz HT.out).mono ?_; rintro e w' ⟨rfl, rfl⟩)
      go_round
      case rel => exact ⟨k + 1, by omega, by go_num, by rw [HS.out]⟩
      case measure => simp [intOf]; omega
    · have hke : ofS (ss.take k) = ofS ss := by rw [List.take_of_length_le (by rw [HN.out]; omega)]
      rw [hke]
      clear hke hlt
      go_wp2
      go_ret
      exact ⟨rfl, rfl⟩

end Crc
end Go.Proofs.YtbeghdoffiidoaaDoor

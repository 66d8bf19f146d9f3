/- The walks of package hexa: Hex, Unhex. -/
import Derived.Test.YtglnefmaphajaaaDoorBuf
import Derived.Test.YtglnefmaphajaaaDoorHexPlain
import Derived.WalkKit
import Derived.WalkSpells
import Derived.WalkLawsBesides
import Derived.BigQuiet
import Derived.BigRegion
import Derived.Deep.DeepCutAuto
import Derived.StillTailTactics
import Derived.Deep.RegionLaw
import Derived.Great.Walk
import Derived.Lib.Hide
set_option linter.unusedSimpArgs false
set_option linter.unusedVariables false
set_option linter.unusedSectionVars false
namespace Go.Proofs.YtglnefmaphajaaaDoor
open Go.RowKit
namespace Hex
open HexP
def lit16 : ByteArray := ⟨#[48, 49, 50, 51, 52, 53, 54, 55, 56, 57, 97, 98, 99, 100, 101, 102]⟩
theorem index_dig (n : Nat) (m : Int) (h : n < 16) (hm : m = (n : Int)) : ∀ W, (Instr.index 9 (.string ⟨#[48, 49, 50, 51, 52, 53, 54, 55, 56, 57, 97, 98, 99, 100, 101, 102]⟩) (.int .u8 m)).run Tryd.prog W = .ok (.int .u8 ((dig n).toNat : Int)) W := by
  intro W
  subst hm
  rcases (by omega : n = 0 ∨ n = 1 ∨ n = 2 ∨ n = 3 ∨ n = 4 ∨ n = 5 ∨ n = 6 ∨ n = 7 ∨ n = 8 ∨ n = 9 ∨ n = 10 ∨ n = 11 ∨ n = 12 ∨ n = 13 ∨ n = 14 ∨ n = 15) with
    rfl | rfl | rfl | rfl | rfl | rfl | rfl | rfl | rfl | rfl | rfl | rfl | rfl | rfl | rfl | rfl <;> as_aux_lemma => kernel_rfl
theorem and15 (c : UInt8) : Go.bits .and .u8 (c.toNat : Int) 15 = (c.toNat : Int) % 16 := by
  have : ∀ k : Fin 256, Go.bits .and .u8 ((UInt8.ofNat k.val).toNat : Int) 15 = ((UInt8.ofNat k.val).toNat : Int) % 16 := by decide +kernel
  have h := this ⟨c.toNat, c.toNat_lt⟩
  simpa using h
set_option maxHeartbeats 1000000 in
theorem hex_any (s : ByteArray) (w : World) (hs : s.size ≤ 274877906944) :
    Calls Tryd.prog 33 #[.string s] w fun e w' => e = .returned (.string ⟨(hex s.data.toList).toArray⟩) ∧ Reg.Ext w w' := by
  go_enter Tryd.func33, Tryd.ntmps33
  obtain ⟨w1, hmk, hbuf⟩ := Buf.make w w (Reg.Ext.refl w) (2 * s.size) (by omega)
  simp only [Int.natCast_mul, Int.cast_ofNat_Int] at hmk
  obtain ⟨cap, w2, hcv, hby, hx2⟩ := BytesAt.of s w1
  have HBUF := Lib.hid (hbuf.later hx2)
  have HBY := Lib.hid hby
  clear hbuf hx2 hby
  go_wp2_with fail
  clear hmk hcv
  generalize w1.heap.size = g at *
  go_loopw [3, 5, 13] (fun v _ i wr => ∃ k : Nat, k ≤ s.size ∧ i = .int .i64 k ∧ ∃ l : List UInt8, Hid (Buf w wr v l) ∧ Hid (hex s.data.toList = l ++ hex (s.data.toList.drop k)) ∧ l.length = 2 * k ∧ Hid (BytesAt wr g s)) (fun _ _ i _ => s.size - (intOf i).toNat)
  case atStart => exact ⟨0, Nat.zero_le _, rfl, [], HBUF, rfl, rfl, HBY⟩
  case round =>
    obtain ⟨k, hk, rfl, l, HB, HL, hl, HY⟩ := hrel
    clear HBUF HBY
    by_cases hks : k < s.size
    · have cb := HY.out.cell k hks
      have hd : s.data.toList.drop k = (s.data.toList[k]'(by rw [len_data]; exact hks)) :: s.data.toList.drop (k + 1) := List.drop_eq_getElem_cons (by rw [len_data]; exact hks)
      have hL := HL.out
      rw [hd] at hL
      generalize (s.data.toList[k]'(by rw [len_data]; exact hks)) = c at *
      have hc := c.toNat_lt
      have HL2 := Lib.hid hL
      clear hL hd HL
      go_wp2_with fail
      have hi1 := index_dig (c.toNat / 16) ((c.toNat : Int) / 16) (by omega) (by omega)
      have hi2 := index_dig (c.toNat % 16) ((c.toNat : Int) % 16) (by omega) (by omega)
      have ha := and15 c
      have hbw := Lib.hid (HB.out.drew)
      have hl2 : l.length + 2 ≤ 1099511627776 := by omega
      go_region_law (refine Buf.step2 w wr u3 l (dig (c.toNat / 16)) (dig (c.toNat % 16)) _ _ rfl rfl HB.out (.tmp 17) (.tmp 24) rfl rfl (by simp [Act.eval, Act.put]) (by simp [Act.eval, Act.put]) hl2 ?_; intro v4 w4 hb4 hg4)
      all_goals
        have HB4 := Lib.hid hb4
        have HY4 : Hid (BytesAt w4 g s) := HY.out.grown hg4 (HY.out.ne HB.out)
        clear hb4 hg4 hi1 hi2 ha
        simp only [Act.put, Act.eval, List.setIfInBounds_toArray, List.set_cons_zero, List.set_cons_succ, Nat.reduceAdd, Array.getD_eq_getD_getElem?, List.getElem?_toArray, List.getElem?_cons_succ, List.getElem?_cons_zero, Option.getD_some]
        go_wp2
        go_roundw
        case rel => exact ⟨k + 1, by omega, by go_num, l ++ [dig (c.toNat / 16), dig (c.toNat % 16)], HB4, by show _ = _; rw [HL2.out]; simp [hex], by simp; omega, HY4⟩
        case measure => simp [intOf]; omega
    · have hd : s.data.toList.drop k = [] := List.drop_of_length_le (by rw [len_data]; omega)
      have hl : hex s.data.toList = l := by have := HL.out; rw [hd] at this; simpa [hex] using this
      have hcs := HB.out.str
      have HX := Lib.hid HB.out.ext
      rw [← hl] at hcs
      go_wp2
      go_ret
      exact ⟨by rw [hl]; rfl, HX.out⟩
end Hex
end Go.Proofs.YtglnefmaphajaaaDoor

/- The walks of package hexa: Hex, Unhex. -/
import Derived.Test.YtdnaijaamnfgmaaDoorBuf
import Derived.Test.YtdnaijaamnfgmaaDoorHexPlain
import Derived.WalkKit
import Derived.WalkSpells
import Derived.WalkLawsBesides
import Derived.BigQuiet
import Derived.BigRegion
import Derived.Deep.DeepCutAuto
import Derived.StillTailTactics
import Derived.Deep.RegionLaw
import Derived.Great.Walk
import Derived.Lib.Hide
set_option linter.unusedSimpArgs false
set_option linter.unusedVariables false
set_option linter.unusedSectionVars false
namespace Go.Proofs.YtdnaijaamnfgmaaDoor
open Go.RowKit
namespace Hex
open HexP
def smallV (c : UInt8) : Value := match small c with
  | some n => .tuple #[.int .i64 (n : Int), .bool true]
  | none => .tuple #[.int .i64 0, .bool false]
set_option maxHeartbeats 1000000 in
theorem small_any (c : UInt8) (w : World) : Calls Tryd.prog 52 #[.int .u8 (c.toNat : Int)] w fun e w' => e = .returned (smallV c) ∧ w = w' := by
  have hc := c.toNat_lt
  go_enter Tryd.func52, Tryd.ntmps52
  by_cases h1 : 48 ≤ c.toNat
  · have d1 : decide ((48 : Int) ≤ (c.toNat : Int)) = true := by rw [decide_eq_true_iff]; omega
    by_cases h2 : c.toNat ≤ 57
    · have d2 : decide ((c.toNat : Int) ≤ 57) = true := by rw [decide_eq_true_iff]; omega
      have hv : smallV c = .tuple #[.int .i64 ((c.toNat : Int) - 48), .bool true] := by
        simp only [smallV, small, h1, h2, and_self, if_true]
        rw [show ((c.toNat - 48 : Nat) : Int) = (c.toNat : Int) - 48 by omega]
      rw [hv]
      go_wp2
      go_ret2
      exact ⟨rfl, rfl⟩
    · have d2 : decide ((c.toNat : Int) ≤ 57) = false := by rw [decide_eq_false_iff_not]; omega
      by_cases h3 : 97 ≤ c.toNat
      · have d3 : decide ((97 : Int) ≤ (c.toNat : Int)) = true := by rw [decide_eq_true_iff]; omega
        by_cases h4 : c.toNat ≤ 102
        · have d4 : decide ((c.toNat : Int) ≤ 102) = true := by rw [decide_eq_true_iff]; omega
          have hv : smallV c = .tuple #[.int .i64 ((c.toNat : Int) - 97 + 10), .bool true] := by
            have h12 : ¬ (48 ≤ c.toNat ∧ c.toNat ≤ 57) := by omega
            simp only [smallV, small, h12, h3, h4, and_self, if_true, if_false]
            rw [show ((c.toNat - 87 : Nat) : Int) = (c.toNat : Int) - 97 + 10 by omega]
          rw [hv]
          go_wp2
          go_ret2
          exact ⟨rfl, rfl⟩
        · have d4 : decide ((c.toNat : Int) ≤ 102) = false := by rw [decide_eq_false_iff_not]; omega
          have hv : smallV c = .tuple #[.int .i64 0, .bool false] := by
            have h12 : ¬ (48 ≤ c.toNat ∧ c.toNat ≤ 57) := by omega
            have h34 : ¬ (97 ≤ c.toNat ∧ c.toNat ≤ 102) := by omega
            simp only [smallV, small, h12, h34, if_false]
          rw [hv]
          go_wp2
          go_ret2
          exact ⟨rfl, rfl⟩
      · have d3 : decide ((97 : Int) ≤ (c.toNat : Int)) = false := by rw [decide_eq_false_iff_not]; omega
        have hv : smallV c = .tuple #[.int .i64 0, .bool false] := by
          have h12 : ¬ (48 ≤ c.toNat ∧ c.toNat ≤ 57) := by omega
          have h34 : ¬ (97 ≤ c.toNat ∧ c.toNat ≤ 102) := by omega
          simp only [smallV, small, h12, h34, if_false]
        rw [hv]
        go_wp2
        go_ret2
        exact ⟨rfl, rfl⟩
  · have d1 : decide ((48 : Int) ≤ (c.toNat : Int)) = false := by rw [decide_eq_false_iff_not]; omega
    have d3 : decide ((97 : Int) ≤ (c.toNat : Int)) = false := by rw [decide_eq_false_iff_not]; omega
    have hv : smallV c = .tuple #[.int .i64 0, .bool false] := by
      have h12 : ¬ (48 ≤ c.toNat ∧ c.toNat ≤ 57) := by omega
      have h34 : ¬ (97 ≤ c.toNat ∧ c.toNat ≤ 102) := by omega
      simp only [smallV, small, h12, h34, if_false]
    rw [hv]
    go_wp2
    go_ret2
    exact ⟨rfl, rfl⟩
def lit16 : ByteArray := ⟨#[48, 49, 50, 51, 52, 53, 54, 55, 56, 57, 97, 98, 99, 100, 101, 102]⟩
theorem index_dig (n : Nat) (m : Int) (h : n < 16) (hm : m = (n : Int)) : ∀ W, (Instr.index 9 (.string ⟨#[48, 49, 50, 51, 52, 53, 54, 55, 56, 57, 97, 98, 99, 100, 101, 102]⟩) (.int .u8 m)).run Tryd.prog W = .ok (.int .u8 ((dig n).toNat : Int)) W := by
  intro W
  subst hm
  rcases (by omega : n = 0 ∨ n = 1 ∨ n = 2 ∨ n = 3 ∨ n = 4 ∨ n = 5 ∨ n = 6 ∨ n = 7 ∨ n = 8 ∨ n = 9 ∨ n = 10 ∨ n = 11 ∨ n = 12 ∨ n = 13 ∨ n = 14 ∨ n = 15) with
    rfl | rfl | rfl | rfl | rfl | rfl | rfl | rfl | rfl | rfl | rfl | rfl | rfl | rfl | rfl | rfl <;> as_aux_lemma => kernel_rfl
theorem and15 (c : UInt8) : Go.bits .and .u8 (c.toNat : Int) 15 = (c.toNat : Int) % 16 := by
  have : ∀ k : Fin 256, Go.bits .and .u8 ((UInt8.ofNat k.val).toNat : Int) 15 = ((UInt8.ofNat k.val).toNat : Int) % 16 := by decide +kernel
  have h := this ⟨c.toNat, c.toNat_lt⟩
  simpa using h
set_option maxHeartbeats 1000000 in
theorem hex_any (s : ByteArray) (w : World) (hs : s.size ≤ 274877906944) :
    Calls Tryd.prog 27 #[.string s] w fun e w' => e = .returned (.string ⟨(hex s.data.toList).toArray⟩) ∧ Reg.Ext w w' := by
  go_enter Tryd.func27, Tryd.ntmps27
  obtain ⟨w1, hmk, hbuf⟩ := Buf.make w w (Reg.Ext.refl w) (2 * s.size) (by omega)
  simp only [Int.natCast_mul, Int.cast_ofNat_Int] at hmk
  obtain ⟨cap, w2, hcv, hby, hx2⟩ := BytesAt.of s w1
  have HBUF := Lib.hid (hbuf.later hx2)
  have HBY := Lib.hid hby
  clear hbuf hx2 hby
  go_wp2_with fail
  clear hmk hcv
  generalize w1.heap.size = g at *
  go_loopw [3, 5, 13] (fun v _ i wr => ∃ k : Nat, k ≤ s.size ∧ i = .int .i64 k ∧ ∃ l : List UInt8, Hid (Buf w wr v l) ∧ Hid (hex s.data.toList = l ++ hex (s.data.toList.drop k)) ∧ l.length = 2 * k ∧ Hid (BytesAt wr g s)) (fun _ _ i _ => s.size - (intOf i).toNat)
  case atStart => exact ⟨0, Nat.zero_le _, rfl, [], HBUF, rfl, rfl, HBY⟩
  case round =>
    obtain ⟨k, hk, rfl, l, HB, HL, hl, HY⟩ := hrel
    clear HBUF HBY
    by_cases hks : k < s.size
    · have cb := HY.out.cell k hks
      have hd : s.data.toList.drop k = (s.data.toList[k]'(by rw [len_data]; exact hks)) :: s.data.toList.drop (k + 1) := List.drop_eq_getElem_cons (by rw [len_data]; exact hks)
      have hL := HL.out
      rw [hd] at hL
      generalize (s.data.toList[k]'(by rw [len_data]; exact hks)) = c at *
      have hc := c.toNat_lt
      have HL2 := Lib.hid hL
      clear hL hd HL
      go_wp2_with fail
      have hi1 := index_dig (c.toNat / 16) ((c.toNat : Int) / 16) (by omega) (by omega)
      have hi2 := index_dig (c.toNat % 16) ((c.toNat : Int) % 16) (by omega) (by omega)
      have ha := and15 c
      have hbw := Lib.hid (HB.out.drew)
      have hl2 : l.length + 2 ≤ 1099511627776 := by omega
      go_region_law (refine Buf.step2 w wr u3 l (dig (c.toNat / 16)) (dig (c.toNat % 16)) _ _ rfl rfl HB.out (.tmp 17) (.tmp 24) rfl rfl (by simp [Act.eval, Act.put]) (by simp [Act.eval, Act.put]) hl2 ?_; intro v4 w4 hb4 hg4)
      all_goals
        have HB4 := Lib.hid hb4
        have HY4 : Hid (BytesAt w4 g s) := HY.out.grown hg4 (HY.out.ne HB.out)
        clear hb4 hg4 hi1 hi2 ha
        simp only [Act.put, Act.eval, List.setIfInBounds_toArray, List.set_cons_zero, List.set_cons_succ, Nat.reduceAdd, Array.getD_eq_getD_getElem?, List.getElem?_toArray, List.getElem?_cons_succ, List.getElem?_cons_zero, Option.getD_some]
        go_wp2
        go_roundw
        case rel => exact ⟨k + 1, by omega, by go_num, l ++ [dig (c.toNat / 16), dig (c.toNat % 16)], HB4, by show _ = _; rw [HL2.out]; simp [hex], by simp; omega, HY4⟩
        case measure => simp [intOf]; omega
    · have hd : s.data.toList.drop k = [] := List.drop_of_length_le (by rw [len_data]; omega)
      have hl : hex s.data.toList = l := by have := HL.out; rw [hd] at this; simpa [hex] using this
      have hcs := HB.out.str
      have HX := Lib.hid HB.out.ext
      rw [← hl] at hcs
      go_wp2
      go_ret
      exact ⟨by rw [hl]; rfl, HX.out⟩
def unhexV (l : List UInt8) : Value := match unhex l with
  | some m => .tuple #[.string ⟨m.toArray⟩, .int .i64 0]
  | none => .tuple #[.string ⟨#[]⟩, .int .i64 3]
theorem unhex_odd : ∀ (l : List UInt8), l.length % 2 ≠ 0 → unhex l = none
  | [], h => by simp at h
  | [_], _ => rfl
  | a :: b :: l, h => by
    have := unhex_odd l (by simp at h; omega)
    unfold unhex
    rw [this]
    split <;> rfl
theorem unhex_cons (a b : UInt8) (l : List UInt8) (x y : Nat) (hx : small a = some x) (hy : small b = some y) : unhex (a :: b :: l) = (unhex l).map (UInt8.ofNat (16 * x + y) :: ·) := by
  conv => lhs; unfold unhex
  rw [hx, hy]
theorem unhex_bad (a b : UInt8) (l : List UInt8) (h : small a = none ∨ small b = none) : unhex (a :: b :: l) = none := by
  conv => lhs; unfold unhex
  rcases h with h | h
  · rw [h]
  · rw [h]; split <;> simp_all
theorem pair_byte (x y : Nat) (hx : x < 16) (hy : y < 16) : IntKind.u8.wrap (Go.bits .or .i64 ((x : Int) * 16) (y : Int)) = 16 * (x : Int) + (y : Int) := by
  have : ∀ a b : Fin 16, IntKind.u8.wrap (Go.bits .or .i64 ((a.val : Int) * 16) (b.val : Int)) = 16 * (a.val : Int) + (b.val : Int) := by decide +kernel
  exact this ⟨x, hx⟩ ⟨y, hy⟩
set_option maxRecDepth 100000 in
set_option maxHeartbeats 1000000 in
theorem unhex_any (s : ByteArray) (w : World) (hs : s.size ≤ 274877906944) :
    Calls Tryd.prog 47 #[.string s] w fun e w' => e = .returned (unhexV s.data.toList) ∧ Reg.Ext w w' := by
  go_enter Tryd.func47, Tryd.ntmps47
  by_cases hod : s.size % 2 = 0
  · have d0 : ((s.size : Int) % 2 != 0) = false := by simp; omega
    obtain ⟨w1, hmk, hbuf⟩ := Buf.make w w (Reg.Ext.refl w) (s.size / 2) (by omega)
    simp only [Int.natCast_ediv, Int.cast_ofNat_Int] at hmk
    have HBUF := Lib.hid hbuf
    clear hbuf
    go_wp2_with fail
    clear hmk
    have hp := fun a b => pair_byte a b
    go_loopw [4, 5, 6, 7, 8, 9] (fun v i _ _ _ _ wr => ∃ k : Nat, 2 * k ≤ s.size ∧ i = .int .i64 ((2 * k : Nat) : Int) ∧ ∃ q : List UInt8, Hid (Buf w wr v q) ∧ Hid (unhex s.data.toList = (unhex (s.data.toList.drop (2 * k))).map (q ++ ·)) ∧ q.length = k) (fun _ i _ _ _ _ _ => s.size - (intOf i).toNat)
    case atStart => exact ⟨0, Nat.zero_le _, rfl, [], HBUF, by show _ = _; simp, rfl⟩
    case round =>
      obtain ⟨k, hk, rfl, q, HB, HQ, hq⟩ := hrel
      clear HBUF
      simp only [Int.natCast_mul, Int.cast_ofNat_Int]
      by_cases hks : 2 * k < s.size
      · have d1 : decide (2 * (k : Int) < (s.size : Int)) = true := by rw [decide_eq_true_iff]; omega
        have hd : s.data.toList.drop (2 * k) = s[2 * k] :: s[2 * k + 1] :: s.data.toList.drop (2 * (k + 1)) := by
          rw [List.drop_eq_getElem_cons (by rw [len_data]; omega), List.drop_eq_getElem_cons (by rw [len_data]; omega)]
          rfl
        have hQ := HQ.out
        rw [hd] at hQ
        have HQ2 := Lib.hid hQ
        clear hQ hd HQ
        go_wp2_with fail
        refine (small_any _ _).mono ?_
        rintro e w' ⟨rfl, rfl⟩
        have hk2 : 2 * k + 1 < s.size := by omega
        cases hA : small (s[2 * k]) with
        | none =>
          have hvA : smallV (s[2 * k]) = .tuple #[.int .i64 0, .bool false] := by unfold smallV; rw [hA]
          have hv : unhexV s.data.toList = .tuple #[.string ⟨#[]⟩, .int .i64 3] := by
            unfold unhexV
            rw [HQ2.out, unhex_bad _ _ _ (.inl hA)]
            rfl
          rw [hvA]
          have HV := Lib.hid hv
          clear hvA hv hA
          have HX := Lib.hid HB.out.ext
          go_wp2_with fail
          refine (small_any _ _).mono ?_
          rintro e w' ⟨rfl, rfl⟩
          cases hB : small (s[2 * k + 1]) with
          | none =>
            have hvB : smallV (s[2 * k + 1]) = .tuple #[.int .i64 0, .bool false] := by unfold smallV; rw [hB]
            rw [hvB]
            clear hvB hB
            go_wp2_with fail
            go_ret2
            exact ⟨by rw [HV.out]; rfl, HX.out⟩
          | some y =>
            have hvB : smallV (s[2 * k + 1]) = .tuple #[.int .i64 (y : Int), .bool true] := by unfold smallV; rw [hB]
            rw [hvB]
            clear hvB hB
            go_wp2_with fail
            go_ret2
            exact ⟨by rw [HV.out]; rfl, HX.out⟩
        | some x =>
          have hvA : smallV (s[2 * k]) = .tuple #[.int .i64 (x : Int), .bool true] := by unfold smallV; rw [hA]
          rw [hvA]
          clear hvA
          go_wp2_with fail
          refine (small_any _ _).mono ?_
          rintro e w' ⟨rfl, rfl⟩
          cases hB : small (s[2 * k + 1]) with
          | none =>
            have hvB : smallV (s[2 * k + 1]) = .tuple #[.int .i64 0, .bool false] := by unfold smallV; rw [hB]
            have hv : unhexV s.data.toList = .tuple #[.string ⟨#[]⟩, .int .i64 3] := by
              unfold unhexV
              rw [HQ2.out, unhex_bad _ _ _ (.inr hB)]
              rfl
            rw [hvB]
            have HV := Lib.hid hv
            clear hvB hB hv hA
            have HX := Lib.hid HB.out.ext
            go_wp2_with fail
            go_ret2
            exact ⟨by rw [HV.out]; rfl, HX.out⟩
          | some y =>
            have hvB : smallV (s[2 * k + 1]) = .tuple #[.int .i64 (y : Int), .bool true] := by unfold smallV; rw [hB]
            have hx16 := small_lt hA
            have hy16 := small_lt hB
            have HQ3 : Hid (unhex s.data.toList = (unhex (s.data.toList.drop (2 * (k + 1)))).map ((q ++ [UInt8.ofNat (16 * x + y)]) ++ ·)) := by
              show _ = _
              rw [HQ2.out, unhex_cons _ _ _ x y hA hB, Option.map_map]
              congr 1
              funext z
              simp
            have hpb := pair_byte x y hx16 hy16
            have hnb : 16 * (x : Int) + (y : Int) = ((UInt8.ofNat (16 * x + y)).toNat : Int) := by
              rw [UInt8.toNat_ofNat_of_lt' (show _ < 256 by omega)]; omega
            have HNB := Lib.hid hnb
            rw [hvB]
            clear hvB hA hB HQ2 hnb
            go_wp2_with (refine Buf.push1 rfl (.tmp 45) (.tmp 51) rfl u4 q rfl w wr _ (UInt8.ofNat (16 * x + y)) HNB.out HB.out rfl (by omega) ?_; intro v4 w4 hb4 hg4; have HB4 := Lib.hid hb4; clear hb4 hg4)
            go_roundw
            case rel => exact ⟨k + 1, by omega, by go_num, q ++ [UInt8.ofNat (16 * x + y)], HB4, HQ3, by simp; omega⟩
            case measure => simp [intOf]; omega
      · have hd : s.data.toList.drop (2 * k) = [] := List.drop_of_length_le (by rw [len_data]; omega)
        have hv : unhexV s.data.toList = .tuple #[.string ⟨q.toArray⟩, .int .i64 0] := by
          unfold unhexV
          rw [HQ.out, hd]
          simp [unhex]
        have hcs := HB.out.str
        have HX := Lib.hid HB.out.ext
        have HV := Lib.hid hv
        clear hd hv
        go_wp2_with fail
        go_ret2
        exact ⟨by rw [HV.out]; rfl, HX.out⟩
  · have d0 : ((s.size : Int) % 2 != 0) = true := by simp; omega
    have hv : unhexV s.data.toList = .tuple #[.string ⟨#[]⟩, .int .i64 3] := by
      unfold unhexV
      rw [unhex_odd _ (by rw [len_data]; exact hod)]
    rw [hv]
    go_wp2_with fail
    go_ret2
    exact ⟨rfl, Reg.Ext.refl w⟩
end Hex
end Go.Proofs.YtdnaijaamnfgmaaDoor

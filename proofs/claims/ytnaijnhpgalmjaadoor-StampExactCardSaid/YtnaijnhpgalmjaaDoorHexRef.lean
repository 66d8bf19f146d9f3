/- The document's Hex, Unhex, Value. -/
import Derived.Test.YtnaijnhpgalmjaaDoorHexWalks
set_option linter.unusedSimpArgs false
set_option linter.unusedVariables false
set_option linter.unusedSectionVars false
namespace Go.Proofs.YtnaijnhpgalmjaaDoor
open Go.RowKit
namespace Hex
open HexP
def valR (c : UInt8) : Option Nat :=
  if 48 ≤ c.toNat ∧ c.toNat ≤ 57 then some (c.toNat - 48) else if 97 ≤ c.toNat ∧ c.toNat ≤ 102 then some (c.toNat - 87) else if 65 ≤ c.toNat ∧ c.toNat ≤ 70 then some (c.toNat - 55) else none
def valZ (c : UInt8) : Int := match valR c with
  | some n => (n : Int)
  | none => -1
theorem valR_lt {c : UInt8} {n : Nat} (h : valR c = some n) : n < 16 := by
  unfold valR at h
  split at h
  · injection h; omega
  · split at h
    · injection h; omega
    · split at h
      · injection h; omega
      · cases h
theorem valR_dig (n : Nat) (h : n < 16) : valR (dig n) = some n := by
  have : ∀ k : Fin 16, valR (dig k.val) = some k.val := by decide
  exact this ⟨n, h⟩
set_option maxHeartbeats 1000000 in
theorem value_any (c : UInt8) (w : World) : Calls Tryd.prog 28 #[.int .u8 (c.toNat : Int)] w fun e w' => e = .returned (.int .i64 (valZ c)) ∧ w = w' := by
  have hc := c.toNat_lt
  go_enter Tryd.func28, Tryd.ntmps28
  have hz : valZ c = if 48 ≤ c.toNat ∧ c.toNat ≤ 57 then (c.toNat : Int) - 48 else if 97 ≤ c.toNat ∧ c.toNat ≤ 102 then (c.toNat : Int) - 97 + 10 else if 65 ≤ c.toNat ∧ c.toNat ≤ 70 then (c.toNat : Int) - 65 + 10 else -1 := by
    unfold valZ valR
    by_cases h1 : 48 ≤ c.toNat ∧ c.toNat ≤ 57
    · rw [if_pos h1, if_pos h1]; simp only; omega
    · rw [if_neg h1, if_neg h1]
      by_cases h2 : 97 ≤ c.toNat ∧ c.toNat ≤ 102
      · rw [if_pos h2, if_pos h2]; simp only; omega
      · rw [if_neg h2, if_neg h2]
        by_cases h3 : 65 ≤ c.toNat ∧ c.toNat ≤ 70
        · rw [if_pos h3, if_pos h3]; simp only; omega
        · rw [if_neg h3, if_neg h3]
  have HZ := Lib.hid hz
  clear hz
  by_cases h1 : 48 ≤ c.toNat ∧ c.toNat ≤ 57
  · have d1 : decide ((48 : Int) ≤ (c.toNat : Int)) = true := by rw [decide_eq_true_iff]; omega
    have d2 : decide ((c.toNat : Int) ≤ 57) = true := by rw [decide_eq_true_iff]; omega
    have HV := Lib.hid (show valZ c = (c.toNat : Int) - 48 by rw [HZ.out, if_pos h1])
    obtain ⟨h11, h12⟩ := h1
    go_wp2_with fail
    go_ret
    exact ⟨by rw [HV.out]; rfl, rfl⟩
  · by_cases h2 : 97 ≤ c.toNat ∧ c.toNat ≤ 102
    · have d1 : decide ((48 : Int) ≤ (c.toNat : Int)) = true := by rw [decide_eq_true_iff]; omega
      have d2 : decide ((c.toNat : Int) ≤ 57) = false := by rw [decide_eq_false_iff_not]; omega
      have d3 : decide ((97 : Int) ≤ (c.toNat : Int)) = true := by rw [decide_eq_true_iff]; omega
      have d4 : decide ((c.toNat : Int) ≤ 102) = true := by rw [decide_eq_true_iff]; omega
      have HV := Lib.hid (show valZ c = (c.toNat : Int) - 97 + 10 by rw [HZ.out, if_neg h1, if_pos h2])
      obtain ⟨h21, h22⟩ := h2
      clear h1
      go_wp2_with fail
      go_ret
      exact ⟨by rw [HV.out]; rfl, rfl⟩
    · by_cases h3 : 65 ≤ c.toNat ∧ c.toNat ≤ 70
      · have d1 : decide ((48 : Int) ≤ (c.toNat : Int)) = true := by rw [decide_eq_true_iff]; omega
        have d2 : decide ((c.toNat : Int) ≤ 57) = false := by rw [decide_eq_false_iff_not]; omega
        have d3 : decide ((97 : Int) ≤ (c.toNat : Int)) = false := by rw [decide_eq_false_iff_not]; omega
        have d5 : decide ((65 : Int) ≤ (c.toNat : Int)) = true := by rw [decide_eq_true_iff]; omega
        have d6 : decide ((c.toNat : Int) ≤ 70) = true := by rw [decide_eq_true_iff]; omega
        have HV := Lib.hid (show valZ c = (c.toNat : Int) - 65 + 10 by rw [HZ.out, if_neg h1, if_neg h2, if_pos h3])
        obtain ⟨h31, h32⟩ := h3
        clear h1 h2
        go_wp2_with fail
        go_ret
        exact ⟨by rw [HV.out]; rfl, rfl⟩
      · have HV := Lib.hid (show valZ c = -1 by rw [HZ.out, if_neg h1, if_neg h2, if_neg h3])
        by_cases a1 : 48 ≤ c.toNat
        · have d1 : decide ((48 : Int) ≤ (c.toNat : Int)) = true := by rw [decide_eq_true_iff]; omega
          have d2 : decide ((c.toNat : Int) ≤ 57) = false := by rw [decide_eq_false_iff_not]; omega
          by_cases a2 : 97 ≤ c.toNat
          · have d3 : decide ((97 : Int) ≤ (c.toNat : Int)) = true := by rw [decide_eq_true_iff]; omega
            have d4 : decide ((c.toNat : Int) ≤ 102) = false := by rw [decide_eq_false_iff_not]; omega
            have d5 : decide ((65 : Int) ≤ (c.toNat : Int)) = true := by rw [decide_eq_true_iff]; omega
            have d6 : decide ((c.toNat : Int) ≤ 70) = false := by rw [decide_eq_false_iff_not]; omega
            clear h1 h2 h3
            go_wp2_with fail
            go_ret
            exact ⟨by rw [HV.out]; rfl, rfl⟩
          · have d3 : decide ((97 : Int) ≤ (c.toNat : Int)) = false := by rw [decide_eq_false_iff_not]; omega
            by_cases a3 : 65 ≤ c.toNat
            · have d5 : decide ((65 : Int) ≤ (c.toNat : Int)) = true := by rw [decide_eq_true_iff]; omega
              have d6 : decide ((c.toNat : Int) ≤ 70) = false := by rw [decide_eq_false_iff_not]; omega
              clear h1 h2 h3
              go_wp2_with fail
              go_ret
              exact ⟨by rw [HV.out]; rfl, rfl⟩
            · have d5 : decide ((65 : Int) ≤ (c.toNat : Int)) = false := by rw [decide_eq_false_iff_not]; omega
              clear h1 h2 h3
              go_wp2_with fail
              go_ret
              exact ⟨by rw [HV.out]; rfl, rfl⟩
        · have d1 : decide ((48 : Int) ≤ (c.toNat : Int)) = false := by rw [decide_eq_false_iff_not]; omega
          have d3 : decide ((97 : Int) ≤ (c.toNat : Int)) = false := by rw [decide_eq_false_iff_not]; omega
          have d5 : decide ((65 : Int) ≤ (c.toNat : Int)) = false := by rw [decide_eq_false_iff_not]; omega
          clear h1 h2 h3
          go_wp2_with fail
          go_ret
          exact ⟨by rw [HV.out]; rfl, rfl⟩
/-- []byte{} -/
theorem made0 (w W : World) (hx : Reg.Ext w W) : Buf w (W.alloc (Obj.cells #[] 5)) (.slice (some ⟨W.heap.size, 0, none⟩) 0 0) [] := Buf.empty w W hx
set_option maxHeartbeats 1000000 in
theorem hexR_any (s : ByteArray) (w : World) (hs : s.size ≤ 274877906944) :
    Calls Tryd.prog 29 #[.string s] w fun e w' => e = .returned (.string ⟨(hex s.data.toList).toArray⟩) ∧ Reg.Ext w w' := by
  go_enter Tryd.func29, Tryd.ntmps29
  have HBUF := Lib.hid (made0 w w (Reg.Ext.refl w))
  go_wp2_with fail
  go_loopw [3, 4] (fun v i wr => ∃ k : Nat, k ≤ s.size ∧ i = .int .i64 k ∧ ∃ l : List UInt8, Hid (Buf w wr v l) ∧ Hid (hex s.data.toList = l ++ hex (s.data.toList.drop k)) ∧ l.length = 2 * k) (fun _ i _ => s.size - (intOf i).toNat)
  case atStart => exact ⟨0, Nat.zero_le _, rfl, [], HBUF, rfl, rfl⟩
  case round =>
    obtain ⟨k, hk, rfl, l, HB, HL, hl⟩ := hrel
    clear HBUF
    by_cases hks : k < s.size
    · have d1 : decide ((k : Int) < (s.size : Int)) = true := by rw [decide_eq_true_iff]; omega
      have hd : s.data.toList.drop k = s[k] :: s.data.toList.drop (k + 1) := List.drop_eq_getElem_cons (by rw [len_data]; exact hks)
      have hL := HL.out
      rw [hd] at hL
      have hc := (s[k]).toNat_lt
      have hi1 := index_dig ((s[k]).toNat / 16) (((s[k]).toNat : Int) / 16) (by omega) (by omega)
      have hi2 := index_dig ((s[k]).toNat % 16) (((s[k]).toNat : Int) % 16) (by omega) (by omega)
      have ha := and15 (s[k])
      have HL2 := Lib.hid hL
      clear hL hd HL
      have hl2 : l.length + 2 ≤ 1099511627776 := by omega
      go_wp2_with fail
      go_region_law (refine Buf.step2 w wr u3 l (dig ((s[k]).toNat / 16)) (dig ((s[k]).toNat % 16)) _ _ rfl rfl HB.out (.tmp 12) (.tmp 23) rfl rfl (by simp [Act.eval, Act.put]) (by simp [Act.eval, Act.put]) hl2 ?_; intro v4 w4 hb4 hg4)
      all_goals
        have HB4 := Lib.hid hb4
        clear hb4 hg4 hi1 hi2 ha
        simp only [Act.put, Act.eval, List.setIfInBounds_toArray, List.set_cons_zero, List.set_cons_succ, Nat.reduceAdd, Array.getD_eq_getD_getElem?, List.getElem?_toArray, List.getElem?_cons_succ, List.getElem?_cons_zero, Option.getD_some]
        go_wp2
        go_roundw
        case rel => exact ⟨k + 1, by omega, by go_num, l ++ [dig ((s[k]).toNat / 16), dig ((s[k]).toNat % 16)], HB4, by show _ = _; rw [HL2.out]; simp [hex], by simp; omega⟩
        case measure => simp [intOf]; omega
    · have d1 : decide ((k : Int) < (s.size : Int)) = false := by rw [decide_eq_false_iff_not]; omega
      have hd : s.data.toList.drop k = [] := List.drop_of_length_le (by rw [len_data]; omega)
      have HV := Lib.hid (show hex s.data.toList = l by have := HL.out; rw [hd] at this; simpa [hex] using this)
      have hcs := HB.out.str
      have HX := Lib.hid HB.out.ext
      clear hd
      go_wp2
      go_ret
      exact ⟨by rw [HV.out]; rfl, HX.out⟩
end Hex
end Go.Proofs.YtnaijnhpgalmjaaDoor

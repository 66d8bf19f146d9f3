/- The document's Hex. -/
import Derived.Test.YtdnaijaamnfgmaaDoorHexWalks
set_option linter.unusedSimpArgs false
set_option linter.unusedVariables false
set_option linter.unusedSectionVars false
namespace Go.Proofs.YtdnaijaamnfgmaaDoor
open Go.RowKit
namespace Hex
open HexP
/-- []byte{} -/
theorem made0 (w W : World) (hx : Reg.Ext w W) : Buf w (W.alloc (Obj.cells #[] 5)) (.slice (some ⟨W.heap.size, 0, none⟩) 0 0) [] := Buf.empty w W hx
set_option maxHeartbeats 1000000 in
theorem hexR_any (s : ByteArray) (w : World) (hs : s.size ≤ 274877906944) :
    Calls Tryd.prog 32 #[.string s] w fun e w' => e = .returned (.string ⟨(hex s.data.toList).toArray⟩) ∧ Reg.Ext w w' := by
  go_enter Tryd.func32, Tryd.ntmps32
  have HBUF := Lib.hid (made0 w w (Reg.Ext.refl w))
  go_wp2_with fail
  go_loopw [3, 4] (fun v i wr => ∃ k : Nat, k ≤ s.size ∧ i = .int .i64 k ∧ ∃ l : List UInt8, Hid (Buf w wr v l) ∧ Hid (hex s.data.toList = l ++ hex (s.data.toList.drop k)) ∧ l.length = 2 * k) (fun _ i _ => s.size - (intOf i).toNat)
  case atStart => exact ⟨0, Nat.zero_le _, rfl, [], HBUF, rfl, rfl⟩
  case round =>
    obtain ⟨k, hk, rfl, l, HB, HL, hl⟩ := hrel
    clear HBUF
    by_cases hks : k < s.size
    · have d1 : decide ((k : Int) < (s.size : Int)) = true := by rw [decide_eq_true_iff]; omega
      have hd : s.data.toList.drop k = s[k] :: s.data.toList.drop (k + 1) := List.drop_eq_getElem_cons (by rw [len_data]; exact hks)
      have hL := HL.out
      rw [hd] at hL
      have hc := (s[k]).toNat_lt
      have hi1 := index_dig ((s[k]).toNat / 16) (((s[k]).toNat : Int) / 16) (by omega) (by omega)
      have hi2 := index_dig ((s[k]).toNat % 16) (((s[k]).toNat : Int) % 16) (by omega) (by omega)
      have ha := and15 (s[k])
      have HL2 := Lib.hid hL
      clear hL hd HL
      have hl2 : l.length + 2 ≤ 1099511627776 := by omega
      go_wp2_with fail
      go_region_law (refine Buf.step2 w wr u3 l (dig ((s[k]).toNat / 16)) (dig ((s[k]).toNat % 16)) _ _ rfl rfl HB.out (.tmp 12) (.tmp 23) rfl rfl (by simp [Act.eval, Act.put]) (by simp [Act.eval, Act.put]) hl2 ?_; intro v4 w4 hb4 hg4)
      all_goals
        have HB4 := Lib.hid hb4
        clear hb4 hg4 hi1 hi2 ha
        simp only [Act.put, Act.eval, List.setIfInBounds_toArray, List.set_cons_zero, List.set_cons_succ, Nat.reduceAdd, Array.getD_eq_getD_getElem?, List.getElem?_toArray, List.getElem?_cons_succ, List.getElem?_cons_zero, Option.getD_some]
        go_wp2
        go_roundw
        case rel => exact ⟨k + 1, by omega, by go_num, l ++ [dig ((s[k]).toNat / 16), dig ((s[k]).toNat % 16)], HB4, by show _ = _; rw [HL2.out]; simp [hex], by simp; omega⟩
        case measure => simp [intOf]; omega
    · have d1 : decide ((k : Int) < (s.size : Int)) = false := by rw [decide_eq_false_iff_not]; omega
      have hd : s.data.toList.drop k = [] := List.drop_of_length_le (by rw [len_data]; omega)
      have HV := Lib.hid (show hex s.data.toList = l by have := HL.out; rw [hd] at this; simpa [hex] using this)
      have hcs := HB.out.str
      have HX := Lib.hid HB.out.ext
      clear hd
      go_wp2
      go_ret
      exact ⟨by rw [HV.out]; rfl, HX.out⟩
end Hex
end Go.Proofs.YtdnaijaamnfgmaaDoor

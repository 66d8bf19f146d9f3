/- Packages field and taste: low. -/
import Derived.Test.YtglnefmaphajaaaDoorFieldW
import Derived.Test.YtglnefmaphajaaaDoorTasteP
import Derived.Test.YtglnefmaphajaaaDoorByt
import Derived.Test.YtglnefmaphajaaaDoorCut
import Derived.Test.YtglnefmaphajaaaDoorSOwn
import Derived.Test.YtglnefmaphajaaaDoorFldW
set_option linter.unusedSimpArgs false
set_option linter.unusedVariables false
set_option linter.unusedSectionVars false
namespace Go.Proofs.YtglnefmaphajaaaDoor
open Go.RowKit
namespace Tst
open Fld
def lowB (s : ByteArray) : ByteArray := ⟨(lowL s.data.toList).toArray⟩
theorem lowB_l (s : ByteArray) : (lowB s).data.toList = lowL s.data.toList := rfl
theorem lowB_size (s : ByteArray) : (lowB s).size = s.size := by rw [← len_data, lowB_l, low_len, len_data]
theorem set_self {l : List UInt8} {k : Nat} {c : UInt8} (h : l[k]? = some c) : l.set k c = l := by
  obtain ⟨h1, rfl⟩ := List.getElem?_eq_some_iff.1 h
  exact List.set_getElem_self h1
set_option maxHeartbeats 4000000 in
theorem low_any (s : ByteArray) (w : World) (hs : s.size ≤ 9223372036854775807) :
    Calls Tryd.prog 27 #[.string s] w fun e w' => e = .returned (.string (lowB s)) ∧ Reg.Ext w w' := by
  go_enter Tryd.func27, Tryd.ntmps27
  obtain ⟨cap, w2, hcv, hby, hx2⟩ := Byt.of s w
  have HBY := Lib.hid hby
  have HX2 := Lib.hid hx2
  clear hby hx2
  go_wp2_with fail
  clear hcv
  go_loopw [4, 5, 10] (fun _ _ i wr => ∃ k : Nat, k ≤ s.size ∧ i = .int .i64 k ∧ Hid (Byt wr w.heap.size ((s.data.toList.take k).map lowc ++ s.data.toList.drop k)) ∧ Hid (Reg.Ext w wr)) (fun _ _ i _ => s.size - (intOf i).toNat)
  case atStart => exact ⟨0, Nat.zero_le _, rfl, HBY, HX2⟩
  case round =>
    obtain ⟨k, hk, rfl, HB, HX⟩ := hrel
    by_cases hks : k < s.size
    · have hkl : k < s.data.toList.length := by rw [len_data]; exact hks
      have hlen : ((s.data.toList.take k).map lowc).length = k := by rw [List.length_map, List.length_take]; omega
      have hdr : s.data.toList.drop k = (s.data.toList[k]'hkl) :: s.data.toList.drop (k + 1) := List.drop_eq_getElem_cons hkl
      have htk : s.data.toList.take (k + 1) = s.data.toList.take k ++ [s.data.toList[k]'hkl] := List.take_succ_eq_append_getElem hkl
      generalize (s.data.toList[k]'hkl) = c at *
      have htot : ((s.data.toList.take k).map lowc ++ c :: s.data.toList.drop (k + 1)).length = s.size := by
        rw [List.length_append, hlen, List.length_cons, List.length_drop, len_data]; omega
      have HC : Hid (((s.data.toList.take k).map lowc ++ s.data.toList.drop k)[k]? = some c) := by
        show _ = _
        rw [hdr, List.getElem?_append_right (by rw [hlen]; exact Nat.le_refl _), hlen, Nat.sub_self]; rfl
      have cb : wr.cell? ⟨w.heap.size, k, none⟩ = some (.int .u8 (c.toNat : Int)) := by
        have h1 := HB.out.cell k (by rw [hdr, htot]; exact hks)
        obtain ⟨_, h2⟩ := List.getElem?_eq_some_iff.1 HC.out
        rw [h1, h2]; rfl
      have fz : wr.frozen? ⟨w.heap.size, k, none⟩ = false := HB.out.free k (by rw [hdr, htot]; exact hks)
      have HS : Hid ((s.data.toList.take (k + 1)).map lowc ++ s.data.toList.drop (k + 1) = ((s.data.toList.take k).map lowc ++ s.data.toList.drop k).set k (lowc c)) := by
        show _ = _
        rw [hdr, htk, List.set_append_right _ _ (by rw [hlen]; exact Nat.le_refl _), hlen, Nat.sub_self, List.set_cons_zero, List.map_append]
        simp
      have HT : Hid (k < ((s.data.toList.take k).map lowc ++ s.data.toList.drop k).length) := by
        show _ < _
        rw [hdr, htot]; exact hks
      clear hlen hdr htk htot
      by_cases h1 : 65 ≤ c.toNat
      · by_cases h2 : c.toNat ≤ 90
        · have d1 : decide ((65 : Int) ≤ (c.toNat : Int)) = true := decide_eq_true (by omega)
          have d2 : decide ((c.toNat : Int) ≤ 90) = true := decide_eq_true (by omega)
          have hu := lowc_up h1 h2
          have hB2 := HB.out.set k (lowc c) HT.out
          rw [← HS.out] at hB2
          have HB2 : Hid (Byt (wr.setCell ⟨w.heap.size, k, none⟩ (.int .u8 ((c.toNat : Int) + 32))) w.heap.size ((s.data.toList.take (k + 1)).map lowc ++ s.data.toList.drop (k + 1))) := by
            rw [← hu]
            exact hB2
          have HX3 : Hid (Reg.Ext w (wr.setCell ⟨w.heap.size, k, none⟩ (.int .u8 ((c.toNat : Int) + 32)))) := HX.out.trans_but (But.set_ w.heap.size wr k _) (Nat.le_refl _)
          clear hu hB2 HS HC HT HB
          have e1 : (c.toNat : Int) + 97 - 65 = (c.toNat : Int) + 32 := by omega
          go_wp2_with fail
          go_roundw
          case rel => exact ⟨k + 1, by omega, by go_num, HB2, HX3⟩
          case measure => simp [intOf]; omega
        · have d1 : decide ((65 : Int) ≤ (c.toNat : Int)) = true := decide_eq_true (by omega)
          have d2 : decide ((c.toNat : Int) ≤ 90) = false := decide_eq_false (by omega)
          have HB2 : Hid (Byt wr w.heap.size ((s.data.toList.take (k + 1)).map lowc ++ s.data.toList.drop (k + 1))) := by
            show Byt _ _ _
            rw [HS.out, lowc_id (by omega), set_self HC.out]; exact HB.out
          clear HS HC HT HB
          go_wp2_with fail
          go_roundw
          case rel => exact ⟨k + 1, by omega, by go_num, HB2, HX⟩
          case measure => simp [intOf]; omega
      · have d1 : decide ((65 : Int) ≤ (c.toNat : Int)) = false := decide_eq_false (by omega)
        have HB2 : Hid (Byt wr w.heap.size ((s.data.toList.take (k + 1)).map lowc ++ s.data.toList.drop (k + 1))) := by
          show Byt _ _ _
          rw [HS.out, lowc_id (by omega), set_self HC.out]; exact HB.out
        clear HS HC HT HB
        go_wp2_with fail
        go_roundw
        case rel => exact ⟨k + 1, by omega, by go_num, HB2, HX⟩
        case measure => simp [intOf]; omega
    · have hke : k = s.size := by omega
      subst hke
      have hb := HB.out
      rw [List.take_of_length_le (by rw [len_data]; exact Nat.le_refl _), List.drop_of_length_le (by rw [len_data]; exact Nat.le_refl _), List.append_nil] at hb
      have hcs := hb.str 67 9 5 Tryd.underlying67 Tryd.underlying5 Tryd.underlying9 s.size cap (by rw [List.length_map, len_data])
      clear HB hb
      go_wp2_with fail
      go_ret
      exact ⟨rfl, HX.out⟩
set_option maxHeartbeats 4000000 in
theorem lowT_any (s : ByteArray) (w : World) (hs : s.size ≤ 9223372036854775807) :
    Calls Tryd.prog 36 #[.string s] w fun e w' => e = .returned (.string (lowB s)) ∧ Reg.Ext w w' := by
  go_enter Tryd.func36, Tryd.ntmps36
  obtain ⟨cap, w2, hcv, hby, hx2⟩ := Byt.of s w
  have HBY := Lib.hid hby
  have HX2 := Lib.hid hx2
  clear hby hx2
  go_wp2_with fail
  clear hcv
  go_loopw [4, 5, 10] (fun _ _ i wr => ∃ k : Nat, k ≤ s.size ∧ i = .int .i64 k ∧ Hid (Byt wr w.heap.size ((s.data.toList.take k).map lowc ++ s.data.toList.drop k)) ∧ Hid (Reg.Ext w wr)) (fun _ _ i _ => s.size - (intOf i).toNat)
  case atStart => exact ⟨0, Nat.zero_le _, rfl, HBY, HX2⟩
  case round =>
    obtain ⟨k, hk, rfl, HB, HX⟩ := hrel
    by_cases hks : k < s.size
    · have hkl : k < s.data.toList.length := by rw [len_data]; exact hks
      have hlen : ((s.data.toList.take k).map lowc).length = k := by rw [List.length_map, List.length_take]; omega
      have hdr : s.data.toList.drop k = (s.data.toList[k]'hkl) :: s.data.toList.drop (k + 1) := List.drop_eq_getElem_cons hkl
      have htk : s.data.toList.take (k + 1) = s.data.toList.take k ++ [s.data.toList[k]'hkl] := List.take_succ_eq_append_getElem hkl
      generalize (s.data.toList[k]'hkl) = c at *
      have htot : ((s.data.toList.take k).map lowc ++ c :: s.data.toList.drop (k + 1)).length = s.size := by
        rw [List.length_append, hlen, List.length_cons, List.length_drop, len_data]; omega
      have HC : Hid (((s.data.toList.take k).map lowc ++ s.data.toList.drop k)[k]? = some c) := by
        show _ = _
        rw [hdr, List.getElem?_append_right (by rw [hlen]; exact Nat.le_refl _), hlen, Nat.sub_self]; rfl
      have cb : wr.cell? ⟨w.heap.size, k, none⟩ = some (.int .u8 (c.toNat : Int)) := by
        have h1 := HB.out.cell k (by rw [hdr, htot]; exact hks)
        obtain ⟨_, h2⟩ := List.getElem?_eq_some_iff.1 HC.out
        rw [h1, h2]; rfl
      have fz : wr.frozen? ⟨w.heap.size, k, none⟩ = false := HB.out.free k (by rw [hdr, htot]; exact hks)
      have HS : Hid ((s.data.toList.take (k + 1)).map lowc ++ s.data.toList.drop (k + 1) = ((s.data.toList.take k).map lowc ++ s.data.toList.drop k).set k (lowc c)) := by
        show _ = _
        rw [hdr, htk, List.set_append_right _ _ (by rw [hlen]; exact Nat.le_refl _), hlen, Nat.sub_self, List.set_cons_zero, List.map_append]
        simp
      have HT : Hid (k < ((s.data.toList.take k).map lowc ++ s.data.toList.drop k).length) := by
        show _ < _
        rw [hdr, htot]; exact hks
      clear hlen hdr htk htot
      by_cases h1 : 65 ≤ c.toNat
      · by_cases h2 : c.toNat ≤ 90
        · have d1 : decide ((65 : Int) ≤ (c.toNat : Int)) = true := decide_eq_true (by omega)
          have d2 : decide ((c.toNat : Int) ≤ 90) = true := decide_eq_true (by omega)
          have hu := lowc_up h1 h2
          have hB2 := HB.out.set k (lowc c) HT.out
          rw [← HS.out] at hB2
          have HB2 : Hid (Byt (wr.setCell ⟨w.heap.size, k, none⟩ (.int .u8 ((c.toNat : Int) + 32))) w.heap.size ((s.data.toList.take (k + 1)).map lowc ++ s.data.toList.drop (k + 1))) := by
            rw [← hu]
            exact hB2
          have HX3 : Hid (Reg.Ext w (wr.setCell ⟨w.heap.size, k, none⟩ (.int .u8 ((c.toNat : Int) + 32)))) := HX.out.trans_but (But.set_ w.heap.size wr k _) (Nat.le_refl _)
          clear hu hB2 HS HC HT HB
          have e1 : (c.toNat : Int) + 97 - 65 = (c.toNat : Int) + 32 := by omega
          go_wp2_with fail
          go_roundw
          case rel => exact ⟨k + 1, by omega, by go_num, HB2, HX3⟩
          case measure => simp [intOf]; omega
        · have d1 : decide ((65 : Int) ≤ (c.toNat : Int)) = true := decide_eq_true (by omega)
          have d2 : decide ((c.toNat : Int) ≤ 90) = false := decide_eq_false (by omega)
          have HB2 : Hid (Byt wr w.heap.size ((s.data.toList.take (k + 1)).map lowc ++ s.data.toList.drop (k + 1))) := by
            show Byt _ _ _
            rw [HS.out, lowc_id (by omega), set_self HC.out]; exact HB.out
          clear HS HC HT HB
          go_wp2_with fail
          go_roundw
          case rel => exact ⟨k + 1, by omega, by go_num, HB2, HX⟩
          case measure => simp [intOf]; omega
      · have d1 : decide ((65 : Int) ≤ (c.toNat : Int)) = false := decide_eq_false (by omega)
        have HB2 : Hid (Byt wr w.heap.size ((s.data.toList.take (k + 1)).map lowc ++ s.data.toList.drop (k + 1))) := by
          show Byt _ _ _
          rw [HS.out, lowc_id (by omega), set_self HC.out]; exact HB.out
        clear HS HC HT HB
        go_wp2_with fail
        go_roundw
        case rel => exact ⟨k + 1, by omega, by go_num, HB2, HX⟩
        case measure => simp [intOf]; omega
    · have hke : k = s.size := by omega
      subst hke
      have hb := HB.out
      rw [List.take_of_length_le (by rw [len_data]; exact Nat.le_refl _), List.drop_of_length_le (by rw [len_data]; exact Nat.le_refl _), List.append_nil] at hb
      have hcs := hb.str 67 9 5 Tryd.underlying67 Tryd.underlying5 Tryd.underlying9 s.size cap (by rw [List.length_map, len_data])
      clear HB hb
      go_wp2_with fail
      go_ret
      exact ⟨rfl, HX.out⟩
end Tst
end Go.Proofs.YtglnefmaphajaaaDoor

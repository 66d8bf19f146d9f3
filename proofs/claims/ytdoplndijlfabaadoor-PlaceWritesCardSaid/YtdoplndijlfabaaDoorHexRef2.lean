/- The document's Unhex. -/
import Derived.Test.YtdoplndijlfabaaDoorHexRef
set_option linter.unusedSimpArgs false
set_option linter.unusedVariables false
set_option linter.unusedSectionVars false
namespace Go.Proofs.YtdoplndijlfabaaDoor
open Go.RowKit
namespace Hex
open HexP
def uR : List UInt8 → Option (List UInt8)
  | a :: b :: l => match valR a, valR b with
    | some x, some y => (uR l).map (UInt8.ofNat (16 * x + y) :: ·)
    | _, _ => none
  | _ => some []
theorem uR_cons (a b : UInt8) (l : List UInt8) (x y : Nat) (hx : valR a = some x) (hy : valR b = some y) : uR (a :: b :: l) = (uR l).map (UInt8.ofNat (16 * x + y) :: ·) := by
  conv => lhs; unfold uR
  rw [hx, hy]
theorem uR_bad (a b : UInt8) (l : List UInt8) (h : valR a = none ∨ valR b = none) : uR (a :: b :: l) = none := by
  conv => lhs; unfold uR
  rcases h with h | h
  · rw [h]
  · rw [h]; split <;> simp_all
theorem uR_hex (m : List UInt8) : uR (hex m) = some m := by
  induction m with
  | nil => rfl
  | cons c m ih =>
    have hc := c.toNat_lt
    simp only [hex]
    rw [uR_cons _ _ _ _ _ (valR_dig (c.toNat / 16) (by omega)) (valR_dig (c.toNat % 16) (by omega)), ih]
    simp only [Option.map_some]
    rw [show 16 * (c.toNat / 16) + c.toNat % 16 = c.toNat by omega, UInt8.ofNat_toNat]
/-- what the document's Unhex gives is what unhex gives -/
theorem uR_spec (l : List UInt8) : (match uR l with | some q => if hex q = l then some q else none | none => none) = unhex l := by
  cases hu : unhex l with
  | some m =>
    have h := hex_unhex hu
    have h2 : uR l = some m := by rw [← h]; exact uR_hex m
    rw [h2]
    simp only
    rw [if_pos h]
  | none =>
    cases hr : uR l with
    | none => rfl
    | some q =>
      simp only
      rw [if_neg]
      intro e
      rw [← e, unhex_hex] at hu
      cases hu
theorem pairR (x y : Nat) (hx : x < 16) (hy : y < 16) : IntKind.u8.wrap (16 * (x : Int) + (y : Int)) = 16 * (x : Int) + (y : Int) := by
  rw [IntKind.wrap_u8]; omega
set_option maxHeartbeats 1000000 in
theorem unhexR_any (s : ByteArray) (w : World) (hs : s.size ≤ 274877906944) :
    Calls Tryd.prog 39 #[.string s] w fun e w' => e = .returned (unhexV s.data.toList) ∧ Reg.Ext w w' := by
  have hspec := uR_spec s.data.toList
  have HSP := Lib.hid hspec
  clear hspec
  go_enter Tryd.func39, Tryd.ntmps39
  have HBUF := Lib.hid (made0 w w (Reg.Ext.refl w))
  go_wp2_with fail
  go_loopw [4, 5, 6, 7] (fun v i _ _ wr => ∃ k : Nat, 2 * k ≤ s.size ∧ i = .int .i64 ((2 * k : Nat) : Int) ∧ ∃ q : List UInt8, Hid (Buf w wr v q) ∧ Hid (uR s.data.toList = (uR (s.data.toList.drop (2 * k))).map (q ++ ·)) ∧ q.length = k) (fun _ i _ _ _ => s.size - (intOf i).toNat)
  case atStart => exact ⟨0, Nat.zero_le _, rfl, [], HBUF, by show _ = _; simp, rfl⟩
  case round =>
    obtain ⟨k, hk, rfl, q, HB, HQ, hq⟩ := hrel
    clear HBUF
    simp only [Int.natCast_mul, Int.cast_ofNat_Int]
    by_cases hks : 2 * k + 1 < s.size
    · have d1 : decide (2 * (k : Int) + 1 < (s.size : Int)) = true := by rw [decide_eq_true_iff]; omega
      have hd : s.data.toList.drop (2 * k) = s[2 * k] :: s[2 * k + 1] :: s.data.toList.drop (2 * (k + 1)) := by
        rw [List.drop_eq_getElem_cons (by rw [len_data]; omega), List.drop_eq_getElem_cons (by rw [len_data]; omega)]
        rfl
      have hQ := HQ.out
      rw [hd] at hQ
      have HQ2 := Lib.hid hQ
      clear hQ hd HQ
      go_wp2_with fail
      refine (value_any _ _).mono ?_
      rintro e w' ⟨rfl, rfl⟩
      cases hA : valR (s[2 * k]) with
      | none =>
        have hvA : valZ (s[2 * k]) = -1 := by unfold valZ; rw [hA]
        have HV := Lib.hid (show unhexV s.data.toList = .tuple #[.string ⟨#[]⟩, .int .i64 3] by
          unfold unhexV
          rw [← HSP.out, HQ2.out, uR_bad _ _ _ (.inl hA)]
          rfl)
        rw [hvA]
        have HX := Lib.hid HB.out.ext
        clear hvA hA
        go_wp2_with fail
        refine (value_any _ _).mono ?_
        rintro e w' ⟨rfl, rfl⟩
        go_wp2_with fail
        go_ret2
        exact ⟨by rw [HV.out]; rfl, HX.out⟩
      | some x =>
        have hvA : valZ (s[2 * k]) = (x : Int) := by unfold valZ; rw [hA]
        rw [hvA]
        clear hvA
        go_wp2_with fail
        refine (value_any _ _).mono ?_
        rintro e w' ⟨rfl, rfl⟩
        have dx : decide ((x : Int) < 0) = false := by rw [decide_eq_false_iff_not]; omega
        cases hB : valR (s[2 * k + 1]) with
        | none =>
          have hvB : valZ (s[2 * k + 1]) = -1 := by unfold valZ; rw [hB]
          have HV := Lib.hid (show unhexV s.data.toList = .tuple #[.string ⟨#[]⟩, .int .i64 3] by
            unfold unhexV
            rw [← HSP.out, HQ2.out, uR_bad _ _ _ (.inr hB)]
            rfl)
          rw [hvB]
          have HX := Lib.hid HB.out.ext
          clear hvB hB hA
          go_wp2_with fail
          go_ret2
          exact ⟨by rw [HV.out]; rfl, HX.out⟩
        | some y =>
          have hvB : valZ (s[2 * k + 1]) = (y : Int) := by unfold valZ; rw [hB]
          have hx16 := valR_lt hA
          have hy16 := valR_lt hB
          have HQ3 : Hid (uR s.data.toList = (uR (s.data.toList.drop (2 * (k + 1)))).map ((q ++ [UInt8.ofNat (16 * x + y)]) ++ ·)) := by
            show _ = _
            rw [HQ2.out, uR_cons _ _ _ x y hA hB, Option.map_map]
            congr 1
            funext z
            simp
          have dy : decide ((y : Int) < 0) = false := by rw [decide_eq_false_iff_not]; omega
          have hpb := pairR x y hx16 hy16
          have hnb : 16 * (x : Int) + (y : Int) = ((UInt8.ofNat (16 * x + y)).toNat : Int) := by
            rw [UInt8.toNat_ofNat_of_lt' (show _ < 256 by omega)]; omega
          have HNB := Lib.hid hnb
          rw [hvB]
          clear hvB hA hB HQ2 hnb
          go_wp2_with (refine Buf.push1 rfl (.tmp 31) (.tmp 37) rfl u4 q rfl w wr _ (UInt8.ofNat (16 * x + y)) HNB.out HB.out rfl (by omega) ?_; intro v4 w4 hb4 hg4; have HB4 := Lib.hid hb4; clear hb4 hg4)
          go_roundw
          case rel => exact ⟨k + 1, by omega, by go_num, q ++ [UInt8.ofNat (16 * x + y)], HB4, HQ3, by simp; omega⟩
          case measure => simp [intOf]; omega
    · have d1 : decide (2 * (k : Int) + 1 < (s.size : Int)) = false := by rw [decide_eq_false_iff_not]; omega
      have hu : uR s.data.toList = some q := by
        rw [HQ.out]
        have : (s.data.toList.drop (2 * k)).length ≤ 1 := by rw [List.length_drop, len_data]; omega
        match hl : s.data.toList.drop (2 * k), this with
        | [], _ => simp [uR]
        | [c], _ => simp [uR]
        | _ :: _ :: _, h => simp at h
      have hcs := HB.out.str
      have HX := Lib.hid HB.out.ext
      have hqs : (⟨q.toArray⟩ : ByteArray).size ≤ 274877906944 := by show q.toArray.size ≤ _; rw [List.size_toArray]; omega
      have HQS := Lib.hid hqs
      clear hqs HQ
      by_cases he : hex q = s.data.toList
      · have HV := Lib.hid (show unhexV s.data.toList = .tuple #[.string ⟨q.toArray⟩, .int .i64 0] by
          unfold unhexV
          rw [← HSP.out, hu]
          simp only
          rw [if_pos he])
        have HEQ := Lib.hid (show (⟨(hex q).toArray⟩ : ByteArray) = s by (rw [he] <;> exact ba_data s))
        clear he hu
        go_wp2_with fail
        refine (hexR_any ⟨q.toArray⟩ wr HQS.out).mono ?_
        rintro e w5 ⟨rfl, hx5⟩
        have HX5 := Lib.hid (HX.out.trans hx5)
        have hcs5 := (HB.out.later hx5).str
        clear hx5 hcs
        rw [HEQ.out]
        go_wp2_with fail
        go_ret2
        exact ⟨by rw [HV.out]; rfl, HX5.out⟩
      · have HV := Lib.hid (show unhexV s.data.toList = .tuple #[.string ⟨#[]⟩, .int .i64 3] by
          unfold unhexV
          rw [← HSP.out, hu]
          simp only
          rw [if_neg he])
        have hne : (hex q == s.toList) = false := by
          rw [ByteArray.toList_eq, beq_eq_false_iff_ne]; exact he
        have HNE := Lib.hid hne
        clear he hu hne
        go_wp2_with fail
        refine (hexR_any ⟨q.toArray⟩ wr HQS.out).mono ?_
        rintro e w5 ⟨rfl, hx5⟩
        have HX5 := Lib.hid (HX.out.trans hx5)
        clear hx5 hcs
        have hne := HNE.out
        generalize hex q = hxq at *
        go_wp2_with fail
        go_ret2
        exact ⟨by rw [HV.out]; rfl, HX5.out⟩
end Hex
end Go.Proofs.YtdoplndijlfabaaDoor

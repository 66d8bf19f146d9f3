/- The walks of slip.scan: take, byte, text, number. -/
import Derived.Test.YtbeghdoffiidoaaDoorSlipNum
import Derived.Test.YtbeghdoffiidoaaDoorSlipWrite2
set_option linter.unusedSimpArgs false
set_option linter.unusedVariables false
set_option linter.unusedSectionVars false
namespace Go.Proofs.YtbeghdoffiidoaaDoor
open Go.RowKit
namespace Slp
/-- the scan in block b has this still to be read -/
def At (b : Nat) (s : Sc) (w : World) : Prop := ∃ r bad, Blk w b 81 [.string r, .bool bad] ∧ r.size ≤ 1048576 ∧ s = if bad = true then none else some r.data.toList
theorem At.ext {b : Nat} {s : Sc} {w w' : World} (h : At b s w) (hx : Reg.Ext w w') : At b s w' := by
  obtain ⟨r, bad, h1, h2, h3⟩ := h
  exact ⟨r, bad, h1.ext hx, h2, h3⟩
set_option maxHeartbeats 1000000 in
theorem take_any (b : Nat) (s : Sc) (n : Nat) (w : World) (h : At b s w) (hn : n ≤ 1048576) :
    Calls Tryd.prog 41 #[.pointer (some ⟨b, 0, none⟩), .int .i64 (n : Int)] w fun e w' => e = .returned (.string ⟨(take n s).1.toArray⟩) ∧ At b (take n s).2 w' ∧ But b w w' := by
  obtain ⟨r, bad, hb, hr, hs⟩ := h
  have c0 : w.cell? ⟨b, 0, none⟩ = some (.string r) := hb.cell 0
  have c1 : w.cell? ⟨b, 1, none⟩ = some (.bool bad) := hb.cell 1
  have f0 := hb.frozen 0
  have f1 := hb.frozen 1
  have HB := Lib.hid hb
  clear hb
  go_enter Tryd.func41, Tryd.ntmps41
  cases bad with
  | true =>
    have HT := Lib.hid (show take n s = ([], none) by rw [hs]; rfl)
    clear hs
    go_wp2_with fail
    go_ret
    exact ⟨by rw [HT.out]; rfl, ⟨r, true, HB.out.set_ 1 _, hr, by rw [HT.out]; rfl⟩, But.set_ _ _ _ _⟩
  | false =>
    by_cases hle : n ≤ r.size
    · have HT := Lib.hid (show take n s = ((r.extract 0 n).data.toList, some (r.extract n r.size).data.toList) by rw [hs]; simp only [Bool.false_eq_true, if_false]; rw [take_ok (by rw [len_data]; exact hle), ext_to, ext_from])
      have d1 : decide ((r.size : Int) < (n : Int)) = false := by rw [decide_eq_false_iff_not]; omega
      clear hs
      go_wp2_with fail
      go_ret
      exact ⟨by rw [HT.out]; rfl, ⟨r.extract n r.size, false, HB.out.set_ 0 _, ext_le _ _ _ hr, by rw [HT.out]; rfl⟩, But.set_ _ _ _ _⟩
    · have HT := Lib.hid (show take n s = ([], none) by rw [hs]; simp only [Bool.false_eq_true, if_false]; rw [take_no (by rw [len_data]; exact hle)])
      have d1 : decide ((r.size : Int) < (n : Int)) = true := by rw [decide_eq_true_iff]; omega
      clear hs
      go_wp2_with fail
      go_ret
      exact ⟨by rw [HT.out]; rfl, ⟨r, true, HB.out.set_ 1 _, hr, by rw [HT.out]; rfl⟩, But.set_ _ _ _ _⟩
theorem one_of {l : List UInt8} (h : l.length = 1 ∨ l = []) : l = [] ∨ ∃ c, l = [c] := by
  match l, h with
  | [], _ => exact .inl rfl
  | [c], _ => exact .inr ⟨c, rfl⟩
  | a :: b :: r, h => simp at h
set_option maxHeartbeats 1000000 in
theorem byte_any (b : Nat) (s : Sc) (w : World) (h : At b s w) :
    Calls Tryd.prog 39 #[.pointer (some ⟨b, 0, none⟩)] w fun e w' => e = .returned (.int .i64 ((nextB s).1 : Int)) ∧ At b (nextB s).2 w' ∧ But b w w' := by
  have C := Lib.hid (take_any b s 1 w h (by decide))
  have h1 := one_of (take_len 1 s)
  have HN : Hid (nextB s = (((take 1 s).1.headD 0).toNat, (take 1 s).2)) := rfl
  generalize take 1 s = p at *
  obtain ⟨l, s2⟩ := p
  simp only at h1
  go_enter Tryd.func39, Tryd.ntmps39
  rcases h1 with rfl | ⟨c, rfl⟩
  · go_wp2_with fail
    refine (C.out).mono ?_
    rintro e w1 ⟨rfl, h2, x2⟩
    have H2 := Lib.hid h2
    have X2 := Lib.hid x2
    clear h2 x2 C
    go_wp2_with fail
    go_ret
    exact ⟨by rw [HN.out]; rfl, by rw [HN.out]; exact H2.out, X2.out⟩
  · go_wp2_with fail
    refine (C.out).mono ?_
    rintro e w1 ⟨rfl, h2, x2⟩
    have H2 := Lib.hid h2
    have X2 := Lib.hid x2
    clear h2 x2 C
    go_wp2_with fail
    go_ret
    have hc := c.toNat_lt
    exact ⟨by rw [HN.out]; exact ret_int (k := .i64) (IntWalk.wrap64_in (c.toNat : Int) ⟨by omega, by omega⟩), by rw [HN.out]; exact H2.out, X2.out⟩
set_option maxHeartbeats 1000000 in
theorem text_any (b : Nat) (s : Sc) (w : World) (h : At b s w) :
    Calls Tryd.prog 40 #[.pointer (some ⟨b, 0, none⟩)] w fun e w' => e = .returned (.string ⟨(textS s).1.toArray⟩) ∧ At b (textS s).2 w' ∧ But b w w' := by
  have H := Lib.hid h
  clear h
  go_enter Tryd.func40, Tryd.ntmps40
  go_wp2_with fail
  refine (byte_any b s w H.out).mono ?_
  rintro e w1 ⟨rfl, h1, x1⟩
  have H1 := Lib.hid h1
  have X1 := Lib.hid x1
  clear h1 x1 H
  go_wp2_with fail
  refine (take_any b _ (nextB s).1 w1 H1.out (by have := nextB_lt s; omega)).mono ?_
  rintro e w2 ⟨rfl, h2, x2⟩
  have H2 := Lib.hid h2
  have X2 := Lib.hid (X1.out.trans x2)
  clear h2 x2 H1
  go_wp2_with fail
  go_ret
  exact ⟨rfl, H2.out, X2.out⟩
set_option maxHeartbeats 2000000 in
theorem number_any (b : Nat) (s : Sc) (w : World) (h : At b s w) :
    Calls Tryd.prog 42 #[.pointer (some ⟨b, 0, none⟩)] w fun e w' => e = .returned (.int .i64 ((numS s).1 : Int)) ∧ At b (numS s).2 w' ∧ But b w w' := by
  have C := Lib.hid (take_any b s 8 w h (by decide))
  have h1 := take_len 8 s
  have HN : Hid (numS s = if fromB (take 8 s).1 ≤ 1099511627776 then (fromB (take 8 s).1, (take 8 s).2) else (0, none)) := rfl
  generalize take 8 s = p at *
  obtain ⟨m, s2⟩ := p
  simp only at h1
  have hm8 : m.length ≤ 8 := by rcases h1 with h | h <;> simp [h]
  clear h1
  go_enter Tryd.func42, Tryd.ntmps42
  go_wp2_with fail
  refine (C.out).mono ?_
  rintro e w1 ⟨rfl, h1, x1⟩
  obtain ⟨t, ht⟩ : ∃ t : ByteArray, t = ⟨m.toArray⟩ := ⟨_, rfl⟩
  have htl : t.data.toList = m := by rw [ht]
  have hts : t.size = m.length := by rw [← htl, len_data]
  rw [show (⟨((m, s2) : List UInt8 × Sc).1.toArray⟩ : ByteArray) = t from ht.symm]
  have HTL := Lib.hid htl
  have HTS := Lib.hid hts
  obtain ⟨cap, w2, hcv, hby, hx2⟩ := BytesAt.of t w1
  have HBY := Lib.hid hby
  have H1 : Hid (At b s2 w2) := h1.ext hx2
  have X2 : Hid (But b w w2) := x1.trans (But.of_ext hx2)
  clear ht htl hby hx2 h1 x1 C
  rw [hts] at hcv
  clear hts
  go_wp2_with fail
  clear hcv
  go_loopw [3, 5, 10] (fun n _ i wr => ∃ k : Nat, k ≤ m.length ∧ i = .int .i64 k ∧ n = .int .u64 (fromB (m.take k) : Nat) ∧ Hid (Reg.Ext w2 wr)) (fun _ _ i _ => m.length - (intOf i).toNat)
  case atStart => exact ⟨0, by omega, rfl, rfl, Reg.Ext.refl w2⟩
  case round =>
    obtain ⟨k, hk, rfl, rfl, HXR⟩ := hrel
    by_cases hkl : k < m.length
    · have cb := HXR.out.at_ (HBY.out.cell k (by rw [HTS.out]; exact hkl))
      have hbyte : (t.data.toList[k]'(by rw [len_data, HTS.out]; exact hkl)) = m[k] := by
        have := HTL.out
        simp only [this]
      rw [hbyte] at cb
      have hsn : fromB (m.take (k + 1)) = fromB (m.take k) * 256 + (m[k]).toNat := by
        rw [List.take_succ_eq_append_getElem hkl, fromB_snoc]
      have hlt : fromB (m.take k) < 72057594037927936 := by
        have h1 := fromB_lt (m.take k)
        rw [List.length_take, Nat.min_eq_left (by omega)] at h1
        have h2 : 256 ^ k ≤ 256 ^ 7 := Nat.pow_le_pow_right (by omega) (by omega)
        have h3 : (256 : Nat) ^ 7 = 72057594037927936 := rfl
        omega
      have hcl := (m[k]).toNat_lt
      have hor := or_low (fromB (m.take k)) (m[k]).toNat hlt hcl
      have hd9 : decide ((k : Int) < (m.length : Int)) = true := by rw [decide_eq_true_iff]; omega
      generalize m[k] = c at *
      have HS := Lib.hid hsn
      clear hsn hbyte
      generalize fromB (m.take k) = n at *
      go_wp2_with fail
      go_roundw
      case rel => exact ⟨k + 1, by omega, by go_num, by rw [HS.out]; go_num, HXR⟩
      case measure => simp [intOf]; omega
    · have hke : k = m.length := by omega
      subst hke
      rw [List.take_length]
      have hlt : fromB m < 18446744073709551616 := by
        have h1 := fromB_lt m
        have h2 : 256 ^ m.length ≤ 256 ^ 8 := Nat.pow_le_pow_right (by omega) hm8
        have h3 : (256 : Nat) ^ 8 = 18446744073709551616 := rfl
        omega
      have hd9 : decide ((m.length : Int) < (m.length : Int)) = false := by rw [decide_eq_false_iff_not]; omega
      have X3 : Hid (But b w wr) := X2.out.trans (But.of_ext HXR.out)
      have HA : Hid (At b s2 wr) := H1.out.ext HXR.out
      generalize fromB m = x at *
      clear X2 H1 HXR HBY
      by_cases hx : x ≤ 1099511627776
      · have dx : decide ((1099511627776 : Int) < (x : Int)) = false := by rw [decide_eq_false_iff_not]; omega
        have HV := Lib.hid (show numS s = (x, s2) by rw [HN.out, if_pos hx])
        have hwr : IntKind.i64.wrap (x : Int) = (x : Int) := by rw [IntKind.wrap_i64]; omega
        clear HN
        go_wp2_with fail
        go_ret
        exact ⟨by rw [HV.out]; rfl, by rw [HV.out]; exact HA.out, X3.out⟩
      · have dx : decide ((1099511627776 : Int) < (x : Int)) = true := by rw [decide_eq_true_iff]; omega
        have HV := Lib.hid (show numS s = (0, none) by rw [HN.out, if_neg hx])
        obtain ⟨r, bad, hb, hr, hs⟩ := HA.out
        have c1 : wr.cell? ⟨b, 1, none⟩ = some (.bool bad) := hb.cell 1
        have f1 := hb.frozen 1
        have HB := Lib.hid hb
        clear HN hb hs HA
        go_wp2_with fail
        go_ret
        exact ⟨by rw [HV.out]; rfl, ⟨r, true, HB.out.set_ 1 _, hr, by rw [HV.out]; rfl⟩, X3.out.trans (But.set_ _ _ _ _)⟩
end Slp
end Go.Proofs.YtbeghdoffiidoaaDoor

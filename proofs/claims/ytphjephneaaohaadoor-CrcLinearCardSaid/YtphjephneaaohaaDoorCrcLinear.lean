/- CrcLinear: the sums' xor is the sum of the xor. -/
import Derived.Test.YtphjephneaaohaaDoorCrcLaws
import Derived.Test.YtphjephneaaohaaDoorBytes
import Derived.BigRegion
set_option linter.unusedSimpArgs false
set_option linter.unusedVariables false
set_option linter.unusedSectionVars false
namespace Go.Proofs.YtphjephneaaohaaDoor
open Go.RowKit
namespace Crc
open CrcP

theorem min3 (x y z : Nat) : (if (z : Int) < (if (y : Int) < (x : Int) then (y : Int) else x) then (z : Int) else (if (y : Int) < (x : Int) then (y : Int) else x)) = ((min (min x y) z : Nat) : Int) := by
  split <;> split at * <;> omega

theorem xor3_take (a b c : List UInt8) (n k : Nat) (hk : k < n) (ha : n ≤ a.length) (hb : n ≤ b.length) (hc : n ≤ c.length) :
    xor3 (a.take (k + 1)) (b.take (k + 1)) (c.take (k + 1)) ++ (a.take n).drop (k + 1) =
      (xor3 (a.take k) (b.take k) (c.take k) ++ (a.take n).drop k).set k ((a[k]'(by omega) ^^^ b[k]'(by omega)) ^^^ c[k]'(by omega)) := by
  have hl : (xor3 (a.take k) (b.take k) (c.take k)).length = k := by simp [xor3]; omega
  have hd : (a.take n).drop k = a[k]'(by omega) :: (a.take n).drop (k + 1) := by
    rw [List.drop_eq_getElem_cons (by rw [List.length_take]; omega)]
    simp
  rw [hd, List.set_append_right _ _ (by omega), hl, Nat.sub_self, List.set_cons_zero]
  have e : xor3 (a.take (k + 1)) (b.take (k + 1)) (c.take (k + 1)) = xor3 (a.take k) (b.take k) (c.take k) ++ [(a[k]'(by omega) ^^^ b[k]'(by omega)) ^^^ c[k]'(by omega)] := by
    rw [List.take_succ_eq_append_getElem (by omega), List.take_succ_eq_append_getElem (by omega), List.take_succ_eq_append_getElem (by omega)]
    unfold xor3
    rw [List.zipWith_append (by simp; omega), List.zipWith_append (by simp; omega)]
    rfl
  rw [e, List.append_assoc]
  rfl
theorem xor3_get (a b c : List UInt8) (n k : Nat) (hk : k < n) (ha : n ≤ a.length) (hb : n ≤ b.length) (hc : n ≤ c.length) (h : k < (xor3 (a.take k) (b.take k) (c.take k) ++ (a.take n).drop k).length) :
    (xor3 (a.take k) (b.take k) (c.take k) ++ (a.take n).drop k)[k] = a[k]'(by omega) := by
  have hl : (xor3 (a.take k) (b.take k) (c.take k)).length = k := by simp [xor3]; omega
  rw [List.getElem_append_right (by omega)]
  simp [hl]

set_option maxRecDepth 100000 in
set_option maxHeartbeats 1600000 in
theorem linear_law (a b c : ByteArray) (w : World) (ha : a.size ≤ maxLen) (hb : b.size ≤ maxLen) (hc : c.size ≤ maxLen) (hT : Tab w) :
    Calls Tryd.prog 6 #[.string a, .string b, .string c] w fun e w' => e = .returned (.bool true) ∧ Reg.Ext w w' := by
  unfold maxLen at ha hb hc
  have HT := Lib.hid hT
  clear hT
  obtain ⟨n, hna, hnb, hnc, hmin⟩ : ∃ n : Nat, n ≤ a.size ∧ n ≤ b.size ∧ n ≤ c.size ∧ ∀ (w : World) ts t, (Builtin.min_ ts t #[.int .i64 (a.size : Int), .int .i64 (b.size : Int), .int .i64 (c.size : Int)]).run Tryd.prog w = .ok (.int .i64 (n : Int)) w :=
    ⟨min (min a.size b.size) c.size, by omega, by omega, by omega, fun w ts t => by rw [run_min_int3, min3]⟩
  by_cases hl : n ≤ 4096
  · have d1 : decide ((4096 : Int) < (n : Int)) = false := by simp; omega
    have hcv := fun w : World => Lib.run_convert_string_bytes (P := Tryd.prog) w 9 32 5 (a.extract 0 n) Tryd.underlying9 Tryd.underlying32 Tryd.underlying5
    go_enter Tryd.func6, Tryd.ntmps6
    go_wp2_with fail
    refine (awake_any _ HT.out).mono ?_
    rintro e w1 ⟨rfl, x1⟩
    go_wp2_with fail
    have x2 := x1.trans (conv_ext w1 5 (a.extract 0 n))
    have b2 := BytesAt.conv w1 5 (a.extract 0 n)
    have hge : w.heap.size ≤ w1.heap.size := x1.size
    have hsn : (a.extract 0 n).size = n := by rw [ByteArray.size_extract]; omega
    generalize Lib.bytesWorld w1 5 (a.extract 0 n) = w2 at *
    generalize grownCap w1 n 0 5 = cap at *
    generalize w1.heap.size = g at *
    clear x1 hcv hmin d1
    rw [ext_to] at b2
    go_loopw [9] (fun i wr => ∃ k : Nat, k ≤ n ∧ i = .int .i64 k ∧ Hid (BytesAt wr g (xor3 (a.data.toList.take k) (b.data.toList.take k) (c.data.toList.take k) ++ (a.data.toList.take n).drop k)) ∧ Reg.Ext w wr) (fun i _ => n - (intOf i).toNat)
    case atStart => exact ⟨0, Nat.zero_le _, rfl, b2, x2⟩
    case round =>
      obtain ⟨k, hk, rfl, HB, hx⟩ := hrel
      have HX := Lib.hid hx
      clear hx x2 b2
      by_cases hkn : k < n
      · have hka : k < a.data.toList.length := by rw [len_data]; omega
        have hka' : k < a.data.size := by have := len_data a; rw [Array.length_toList] at this; omega
        have hkb : k < b.size := by omega
        have hkc : k < c.size := by omega
        have hlen : k < (xor3 (a.data.toList.take k) (b.data.toList.take k) (c.data.toList.take k) ++ (a.data.toList.take n).drop k).length := by
          simp [xor3, len_data]; omega
        have c1 := HB.out.cell k hlen
        have f1 := HB.out.free k hlen
        rw [xor3_get _ _ _ n k hkn (by rw [len_data]; exact hna) (by rw [len_data]; exact hnb) (by rw [len_data]; exact hnc) hlen] at c1
        have hset := HB.out.set k ((a.data.toList[k] ^^^ b.data.toList[k]'(by rw [len_data]; omega)) ^^^ c.data.toList[k]'(by rw [len_data]; omega)) hlen
        rw [← xor3_take _ _ _ n k hkn (by rw [len_data]; exact hna) (by rw [len_data]; exact hnb) (by rw [len_data]; exact hnc)] at hset
        have hxs : Reg.Ext w (wr.setCell ⟨g, k, none⟩ (byteV ((a.data.toList[k] ^^^ b.data.toList[k]'(by rw [len_data]; omega)) ^^^ c.data.toList[k]'(by rw [len_data]; omega)))) := HX.out.setCell hge _
        have HS := Lib.hid hset
        have HXS := Lib.hid hxs
        clear hset hxs hlen
        unfold byteV at *
        go_wp2
        go_region
        have e1 : Go.bits .xor .u8 (Go.bits .xor .u8 ((a.data[k]'hka').toNat : Int) ((b[k]'hkb).toNat : Int)) ((c[k]'hkc).toNat : Int) = (((a.data.toList[k] ^^^ b.data.toList[k]'(by rw [len_data]; omega)) ^^^ c.data.toList[k]'(by rw [len_data]; omega)).toNat : Int) := by
          have e : Go.bits .xor .u8 ((a.data[k]'hka').toNat : Int) ((b[k]'hkb).toNat : Int) = (((a.data[k]'hka') ^^^ (b[k]'hkb)).toNat : Int) := by
            rw [u8_xor_nat _ _ (UInt8.toNat_lt _) (UInt8.toNat_lt _), UInt8.toNat_xor]
          rw [e, u8_xor_nat _ _ (UInt8.toNat_lt _) (UInt8.toNat_lt _), ← UInt8.toNat_xor]
          rfl
        have E1 := Lib.hid e1
        clear e1
        all_goals
          go_wp2
          go_roundw
          case rel =>
            refine ⟨k + 1, by omega, by go_num, ?_, ?_⟩
            · rw [E1.out]; exact HS.out.drew
            · rw [E1.out]; exact HXS.out.trans (Reg.Ext.drew _)
          case measure => simp [intOf]; omega
      · obtain rfl : k = n := by omega
        have hfull : xor3 (a.data.toList.take k) (b.data.toList.take k) (c.data.toList.take k) ++ (a.data.toList.take k).drop k = xor3 (a.data.toList.take k) (b.data.toList.take k) (c.data.toList.take k) := by
          rw [List.drop_of_length_le (by rw [List.length_take]; omega), List.append_nil]
        have hlin := linear (a.data.toList.take k) (b.data.toList.take k) (c.data.toList.take k) (by simp [len_data]; omega) (by simp [len_data]; omega)
        have hxl : (xor3 (a.data.toList.take k) (b.data.toList.take k) (c.data.toList.take k)).length = k := by simp [xor3, len_data]; omega
        rw [hfull] at HB
        have hq1 : ofS [a.extract 0 k] = more 0 (a.data.toList.take k) := by simp [ofS, ofParts, ext_to]
        have hq2 : ofS [b.extract 0 k] = more 0 (b.data.toList.take k) := by simp [ofS, ofParts, ext_to]
        have hq3 : ofS [c.extract 0 k] = more 0 (c.data.toList.take k) := by simp [ofS, ofParts, ext_to]
        have hq4 : ofS [⟨(xor3 (a.data.toList.take k) (b.data.toList.take k) (c.data.toList.take k)).toArray⟩] = more 0 (xor3 (a.data.toList.take k) (b.data.toList.take k) (c.data.toList.take k)) := by simp [ofS, ofParts]
        rw [← hq1, ← hq2, ← hq3, ← hq4] at hlin
        generalize hx : xor3 (a.data.toList.take k) (b.data.toList.take k) (c.data.toList.take k) = x at *
        have hz : (⟨x.toArray⟩ : ByteArray).size ≤ maxLen := by show x.toArray.size ≤ maxLen; rw [List.size_toArray, hxl]; exact maxLen_of (by omega)
        have l1 := ofS_lt [a.extract 0 k]
        have l2 := ofS_lt [b.extract 0 k]
        have l3 := ofS_lt [c.extract 0 k]
        have e1 := u32_xor _ _ l1 l2
        have e2 := u32_xor _ _ (xor_lt l1 l2) l3
        have hf : ((((ofS [a.extract 0 k] ^^^ ofS [b.extract 0 k] ^^^ ofS [c.extract 0 k] : Nat) : Int)) == ((ofS [⟨x.toArray⟩] : Nat) : Int)) = true := by rw [hlin]; simp
        have za : (a.extract 0 k).size ≤ maxLen := maxLen_of (ext_le _ _ _ ha)
        have zb : (b.extract 0 k).size ≤ maxLen := maxLen_of (ext_le _ _ _ hb)
        have zc : (c.extract 0 k).size ≤ maxLen := maxLen_of (ext_le _ _ _ hc)
        have ZA := Lib.hid za
        have ZB := Lib.hid zb
        have ZC := Lib.hid zc
        have ZX := Lib.hid hz
        clear hfull hlin hq1 hq2 hq3 hq4 hx l1 l2 l3 za zb zc hz
        have hcv : ∀ w2, Reg.Ext wr w2 → (convert 32 9 (.slice (some ⟨g, 0, none⟩) k cap)).run Tryd.prog w2 = .ok (.string ⟨x.toArray⟩) w2 := fun w2 h => (HB.out.ext h).str _ _ _ Tryd.underlying32 Tryd.underlying5 Tryd.underlying9 k cap hxl
        have HCV := Lib.hid hcv
        clear hcv hxl
        generalize hxx : (⟨x.toArray⟩ : ByteArray) = xs at *
        clear hxx
        go_wp2_with fail
        apply Reg.wp_tab Reg.Ext (by kernel_rfl) (by kernel_rfl) Reg.Ext.refl (fun _ _ _ => Reg.Ext.trans) (Reg.Ext.drew _)
        case h =>
          intro O
          repeat (first
            | (apply Reg.TW.move_ Reg.Ext.refl _ rfl rfl
               · simp only [Act.put, Act.eval, List.setIfInBounds_toArray, List.set_cons_zero, List.set_cons_succ, Nat.reduceAdd, Array.getD_eq_getD_getElem?, List.getElem?_toArray, List.getElem?_cons_succ, List.getElem?_cons_zero, Option.getD_some]
                 rfl)
            | (apply Reg.TW.assign_ Reg.Ext.refl _ rfl rfl
               · simp only [Act.put, Act.eval, List.setIfInBounds_toArray, List.set_cons_zero, List.set_cons_succ, Nat.reduceAdd, Array.getD_eq_getD_getElem?, List.getElem?_toArray, List.getElem?_cons_succ, List.getElem?_cons_zero, Option.getD_some]
                 rfl)
            | (apply Reg.TW.skip_ rfl
               · simp only [Act.put, Act.eval, List.setIfInBounds_toArray, List.set_cons_zero, List.set_cons_succ, Nat.reduceAdd, Array.getD_eq_getD_getElem?, List.getElem?_toArray, List.getElem?_cons_succ, List.getElem?_cons_zero, Option.getD_some]
                 rfl)
            | (apply Reg.TW.pure_ rfl
               · intro w1 hw1 hf K hK
                 simp only [Act.put, List.setIfInBounds_toArray, List.set_cons_zero, List.set_cons_succ] at hK
                 have HK := Lib.hid hK
                 clear hf hK
                 unfold Reg.One; dsimp only
                 go_wp2_with fail
                 exact HK.out _ (Reg.Ext.refl _)
               · simp only [Act.put, Act.eval, List.setIfInBounds_toArray, List.set_cons_zero, List.set_cons_succ, Nat.reduceAdd, Array.getD_eq_getD_getElem?, List.getElem?_toArray, List.getElem?_cons_succ, List.getElem?_cons_zero, Option.getD_some]
                 rfl))
          apply Reg.TW.any_ (fun vq wq => ∃ bq, vq = .slice (some ⟨bq, 0, none⟩) 1 1 ∧ Rd wq (some ⟨bq, 0, none⟩) (List.map strV [a.extract 0 k])) rfl (fun _ _ _ h ⟨bq, e, hr⟩ => ⟨bq, e, hr.below h⟩)
          · intro w1 hw1 hf K hK
            simp only [Act.put, List.setIfInBounds_toArray, List.set_cons_zero, List.set_cons_succ] at hK
            have HK := Lib.hid hK
            clear hK
            unfold Reg.One; dsimp only
            go_wp2_with fail
            exact HK.out _ _ (Reg.Ext.alloc _ _) ⟨_, rfl, Rd.new w1 9 (List.map strV [a.extract 0 k]).toArray⟩
          intro v48 a1 ha
          simp only [Act.put, Act.eval, List.setIfInBounds_toArray, List.set_cons_zero, List.set_cons_succ, Nat.reduceAdd, Array.getD_eq_getD_getElem?, List.getElem?_toArray, List.getElem?_cons_succ, List.getElem?_cons_zero, Option.getD_some] at ha
          subst ha
          apply Reg.TW.call_ (c := .int .u32 (ofS [a.extract 0 k] : Nat)) (fun _ => True) rfl (fun _ _ _ h => h)
          · intro w1 hw1 hf K hK
            simp only [Act.put, List.setIfInBounds_toArray, List.set_cons_zero, List.set_cons_succ] at hK
            have HK := Lib.hid hK
            clear hK
            unfold Reg.One; dsimp only
            obtain ⟨b0, rfl, hr⟩ := hf.get0 (by kernel_rfl)
            have HT1 := HT.out.below (HX.out.trans hw1)
            go_wp2_with fail
            refine (of_one _ 1 _ _ _ rfl hr ZA.out HT1).mono ?_
            rintro e w' ⟨rfl, rfl⟩
            go_wp2_with fail
            exact HK.out _ (Reg.Ext.refl _) trivial
          · simp only [Act.put, Act.eval, List.setIfInBounds_toArray, List.set_cons_zero, List.set_cons_succ, Nat.reduceAdd, Array.getD_eq_getD_getElem?, List.getElem?_toArray, List.getElem?_cons_succ, List.getElem?_cons_zero, Option.getD_some]
            rfl
          repeat (first
            | (apply Reg.TW.move_ Reg.Ext.refl _ rfl rfl
               · simp only [Act.put, Act.eval, List.setIfInBounds_toArray, List.set_cons_zero, List.set_cons_succ, Nat.reduceAdd, Array.getD_eq_getD_getElem?, List.getElem?_toArray, List.getElem?_cons_succ, List.getElem?_cons_zero, Option.getD_some]
                 rfl)
            | (apply Reg.TW.assign_ Reg.Ext.refl _ rfl rfl
               · simp only [Act.put, Act.eval, List.setIfInBounds_toArray, List.set_cons_zero, List.set_cons_succ, Nat.reduceAdd, Array.getD_eq_getD_getElem?, List.getElem?_toArray, List.getElem?_cons_succ, List.getElem?_cons_zero, Option.getD_some]
                 rfl)
            | (apply Reg.TW.skip_ rfl
               · simp only [Act.put, Act.eval, List.setIfInBounds_toArray, List.set_cons_zero, List.set_cons_succ, Nat.reduceAdd, Array.getD_eq_getD_getElem?, List.getElem?_toArray, List.getElem?_cons_succ, List.getElem?_cons_zero, Option.getD_some]
                 rfl)
            | (apply Reg.TW.pure_ rfl
               · intro w1 hw1 hf K hK
                 simp only [Act.put, List.setIfInBounds_toArray, List.set_cons_zero, List.set_cons_succ] at hK
                 have HK := Lib.hid hK
                 clear hf hK
                 unfold Reg.One; dsimp only
                 go_wp2_with fail
                 exact HK.out _ (Reg.Ext.refl _)
               · simp only [Act.put, Act.eval, List.setIfInBounds_toArray, List.set_cons_zero, List.set_cons_succ, Nat.reduceAdd, Array.getD_eq_getD_getElem?, List.getElem?_toArray, List.getElem?_cons_succ, List.getElem?_cons_zero, Option.getD_some]
                 rfl))
          apply Reg.TW.any_ (fun vq wq => ∃ bq, vq = .slice (some ⟨bq, 0, none⟩) 1 1 ∧ Rd wq (some ⟨bq, 0, none⟩) (List.map strV [b.extract 0 k])) rfl (fun _ _ _ h ⟨bq, e, hr⟩ => ⟨bq, e, hr.below h⟩)
          · intro w1 hw1 hf K hK
            simp only [Act.put, List.setIfInBounds_toArray, List.set_cons_zero, List.set_cons_succ] at hK
            have HK := Lib.hid hK
            clear hK
            unfold Reg.One; dsimp only
            go_wp2_with fail
            exact HK.out _ _ (Reg.Ext.alloc _ _) ⟨_, rfl, Rd.new w1 9 (List.map strV [b.extract 0 k]).toArray⟩
          intro v53 a1 ha
          simp only [Act.put, Act.eval, List.setIfInBounds_toArray, List.set_cons_zero, List.set_cons_succ, Nat.reduceAdd, Array.getD_eq_getD_getElem?, List.getElem?_toArray, List.getElem?_cons_succ, List.getElem?_cons_zero, Option.getD_some] at ha
          subst ha
          apply Reg.TW.call_ (c := .int .u32 (ofS [b.extract 0 k] : Nat)) (fun _ => True) rfl (fun _ _ _ h => h)
          · intro w1 hw1 hf K hK
            simp only [Act.put, List.setIfInBounds_toArray, List.set_cons_zero, List.set_cons_succ] at hK
            have HK := Lib.hid hK
            clear hK
            unfold Reg.One; dsimp only
            obtain ⟨b0, rfl, hr⟩ := hf.get0 (by kernel_rfl)
            have HT1 := HT.out.below (HX.out.trans hw1)
            go_wp2_with fail
            refine (of_one _ 1 _ _ _ rfl hr ZB.out HT1).mono ?_
            rintro e w' ⟨rfl, rfl⟩
            go_wp2_with fail
            exact HK.out _ (Reg.Ext.refl _) trivial
          · simp only [Act.put, Act.eval, List.setIfInBounds_toArray, List.set_cons_zero, List.set_cons_succ, Nat.reduceAdd, Array.getD_eq_getD_getElem?, List.getElem?_toArray, List.getElem?_cons_succ, List.getElem?_cons_zero, Option.getD_some]
            rfl
          repeat (first
            | (apply Reg.TW.move_ Reg.Ext.refl _ rfl rfl
               · simp only [Act.put, Act.eval, List.setIfInBounds_toArray, List.set_cons_zero, List.set_cons_succ, Nat.reduceAdd, Array.getD_eq_getD_getElem?, List.getElem?_toArray, List.getElem?_cons_succ, List.getElem?_cons_zero, Option.getD_some]
                 rfl)
            | (apply Reg.TW.assign_ Reg.Ext.refl _ rfl rfl
               · simp only [Act.put, Act.eval, List.setIfInBounds_toArray, List.set_cons_zero, List.set_cons_succ, Nat.reduceAdd, Array.getD_eq_getD_getElem?, List.getElem?_toArray, List.getElem?_cons_succ, List.getElem?_cons_zero, Option.getD_some]
                 rfl)
            | (apply Reg.TW.skip_ rfl
               · simp only [Act.put, Act.eval, List.setIfInBounds_toArray, List.set_cons_zero, List.set_cons_succ, Nat.reduceAdd, Array.getD_eq_getD_getElem?, List.getElem?_toArray, List.getElem?_cons_succ, List.getElem?_cons_zero, Option.getD_some]
                 rfl)
            | (apply Reg.TW.pure_ rfl
               · intro w1 hw1 hf K hK
                 simp only [Act.put, List.setIfInBounds_toArray, List.set_cons_zero, List.set_cons_succ] at hK
                 have HK := Lib.hid hK
                 clear hf hK
                 unfold Reg.One; dsimp only
                 go_wp2_with fail
                 exact HK.out _ (Reg.Ext.refl _)
               · simp only [Act.put, Act.eval, List.setIfInBounds_toArray, List.set_cons_zero, List.set_cons_succ, Nat.reduceAdd, Array.getD_eq_getD_getElem?, List.getElem?_toArray, List.getElem?_cons_succ, List.getElem?_cons_zero, Option.getD_some]
                 rfl))
          apply Reg.TW.any_ (fun vq wq => ∃ bq, vq = .slice (some ⟨bq, 0, none⟩) 1 1 ∧ Rd wq (some ⟨bq, 0, none⟩) (List.map strV [c.extract 0 k])) rfl (fun _ _ _ h ⟨bq, e, hr⟩ => ⟨bq, e, hr.below h⟩)
          · intro w1 hw1 hf K hK
            simp only [Act.put, List.setIfInBounds_toArray, List.set_cons_zero, List.set_cons_succ] at hK
            have HK := Lib.hid hK
            clear hK
            unfold Reg.One; dsimp only
            go_wp2_with fail
            exact HK.out _ _ (Reg.Ext.alloc _ _) ⟨_, rfl, Rd.new w1 9 (List.map strV [c.extract 0 k]).toArray⟩
          intro v59 a1 ha
          simp only [Act.put, Act.eval, List.setIfInBounds_toArray, List.set_cons_zero, List.set_cons_succ, Nat.reduceAdd, Array.getD_eq_getD_getElem?, List.getElem?_toArray, List.getElem?_cons_succ, List.getElem?_cons_zero, Option.getD_some] at ha
          subst ha
          apply Reg.TW.call_ (c := .int .u32 (ofS [c.extract 0 k] : Nat)) (fun _ => True) rfl (fun _ _ _ h => h)
          · intro w1 hw1 hf K hK
            simp only [Act.put, List.setIfInBounds_toArray, List.set_cons_zero, List.set_cons_succ] at hK
            have HK := Lib.hid hK
            clear hK
            unfold Reg.One; dsimp only
            obtain ⟨b0, rfl, hr⟩ := hf.get0 (by kernel_rfl)
            have HT1 := HT.out.below (HX.out.trans hw1)
            go_wp2_with fail
            refine (of_one _ 1 _ _ _ rfl hr ZC.out HT1).mono ?_
            rintro e w' ⟨rfl, rfl⟩
            go_wp2_with fail
            exact HK.out _ (Reg.Ext.refl _) trivial
          · simp only [Act.put, Act.eval, List.setIfInBounds_toArray, List.set_cons_zero, List.set_cons_succ, Nat.reduceAdd, Array.getD_eq_getD_getElem?, List.getElem?_toArray, List.getElem?_cons_succ, List.getElem?_cons_zero, Option.getD_some]
            rfl
          repeat (first
            | (apply Reg.TW.move_ Reg.Ext.refl _ rfl rfl
               · simp only [Act.put, Act.eval, List.setIfInBounds_toArray, List.set_cons_zero, List.set_cons_succ, Nat.reduceAdd, Array.getD_eq_getD_getElem?, List.getElem?_toArray, List.getElem?_cons_succ, List.getElem?_cons_zero, Option.getD_some]
                 rfl)
            | (apply Reg.TW.assign_ Reg.Ext.refl _ rfl rfl
               · simp only [Act.put, Act.eval, List.setIfInBounds_toArray, List.set_cons_zero, List.set_cons_succ, Nat.reduceAdd, Array.getD_eq_getD_getElem?, List.getElem?_toArray, List.getElem?_cons_succ, List.getElem?_cons_zero, Option.getD_some]
                 rfl)
            | (apply Reg.TW.skip_ rfl
               · simp only [Act.put, Act.eval, List.setIfInBounds_toArray, List.set_cons_zero, List.set_cons_succ, Nat.reduceAdd, Array.getD_eq_getD_getElem?, List.getElem?_toArray, List.getElem?_cons_succ, List.getElem?_cons_zero, Option.getD_some]
                 rfl)
            | (apply Reg.TW.pure_ rfl
               · intro w1 hw1 hf K hK
                 simp only [Act.put, List.setIfInBounds_toArray, List.set_cons_zero, List.set_cons_succ] at hK
                 have HK := Lib.hid hK
                 clear hf hK
                 have hcv1 := HCV.out _ hw1
                 unfold Reg.One; dsimp only
                 go_wp2_with fail
                 exact HK.out _ (Reg.Ext.refl _)
               · simp only [Act.put, Act.eval, List.setIfInBounds_toArray, List.set_cons_zero, List.set_cons_succ, Nat.reduceAdd, Array.getD_eq_getD_getElem?, List.getElem?_toArray, List.getElem?_cons_succ, List.getElem?_cons_zero, Option.getD_some]
                 rfl))
          apply Reg.TW.any_ (fun vq wq => ∃ bq, vq = .slice (some ⟨bq, 0, none⟩) 1 1 ∧ Rd wq (some ⟨bq, 0, none⟩) (List.map strV [xs])) rfl (fun _ _ _ h ⟨bq, e, hr⟩ => ⟨bq, e, hr.below h⟩)
          · intro w1 hw1 hf K hK
            simp only [Act.put, List.setIfInBounds_toArray, List.set_cons_zero, List.set_cons_succ] at hK
            have HK := Lib.hid hK
            clear hK
            unfold Reg.One; dsimp only
            go_wp2_with fail
            exact HK.out _ _ (Reg.Ext.alloc _ _) ⟨_, rfl, Rd.new w1 9 (List.map strV [xs]).toArray⟩
          intro v64 a1 ha
          simp only [Act.put, Act.eval, List.setIfInBounds_toArray, List.set_cons_zero, List.set_cons_succ, Nat.reduceAdd, Array.getD_eq_getD_getElem?, List.getElem?_toArray, List.getElem?_cons_succ, List.getElem?_cons_zero, Option.getD_some] at ha
          subst ha
          apply Reg.TW.call_ (c := .int .u32 (ofS [xs] : Nat)) (fun _ => True) rfl (fun _ _ _ h => h)
          · intro w1 hw1 hf K hK
            simp only [Act.put, List.setIfInBounds_toArray, List.set_cons_zero, List.set_cons_succ] at hK
            have HK := Lib.hid hK
            clear hK
            unfold Reg.One; dsimp only
            obtain ⟨b0, rfl, hr⟩ := hf.get0 (by kernel_rfl)
            have HT1 := HT.out.below (HX.out.trans hw1)
            go_wp2_with fail
            refine (of_one _ 1 _ _ _ rfl hr ZX.out HT1).mono ?_
            rintro e w' ⟨rfl, rfl⟩
            go_wp2_with fail
            exact HK.out _ (Reg.Ext.refl _) trivial
          · simp only [Act.put, Act.eval, List.setIfInBounds_toArray, List.set_cons_zero, List.set_cons_succ, Nat.reduceAdd, Array.getD_eq_getD_getElem?, List.getElem?_toArray, List.getElem?_cons_succ, List.getElem?_cons_zero, Option.getD_some]
            rfl
          repeat (first
            | (apply Reg.TW.move_ Reg.Ext.refl _ rfl rfl
               · simp only [Act.put, Act.eval, List.setIfInBounds_toArray, List.set_cons_zero, List.set_cons_succ, Nat.reduceAdd, Array.getD_eq_getD_getElem?, List.getElem?_toArray, List.getElem?_cons_succ, List.getElem?_cons_zero, Option.getD_some]
                 rfl)
            | (apply Reg.TW.assign_ Reg.Ext.refl _ rfl rfl
               · simp only [Act.put, Act.eval, List.setIfInBounds_toArray, List.set_cons_zero, List.set_cons_succ, Nat.reduceAdd, Array.getD_eq_getD_getElem?, List.getElem?_toArray, List.getElem?_cons_succ, List.getElem?_cons_zero, Option.getD_some]
                 rfl)
            | (apply Reg.TW.skip_ rfl
               · simp only [Act.put, Act.eval, List.setIfInBounds_toArray, List.set_cons_zero, List.set_cons_succ, Nat.reduceAdd, Array.getD_eq_getD_getElem?, List.getElem?_toArray, List.getElem?_cons_succ, List.getElem?_cons_zero, Option.getD_some]
                 rfl)
            | (apply Reg.TW.pure_ rfl
               · intro w1 hw1 hf K hK
                 simp only [Act.put, List.setIfInBounds_toArray, List.set_cons_zero, List.set_cons_succ] at hK
                 have HK := Lib.hid hK
                 clear hf hK
                 unfold Reg.One; dsimp only
                 go_wp2_with fail
                 exact HK.out _ (Reg.Ext.refl _)
               · simp only [Act.put, Act.eval, List.setIfInBounds_toArray, List.set_cons_zero, List.set_cons_succ, Nat.reduceAdd, Array.getD_eq_getD_getElem?, List.getElem?_toArray, List.getElem?_cons_succ, List.getElem?_cons_zero, Option.getD_some]
                 rfl))
          refine Reg.TW.nil_ ?_
          intro w3 hw3 _
          go_wp2
          go_ret
          exact ⟨rfl, HX.out.trans hw3⟩
        case hlen => rfl
  · have d1 : decide ((4096 : Int) < (n : Int)) = true := by simp; omega
    go_enter Tryd.func6, Tryd.ntmps6
    go_wp2_with fail
    refine (awake_any _ HT.out).mono ?_
    rintro e w1 ⟨rfl, x1⟩
    go_wp2_with fail
    go_ret
    exact ⟨rfl, x1⟩
end Crc
end Go.Proofs.YtphjephneaaohaaDoor

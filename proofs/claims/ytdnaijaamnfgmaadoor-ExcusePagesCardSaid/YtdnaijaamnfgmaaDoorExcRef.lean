/- The document's one, Quote, Read. -/
import Derived.Test.YtdnaijaamnfgmaaDoorExcOf
import Derived.Test.YtdnaijaamnfgmaaDoorHexRefH
set_option linter.unusedSimpArgs false
set_option linter.unusedVariables false
set_option linter.unusedSectionVars false
namespace Go.Proofs.YtdnaijaamnfgmaaDoor
open Go.RowKit
namespace Exc
open ExcP HexP
theorem body_match {c : UInt8} {l : List UInt8} (h : enc1 c <+: l) : bodyF l = (bodyF (l.drop (enc1 c).length)).map (put c) := by
  obtain ⟨r, rfl⟩ := h
  rw [bodyF_enc1, List.drop_left]
theorem body_nomatch {c : UInt8} {l : List UInt8} (h1 : c ≠ 34) (h : ∀ x, ¬ enc1 x <+: c :: l) : bodyF (c :: l) = none := by
  cases hb : bodyF (c :: l) with
  | none => rfl
  | some p =>
    obtain ⟨t, q⟩ := p
    have hs := bodyF_spec (c :: l).length (Nat.le_refl _) hb
    cases t with
    | nil =>
      rw [enc_nil, List.nil_append] at hs
      injection hs with e _
      exact absurd e h1
    | cons x t =>
      exact absurd ⟨enc t ++ 34 :: q, by rw [hs, enc_cons, List.append_assoc]⟩ (h x)
theorem enc1_pos (c : UInt8) : 1 ≤ (enc1 c).length := by
  unfold enc1
  split
  · simp
  · split <;> simp
set_option maxHeartbeats 4000000 in
theorem one_any (c : UInt8) (w : World) : Calls Tryd.prog 22 #[.int .u8 (c.toNat : Int)] w fun e w' => e = .returned (.string ⟨(enc1 c).toArray⟩) ∧ Reg.Ext w w' := by
  have e1 : ((c.toNat : Int) == 34) = decide (c = 34) := b_eq c 34 (by decide)
  have e2 : ((c.toNat : Int) == 92) = decide (c = 92) := b_eq c 92 (by decide)
  have e3 : ((c.toNat : Int) == 10) = decide (c = 10) := b_eq c 10 (by decide)
  have e4 : ((c.toNat : Int) == 13) = decide (c = 13) := b_eq c 13 (by decide)
  have e5 : ((c.toNat : Int) == 9) = decide (c = 9) := b_eq c 9 (by decide)
  have hcs := conv_bytes (w.alloc (.cells #[.int .u8 (c.toNat : Int)] 5)) 49 9 5 Tryd.underlying49 Tryd.underlying5 Tryd.underlying9 w.heap.size 0 1 1 [c] rfl (fun j hj => by
      match j, hj with
      | 0, _ => exact (Blk.new w 5 #[.int .u8 (c.toNat : Int)]).cell 0)
  have HX := Lib.hid (Reg.Ext.alloc w (.cells #[.int .u8 (c.toNat : Int)] 5))
  go_enter Tryd.func22, Tryd.ntmps22
  rcases short_cases c with ⟨h1, h⟩ | ⟨h1, h⟩ | ⟨h1, h⟩ | ⟨h1, h⟩ | ⟨h1, h⟩ | ⟨h1, h2, h3, h4, h5, h⟩
  · have HV := Lib.hid (show (⟨(enc1 c).toArray⟩ : ByteArray) = ⟨#[92]⟩ ++ ⟨#[c]⟩ by rw [h1]; exact ba_ext (by simp [show enc1 34 = [92, 34] from rfl]))
    have t1 : ((c.toNat : Int) == 34) = true := by rw [e1]; exact decide_eq_true h1
    clear e1 e2 e3 e4 e5 h h1
    go_wp2_with fail
    go_ret
    exact ⟨by rw [HV.out]; rfl, HX.out⟩
  · have HV := Lib.hid (show (⟨(enc1 c).toArray⟩ : ByteArray) = ⟨#[92]⟩ ++ ⟨#[c]⟩ by rw [h1]; exact ba_ext (by simp [show enc1 92 = [92, 92] from rfl]))
    have t1 : ((c.toNat : Int) == 34) = false := by rw [e1, h1]; rfl
    have t2 : ((c.toNat : Int) == 92) = true := by rw [e2]; exact decide_eq_true h1
    clear e1 e2 e3 e4 e5 h h1
    go_wp2_with fail
    go_ret
    exact ⟨by rw [HV.out]; rfl, HX.out⟩
  · have HV := Lib.hid (show (⟨(enc1 c).toArray⟩ : ByteArray) = ⟨#[92, 110]⟩ by rw [h1]; rfl)
    have t1 : ((c.toNat : Int) == 34) = false := by rw [e1, h1]; rfl
    have t2 : ((c.toNat : Int) == 92) = false := by rw [e2, h1]; rfl
    have t3 : ((c.toNat : Int) == 10) = true := by rw [e3]; exact decide_eq_true h1
    clear e1 e2 e3 e4 e5 h h1
    go_wp2_with fail
    go_ret
    exact ⟨by rw [HV.out]; rfl, HX.out⟩
  · have HV := Lib.hid (show (⟨(enc1 c).toArray⟩ : ByteArray) = ⟨#[92, 114]⟩ by rw [h1]; rfl)
    have t1 : ((c.toNat : Int) == 34) = false := by rw [e1, h1]; rfl
    have t2 : ((c.toNat : Int) == 92) = false := by rw [e2, h1]; rfl
    have t3 : ((c.toNat : Int) == 10) = false := by rw [e3, h1]; rfl
    have t4 : ((c.toNat : Int) == 13) = true := by rw [e4]; exact decide_eq_true h1
    clear e1 e2 e3 e4 e5 h h1
    go_wp2_with fail
    go_ret
    exact ⟨by rw [HV.out]; rfl, HX.out⟩
  · have HV := Lib.hid (show (⟨(enc1 c).toArray⟩ : ByteArray) = ⟨#[92, 116]⟩ by rw [h1]; rfl)
    have t1 : ((c.toNat : Int) == 34) = false := by rw [e1, h1]; rfl
    have t2 : ((c.toNat : Int) == 92) = false := by rw [e2, h1]; rfl
    have t3 : ((c.toNat : Int) == 10) = false := by rw [e3, h1]; rfl
    have t4 : ((c.toNat : Int) == 13) = false := by rw [e4, h1]; rfl
    have t5 : ((c.toNat : Int) == 9) = true := by rw [e5]; exact decide_eq_true h1
    clear e1 e2 e3 e4 e5 h h1
    go_wp2_with fail
    go_ret
    exact ⟨by rw [HV.out]; rfl, HX.out⟩
  · rw [decide_eq_false h1] at e1
    rw [decide_eq_false h2] at e2
    rw [decide_eq_false h3] at e3
    rw [decide_eq_false h4] at e4
    rw [decide_eq_false h5] at e5
    clear h1 h2 h3 h4 h5
    cases hr : raw c with
    | true =>
      obtain ⟨d2, d3⟩ := (raw_tests c).1 hr
      have HV := Lib.hid (show (⟨(enc1 c).toArray⟩ : ByteArray) = ⟨#[c]⟩ by rw [enc1_raw c h hr])
      clear h hr
      go_wp2_with fail
      go_ret
      exact ⟨by rw [HV.out]; rfl, HX.out⟩
    | false =>
      have HV := Lib.hid (show (⟨(enc1 c).toArray⟩ : ByteArray) = ⟨#[92, 117, 48, 48]⟩ ++ ⟨(hex [c]).toArray⟩ by rw [enc1_long c h hr]; exact ba_ext (by simp [hex]))
      rcases (raw_tests c).2 hr with d2 | ⟨d2, d3⟩
      · clear h hr
        go_wp2_with fail
        refine (Hex.hexR_any ⟨#[c]⟩ _ (by show 1 ≤ _; omega)).mono ?_
        rintro e w2 ⟨rfl, x2⟩
        have HX2 := Lib.hid (HX.out.trans x2)
        clear x2 hcs
        go_wp2_with fail
        go_ret
        exact ⟨by rw [HV.out]; rfl, HX2.out⟩
      · clear h hr
        go_wp2_with fail
        refine (Hex.hexR_any ⟨#[c]⟩ _ (by show 1 ≤ _; omega)).mono ?_
        rintro e w2 ⟨rfl, x2⟩
        have HX2 := Lib.hid (HX.out.trans x2)
        clear x2 hcs
        go_wp2_with fail
        go_ret
        exact ⟨by rw [HV.out]; rfl, HX2.out⟩
def outB (l : List UInt8) (k : Nat) : ByteArray := ⟨(34 :: enc (l.take k)).toArray⟩
theorem outB_le (l : List UInt8) (k : Nat) : (outB l k).size ≤ 6 * k + 1 := by
  unfold outB
  rw [siz, List.length_cons]
  have := enc_len (l.take k)
  have := List.length_take_le k l
  omega
theorem outB_step (l : List UInt8) (k : Nat) (h : k < l.length) : outB l (k + 1) = outB l k ++ ⟨(enc1 l[k]).toArray⟩ := by
  refine ba_ext ?_
  have e : enc (l.take (k + 1)) = enc (l.take k) ++ enc1 l[k] := by rw [List.take_succ_eq_append_getElem h, enc_append, enc_cons, enc_nil, List.append_nil]
  unfold outB
  rw [e]
  simp
set_option maxHeartbeats 4000000 in
theorem quoteR_any (s : ByteArray) (w : World) (hs : s.size ≤ 17179869184) :
    Calls Tryd.prog 14 #[.string s] w fun e w' => e = .returned (.string ⟨(quote s.data.toList).toArray⟩) ∧ Reg.Ext w w' := by
  go_enter Tryd.func14, Tryd.ntmps14
  go_wp2_with fail
  go_loopw [3, 4] (fun o i wr => ∃ k : Nat, k ≤ s.size ∧ i = .int .i64 k ∧ o = .string (outB s.data.toList k) ∧ Hid (Reg.Ext w wr)) (fun _ i _ => s.size - (intOf i).toNat)
  case atStart => exact ⟨0, Nat.zero_le _, rfl, rfl, Reg.Ext.refl _⟩
  case round =>
    obtain ⟨k, hk, rfl, rfl, HX⟩ := hrel
    by_cases hks : k < s.size
    · have hkl : k < s.data.toList.length := by rw [len_data]; exact hks
      have hle := outB_le s.data.toList k
      have HS : Hid (outB s.data.toList (k + 1) = outB s.data.toList k ++ ⟨(enc1 s[k]).toArray⟩) := outB_step s.data.toList k hkl
      have hel := enc1_len s[k]
      have HO := Lib.hid (one_any s[k])
      obtain ⟨E, hE⟩ : ∃ E : ByteArray, E = ⟨(enc1 s[k]).toArray⟩ := ⟨_, rfl⟩
      have hEs : E.size ≤ 6 := by rw [hE, siz]; exact hel
      rw [← hE] at HS HO
      clear hE hel
      generalize outB s.data.toList k = O at *
      go_wp2_with fail
      refine (HO.out wr).mono ?_
      rintro e w1 ⟨rfl, x1⟩
      have HX1 := Lib.hid (HX.out.trans x1)
      clear x1 HO
      go_wp2_with fail
      go_roundw
      case rel => exact ⟨k + 1, by omega, by go_num, by rw [HS.out], HX1⟩
      case measure => simp [intOf]; omega
    · have hk' : k = s.size := by omega
      subst hk'
      have HV := Lib.hid (show (⟨(quote s.data.toList).toArray⟩ : ByteArray) = outB s.data.toList s.size ++ ⟨#[34]⟩ by
        refine ba_ext ?_
        unfold outB quote
        rw [List.take_of_length_le (by rw [len_data]; exact Nat.le_refl _)]
        simp)
      have hle := outB_le s.data.toList s.size
      generalize outB s.data.toList s.size = O at *
      go_wp2_with fail
      go_ret
      exact ⟨by rw [HV.out]; rfl, HX.out⟩
end Exc
end Go.Proofs.YtdnaijaamnfgmaaDoor

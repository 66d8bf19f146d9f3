/- The document's Read. -/
import Derived.Test.YtdnaijaamnfgmaaDoorExcRef
set_option linter.unusedSimpArgs false
set_option linter.unusedVariables false
set_option linter.unusedSectionVars false
namespace Go.Proofs.YtdnaijaamnfgmaaDoor
open Go.RowKit
namespace Exc
open ExcP HexP
def readR (l : List UInt8) : List UInt8 × Nat := match readP l with
  | some (t, q) => (t, l.length - q.length)
  | none => ([], 0)
def readRV (l : List UInt8) : Value := .tuple #[.string ⟨(readR l).1.toArray⟩, .int .i64 ((readR l).2 : Int)]
theorem readRV_none {l : List UInt8} (h : readP l = none) : readRV l = .tuple #[.string ⟨#[]⟩, .int .i64 0] := by unfold readRV readR; rw [h]; rfl
theorem readRV_some {l t q : List UInt8} (h : readP l = some (t, q)) : readRV l = .tuple #[.string ⟨t.toArray⟩, .int .i64 ((l.length - q.length : Nat) : Int)] := by unfold readRV readR; rw [h]
theorem pre_take {p l : List UInt8} : p <+: l ↔ p.length ≤ l.length ∧ l.take p.length = p := by
  rw [List.prefix_iff_eq_take]
  constructor
  · intro h
    refine ⟨?_, h.symm⟩
    have := congrArg List.length h
    rw [List.length_take] at this
    omega
  · intro h; exact h.2.symm
theorem conv_b (k : Nat) (h : k < 256) : IntKind.u8.wrap (k : Int) = ((UInt8.ofNat k).toNat : Int) := by
  have : ∀ i : Fin 256, IntKind.u8.wrap (i.val : Int) = ((UInt8.ofNat i.val).toNat : Int) := by decide +kernel
  exact this ⟨k, h⟩
/-- how far the search for a byte has come -/
def Srch (w wr : World) (v : Value) (l rem : List UInt8) (n : Int) (b : Nat) : Prop :=
  (n = 0 ∧ Buf w wr v l ∧ ∀ c, c < b → ¬ enc1 (UInt8.ofNat c) <+: rem) ∨ (∃ x, n = ((enc1 x).length : Int) ∧ Buf w wr v (l ++ [x]) ∧ enc1 x <+: rem)
set_option maxRecDepth 100000 in
set_option maxHeartbeats 4000000 in
theorem readR_any (s : ByteArray) (w : World) (hs : s.size ≤ 17179869184) :
    Calls Tryd.prog 8 #[.string s] w fun e w' => e = .returned (readRV s.data.toList) ∧ Reg.Ext w w' := by
  go_enter Tryd.func8, Tryd.ntmps8
  by_cases h0 : s.size = 0
  · obtain ⟨e1, e2, e3⟩ := empty_of s h0
    have HV := Lib.hid (readRV_none (l := s.data.toList) (by rw [e1]; rfl))
    clear e1 h0
    go_wp2_with fail
    go_ret2
    exact ⟨by rw [HV.out]; rfl, Reg.Ext.refl _⟩
  have hsz : 0 < s.size := by omega
  obtain ⟨e2, e3⟩ := full_of s hsz
  obtain ⟨ls, hls⟩ := first_of s hsz
  by_cases hq : s[0] = 34
  case neg =>
    have HV := Lib.hid (readRV_none (l := s.data.toList) (by rw [hls, readP_cons, if_neg hq]))
    have d1 : ((s[0].toNat : Int) != 34) = true := by
      rw [bne_iff_ne]; intro e; exact hq (UInt8.toNat_inj.1 (by show s[0].toNat = 34; omega))
    clear hls hq
    go_wp2_with fail
    go_ret2
    exact ⟨by rw [HV.out]; rfl, Reg.Ext.refl _⟩
  have d1 : ((s[0].toNat : Int) != 34) = false := by rw [hq]; rfl
  have HR0 : Hid (readP s.data.toList = bodyF (s.data.toList.drop 1)) := by show _ = _; rw [hls, readP_cons, if_pos hq]; rfl
  have HBUF := Lib.hid (Buf.empty w w (Reg.Ext.refl w))
  clear hls hq
  go_wp2_with fail
  clear d1 e2 e3
  go_loopw [4, 5, 6, 7, 8] (fun v i _ _ _ wr => ∃ (k : Nat) (l : List UInt8), 1 ≤ k ∧ k ≤ s.size ∧ i = .int .i64 k ∧ Hid (Buf w wr v l) ∧ Hid (readP s.data.toList = (bodyF (s.data.toList.drop k)).map (fun p => (l ++ p.1, p.2))) ∧ l.length ≤ k) (fun _ i _ _ _ _ => s.size - (intOf i).toNat)
  case atStart => exact ⟨1, [], Nat.le_refl _, hsz, rfl, HBUF, by show _ = _; rw [HR0.out]; simp, by simp⟩
  case round =>
    obtain ⟨k, l, hk1, hk, rfl, HB, HR, hl⟩ := hrel
    clear HR0 HBUF
    by_cases hks : k < s.size
    · have hd : s.data.toList.drop k = s[k] :: s.data.toList.drop (k + 1) := List.drop_eq_getElem_cons (by rw [len_data]; exact hks)
      by_cases c1 : s[k] = 34
      · have d1 : ((s[k].toNat : Int) != 34) = false := by rw [c1]; rfl
        have HV := Lib.hid (readRV_some (l := s.data.toList) (t := l) (q := s.data.toList.drop (k + 1)) (by rw [HR.out, hd, c1, bodyF_end]; simp))
        have HN : Hid (((s.data.toList.length - (s.data.toList.drop (k + 1)).length : Nat) : Int) = (k : Int) + 1) := by
          show _ = _
          rw [List.length_drop, len_data]; omega
        have HX := Lib.hid HB.out.ext
        have hcs := HB.out.str
        clear c1 hd HR
        go_wp2_with fail
        go_ret2
        exact ⟨by rw [HV.out, HN.out]; rfl, HX.out⟩
      · have d1 : ((s[k].toNat : Int) != 34) = true := by
          rw [bne_iff_ne]; intro e; exact c1 (UInt8.toNat_inj.1 (by show s[k].toNat = 34; omega))
        have hlen : (s.data.toList.drop k).length = s.size - k := by rw [List.length_drop, len_data]
        have HM : Hid (∀ x, enc1 x <+: s.data.toList.drop k → readP s.data.toList = (bodyF (s.data.toList.drop (k + (enc1 x).length))).map (fun p => ((l ++ [x]) ++ p.1, p.2))) := fun x hx => by
          rw [HR.out, body_match hx, List.drop_drop, Option.map_map]
          congr 1
          funext p
          simp [put]
        have HN : Hid ((∀ x, ¬ enc1 x <+: s.data.toList.drop k) → readP s.data.toList = none) := fun hx => by
          rw [HR.out, hd, body_nomatch c1 (by rw [← hd]; exact hx)]
          rfl
        have HPT : Hid (∀ (E : ByteArray) x, E.data.toList = enc1 x → E.size ≤ s.size - k → ((s.extract k (k + E.size)).toList == E.toList) = decide (enc1 x <+: s.data.toList.drop k)) := fun E x hE hle => by
          rw [ByteArray.toList_eq, ByteArray.toList_eq, ext_data, hE, Bool.eq_iff_iff, beq_iff_eq, decide_eq_true_iff, pre_take, ← hE, len_data, hlen, Nat.add_sub_cancel_left]
          exact ⟨fun h => ⟨hle, h⟩, fun h => h.2⟩
        have HPS : Hid (∀ (E : ByteArray) x, E.data.toList = enc1 x → s.size - k < E.size → ¬ enc1 x <+: s.data.toList.drop k) := fun E x hE hlt h => by
          have := h.length_le
          rw [← hE, len_data, hlen] at this
          omega
        clear c1 hd HR
        generalize s.data.toList.drop k = rem at *
        go_wp2_with fail
        go_loopw [4, 6, 7, 8] (fun v n b _ wr => ∃ (c : Nat) (m : Int), c ≤ 256 ∧ b = .int .i64 c ∧ n = .int .i64 m ∧ Hid (Srch w wr v l rem m c)) (fun _ _ b _ _ => 256 - (intOf b).toNat)
        case atStart => exact ⟨0, 0, by omega, rfl, rfl, .inl ⟨rfl, HB.out, fun c hc => by omega⟩⟩
        case round =>
          obtain ⟨c, m, hc, rfl, rfl, HSR⟩ := hrel
          rcases HSR.out with ⟨rfl, hb, hno⟩ | ⟨x, rfl, hb, hx⟩
          · by_cases hc6 : c < 256
            · have hcv := conv_b c hc6
              have HB2 := Lib.hid hb
              have HNO := Lib.hid hno
              have HO := Lib.hid (one_any (UInt8.ofNat c))
              have HNX : Hid (¬ enc1 (UInt8.ofNat c) <+: rem → ∀ d, d < c + 1 → ¬ enc1 (UInt8.ofNat d) <+: rem) := fun h d hd => by
                by_cases hdc : d < c
                · exact HNO.out d hdc
                · have : d = c := by omega
                  subst this; exact h
              clear hb hno HSR
              generalize UInt8.ofNat c = x at *
              obtain ⟨E, hE⟩ : ∃ E : ByteArray, E = ⟨(enc1 x).toArray⟩ := ⟨_, rfl⟩
              have hEl : E.data.toList = enc1 x := by rw [hE, lst]
              have hEs : E.size ≤ 6 := by rw [← len_data, hEl]; exact enc1_len x
              rw [← hE] at HO
              have HPT1 := Lib.hid (HPT.out E x hEl)
              have HPS1 := Lib.hid (HPS.out E x hEl)
              have HEL : Hid (((enc1 x).length : Int) = (E.size : Int)) := by show _ = _; rw [← hEl, len_data]
              clear hE hEl
              go_wp2_with fail
              refine (HO.out wr).mono ?_
              rintro e w1 ⟨rfl, x1⟩
              have HB3 := Lib.hid (HB2.out.later x1)
              clear x1 HO HB2
              by_cases hfit : E.size ≤ s.size - k
              · have d2 : decide ((E.size : Int) ≤ (s.size : Int) - (k : Int)) = true := by rw [decide_eq_true_iff]; omega
                have t1 := HPT1.out hfit
                by_cases hp : enc1 x <+: rem
                · rw [decide_eq_true hp] at t1
                  have HP := Lib.hid hp
                  clear hp
                  go_wp2_with (refine Buf.push1 rfl (.tmp 56) (.tmp 59) rfl _ l rfl w w1 _ x rfl HB3.out rfl (by omega) ?_; intro v4 w4 hb4 hg4; have HB4 := Lib.hid hb4; clear hb4 hg4)
                  go_roundw
                  case rel => exact ⟨c + 1, _, by omega, by go_num, rfl, .inr ⟨x, HEL.out.symm, HB4.out, HP.out⟩⟩
                  case measure => simp [intOf]; omega
                · rw [decide_eq_false hp] at t1
                  have HNX2 := Lib.hid (HNX.out hp)
                  clear hp
                  go_wp2_with fail
                  go_roundw
                  case rel => exact ⟨c + 1, 0, by omega, by go_num, rfl, .inl ⟨rfl, HB3.out, HNX2.out⟩⟩
                  case measure => simp [intOf]; omega
              · have d2 : decide ((E.size : Int) ≤ (s.size : Int) - (k : Int)) = false := by rw [decide_eq_false_iff_not]; omega
                have HNX2 := Lib.hid (HNX.out (HPS1.out (by omega)))
                go_wp2_with fail
                go_roundw
                case rel => exact ⟨c + 1, 0, by omega, by go_num, rfl, .inl ⟨rfl, HB3.out, HNX2.out⟩⟩
                case measure => simp [intOf]; omega
            · have hc' : c = 256 := by omega
              subst hc'
              have hno2 : ∀ x, ¬ enc1 x <+: rem := fun x => by
                have := hno x.toNat x.toNat_lt
                rw [UInt8.ofNat_toNat] at this
                exact this
              have HV := Lib.hid (readRV_none (HN.out hno2))
              have HX := Lib.hid hb.ext
              clear hno hno2 hb HSR
              go_wp2_with fail
              go_ret2
              exact ⟨by rw [HV.out]; rfl, HX.out⟩
          · have hp := enc1_pos x
            have hlen2 := hx.length_le
            have HB2 := Lib.hid hb
            have HRX := Lib.hid (HM.out x hx)
            have hle6 := enc1_len x
            rw [hlen] at hlen2
            generalize (enc1 x).length = n at *
            have d5 : ((n : Int) == 0) = false := by rw [beq_eq_false_iff_ne]; omega
            clear hb hx HSR
            by_cases hc6 : c < 256
            · go_wp2_with fail
              go_roundw
              case rel => exact ⟨k + n, l ++ [x], by omega, by omega, by go_num, HB2, HRX, by simp; omega⟩
              case measure => simp [intOf]; omega
            · go_wp2_with fail
              go_roundw
              case rel => exact ⟨k + n, l ++ [x], by omega, by omega, by go_num, HB2, HRX, by simp; omega⟩
              case measure => simp [intOf]; omega
    · have hk' : k = s.size := by omega
      subst hk'
      have HV := Lib.hid (readRV_none (l := s.data.toList) (by rw [HR.out, List.drop_of_length_le (by rw [len_data]; exact Nat.le_refl _)]; rfl))
      have HX := Lib.hid HB.out.ext
      clear HR
      go_wp2_with fail
      go_ret2
      exact ⟨by rw [HV.out]; rfl, HX.out⟩
end Exc
end Go.Proofs.YtdnaijaamnfgmaaDoor

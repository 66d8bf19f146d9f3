/- Package excuse: Quote. -/
import Derived.Test.YtdnaijaamnfgmaaDoorExcWalks
import Derived.Test.YtdnaijaamnfgmaaDoorBufS
set_option linter.unusedSimpArgs false
set_option linter.unusedVariables false
set_option linter.unusedSectionVars false
namespace Go.Proofs.YtdnaijaamnfgmaaDoor
open Go.RowKit
namespace Exc
open ExcP HexP
theorem enc1_short (c : UInt8) (h : shortN c ≠ 0) : enc1 c = [92, shortN c] := by unfold enc1; rw [if_pos h]
theorem enc1_raw (c : UInt8) (h : shortN c = 0) (hr : raw c = true) : enc1 c = [c] := by unfold enc1; rw [if_neg (by rw [h]; decide), if_pos hr]
theorem enc1_long (c : UInt8) (h : shortN c = 0) (hr : raw c = false) : enc1 c = [92] ++ [117, 48, 48, dig (c.toNat / 16), dig (c.toNat % 16)] := by unfold enc1; rw [if_neg (by rw [h]; decide), if_neg (by rw [hr]; decide)]; rfl
theorem pts_hex (c : UInt8) : (⟨#[117, 48, 48]⟩ ++ (⟨(hex [c]).toArray⟩ : ByteArray) : ByteArray) = ⟨#[117, 48, 48, dig (c.toNat / 16), dig (c.toNat % 16)]⟩ := ba_ext (by simp [hex])
theorem n5 (a b d x y : UInt8) : (⟨#[a, b, d, x, y]⟩ : ByteArray).size = 5 := rfl
set_option maxRecDepth 100000 in
set_option maxHeartbeats 4000000 in
theorem quote_any (s : ByteArray) (w : World) (hs : s.size ≤ 137438953472) :
    Calls Tryd.prog 13 #[.string s] w fun e w' => e = .returned (.string ⟨(quote s.data.toList).toArray⟩) ∧ Reg.Ext w w' := by
  go_enter Tryd.func13, Tryd.ntmps13
  have hb0 : Buf w (w.alloc (.cells #[.int .u8 34] 5)) (.slice (some ⟨w.heap.size, 0, none⟩) 1 1) [34] := Buf.lit1 w w (Reg.Ext.refl w) 34
  obtain ⟨cap, w2, hcv, hby, hx2⟩ := BytesAt.of s (w.alloc (.cells #[.int .u8 34] 5))
  have HBUF := Lib.hid (hb0.later hx2)
  have HBY := Lib.hid hby
  have hgs : (w.alloc (.cells #[.int .u8 34] 5)).heap.size = w.heap.size + 1 := Array.size_push _
  rw [hgs] at HBY hcv
  clear hb0 hx2 hby hgs
  go_wp2_with fail
  clear hcv
  generalize w.heap.size + 1 = g at *
  generalize (.slice (some ⟨w.heap.size, 0, none⟩) 1 1 : Value) = v0 at *
  go_loopw [3, 5, 6, 11] (fun v _ _ i wr => ∃ k : Nat, k ≤ s.size ∧ i = .int .i64 k ∧ ∃ l : List UInt8, Hid (Buf w wr v l) ∧ Hid (34 :: enc s.data.toList = l ++ enc (s.data.toList.drop k)) ∧ l.length ≤ 6 * k + 1 ∧ Hid (BytesAt wr g s)) (fun _ _ _ i _ => s.size - (intOf i).toNat)
  case atStart => exact ⟨0, Nat.zero_le _, rfl, [34], HBUF, rfl, by simp, HBY⟩
  case round =>
    obtain ⟨k, hk, rfl, l, HB, HL, hl, HY⟩ := hrel
    clear HBUF HBY
    by_cases hks : k < s.size
    · have cb := HY.out.cell k hks
      have hd : s.data.toList.drop k = (s.data.toList[k]'(by rw [len_data]; exact hks)) :: s.data.toList.drop (k + 1) := List.drop_eq_getElem_cons (by rw [len_data]; exact hks)
      have hL := HL.out
      rw [hd, enc_cons, ← List.append_assoc] at hL
      generalize (s.data.toList[k]'(by rw [len_data]; exact hks)) = c at *
      have HL2 := Lib.hid hL
      clear hL hd HL
      go_wp2_with fail
      refine (short_any c wr).mono ?_
      rintro e w' ⟨rfl, rfl⟩
      by_cases h0 : shortN c = 0
      · rw [h0, show ((0 : UInt8).toNat : Int) = 0 from rfl]
        cases hr : raw c with
        | true =>
          obtain ⟨d2, d3⟩ := (raw_tests c).1 hr
          have HL3 : Hid (34 :: enc s.data.toList = (l ++ [c]) ++ enc (s.data.toList.drop (k + 1))) := by
            have := HL2.out; rw [enc1_raw c h0 hr] at this; exact this
          clear h0 hr HL2
          go_wp2_with (refine Buf.push1 rfl (.tmp 17) (.tmp 19) rfl _ l rfl w wr _ c rfl HB.out rfl (by omega) ?_; intro v4 w4 hb4 hg4; have HB4 := Lib.hid hb4; have HY4 := Lib.hid (HY.out.grown hg4 (HY.out.ne HB.out)); clear hb4 hg4)
          go_roundw
          case rel => exact ⟨k + 1, by omega, by go_num, l ++ [c], HB4, HL3, by simp; omega, HY4⟩
          case measure => simp [intOf]; omega
        | false =>
          have HL3 : Hid (34 :: enc s.data.toList = (l ++ [92] ++ [117, 48, 48, dig (c.toNat / 16), dig (c.toNat % 16)]) ++ enc (s.data.toList.drop (k + 1))) := by
            have := HL2.out
            rw [enc1_long c h0 hr] at this
            show _ = _
            rw [this]; simp
          rcases (raw_tests c).2 hr with d2 | ⟨d2, d3⟩
          · clear h0 hr HL2
            go_wp2_with fail
            obtain ⟨r, hr⟩ : ∃ r, u3.ownBlock = r := ⟨_, rfl⟩
            have hrl : ∀ (w1 : World), wr.heap.size ≤ w1.heap.size → some w1.heap.size ≠ r := fun w1 hw e => by
              have := HB.out.rlt (hr.trans e.symm)
              omega
            have hrg : r ≠ some g := by rw [← hr]; exact HY.out.ne HB.out
            have HRL := Lib.hid hrl
            have HRG := Lib.hid hrg
            have HRR := Lib.hid hr
            clear hrl hrg hr
            apply Rgp.wp_tab (GR r) Reg.Ext 2 8 (fun w1 => Buf w w1 u3 l) (by kernel_rfl) (by kernel_rfl) (by kernel_rfl) Reg.Ext.refl (fun _ _ h => GR.of_ext h) (fun _ _ _ => GR.trans) (GR.drew r wr) (fun _ _ h k => Buf.later k h) HB.out.drew
            case h =>
              intro O
              repeat (first
                | (apply Rgp.TW.move_ (R := GR _) (Rs := Reg.Ext) (fun _ _ h => GR.of_ext h) Reg.Ext.refl _ rfl rfl
                   · simp only [Act.put, Act.eval, List.setIfInBounds_toArray, List.set_cons_zero, List.set_cons_succ, Nat.reduceAdd, Array.getD_eq_getD_getElem?, List.getElem?_toArray, List.getElem?_cons_succ, List.getElem?_cons_zero, Option.getD_some]
                     rfl)
                | (apply Rgp.TW.assign_ (R := GR _) (Rs := Reg.Ext) (fun _ _ h => GR.of_ext h) Reg.Ext.refl _ rfl rfl
                   · simp only [Act.put, Act.eval, List.setIfInBounds_toArray, List.set_cons_zero, List.set_cons_succ, Nat.reduceAdd, Array.getD_eq_getD_getElem?, List.getElem?_toArray, List.getElem?_cons_succ, List.getElem?_cons_zero, Option.getD_some]
                     rfl)
                | (apply Rgp.TW.skip_ rfl
                   · simp only [Act.put, Act.eval, List.setIfInBounds_toArray, List.set_cons_zero, List.set_cons_succ, Nat.reduceAdd, Array.getD_eq_getD_getElem?, List.getElem?_toArray, List.getElem?_cons_succ, List.getElem?_cons_zero, Option.getD_some]
                     rfl)
                | (apply Rgp.TW.pure_ (R := GR _) (Rs := Reg.Ext) (fun _ _ h => GR.of_ext h) rfl (Or.inr (by kernel_rfl))
                   · intro w1 hw1 hf K hK
                     simp only [Act.put, List.setIfInBounds_toArray, List.set_cons_zero, List.set_cons_succ] at hK
                     have HK := Lib.hid hK
                     clear hf hK
                     unfold Reg.One; dsimp only
                     go_wp2_with fail
                     exact HK.out _ (Reg.Ext.refl _)
                   · simp only [Act.put, Act.eval, List.setIfInBounds_toArray, List.set_cons_zero, List.set_cons_succ, Nat.reduceAdd, Array.getD_eq_getD_getElem?, List.getElem?_toArray, List.getElem?_cons_succ, List.getElem?_cons_zero, Option.getD_some]
                     rfl))
              apply Rgp.TW.any_ (fun _ _ h => GR.of_ext h) (fun v w1 => ∃ b, v = .slice (some ⟨b, 0, none⟩) 1 1 ∧ some b ≠ r ∧ Blk w1 b 5 [.int .u8 92]) rfl (fun _ _ _ h ⟨b, e, hn, hb⟩ => ⟨b, e, hn, hb.gr h hn⟩) (Or.inr (by kernel_rfl))
              · intro w1 hw1 hf K hK
                simp only [Act.put, List.setIfInBounds_toArray, List.set_cons_zero, List.set_cons_succ] at hK
                have HK := Lib.hid hK
                clear hK
                unfold Reg.One; dsimp only
                go_wp2_with fail
                exact HK.out _ _ (Reg.Ext.alloc _ _) ⟨_, rfl, HRL.out _ hw1.size, Blk.new w1 5 #[.int .u8 92]⟩
              intro v1 a1 ha
              simp only [Act.put, Act.eval, List.setIfInBounds_toArray, List.set_cons_zero, List.set_cons_succ, Nat.reduceAdd, Array.getD_eq_getD_getElem?, List.getElem?_toArray, List.getElem?_cons_succ, List.getElem?_cons_zero, Option.getD_some] at ha
              subst ha
              apply Rgp.TW.turn_ (hp := by rfl) (S := fun v w1 => Buf w w1 v (l ++ [92]))
              case h => rfl
              case hS => exact fun _ _ _ h k => Buf.later k h
              case hb => exact Or.inr (by kernel_rfl)
              · intro w1 hw1 hs1 hf K hK
                obtain ⟨b, rfl, hn, hb⟩ := hf.get0 (by kernel_rfl) (Or.inr ⟨Or.inr (by kernel_rfl), by decide⟩)
                have HK := Lib.hid hK
                clear hK hf
                unfold Reg.One; dsimp only
                refine Buf.push rfl (.tmp 35) (.tmp 36) rfl u3 l [92] rfl w w1 b 1 hs1 rfl rfl ?_ (by simp; omega) ?_
                · intro j hj
                  match j, hj with
                  | 0, _ => exact hb.cell 0
                · intro v' w' h1 h2
                  exact HK.out v' w' (by rw [HRR.out] at h2; exact h2) h1
              intro v2 a2 ha
              simp only [Act.put, Act.eval, List.setIfInBounds_toArray, List.set_cons_zero, List.set_cons_succ, Nat.reduceAdd, Array.getD_eq_getD_getElem?, List.getElem?_toArray, List.getElem?_cons_succ, List.getElem?_cons_zero, Option.getD_some] at ha
              subst ha
              repeat (first
                | (apply Rgp.TW.move_ (R := GR _) (Rs := Reg.Ext) (fun _ _ h => GR.of_ext h) Reg.Ext.refl _ rfl rfl
                   · simp only [Act.put, Act.eval, List.setIfInBounds_toArray, List.set_cons_zero, List.set_cons_succ, Nat.reduceAdd, Array.getD_eq_getD_getElem?, List.getElem?_toArray, List.getElem?_cons_succ, List.getElem?_cons_zero, Option.getD_some]
                     rfl)
                | (apply Rgp.TW.assign_ (R := GR _) (Rs := Reg.Ext) (fun _ _ h => GR.of_ext h) Reg.Ext.refl _ rfl rfl
                   · simp only [Act.put, Act.eval, List.setIfInBounds_toArray, List.set_cons_zero, List.set_cons_succ, Nat.reduceAdd, Array.getD_eq_getD_getElem?, List.getElem?_toArray, List.getElem?_cons_succ, List.getElem?_cons_zero, Option.getD_some]
                     rfl)
                | (apply Rgp.TW.skip_ rfl
                   · simp only [Act.put, Act.eval, List.setIfInBounds_toArray, List.set_cons_zero, List.set_cons_succ, Nat.reduceAdd, Array.getD_eq_getD_getElem?, List.getElem?_toArray, List.getElem?_cons_succ, List.getElem?_cons_zero, Option.getD_some]
                     rfl)
                | (apply Rgp.TW.pure_ (R := GR _) (Rs := Reg.Ext) (fun _ _ h => GR.of_ext h) rfl (Or.inr (by kernel_rfl))
                   · intro w1 hw1 hf K hK
                     simp only [Act.put, List.setIfInBounds_toArray, List.set_cons_zero, List.set_cons_succ] at hK
                     have HK := Lib.hid hK
                     clear hf hK
                     unfold Reg.One; dsimp only
                     go_wp2_with fail
                     exact HK.out _ (Reg.Ext.refl _)
                   · simp only [Act.put, Act.eval, List.setIfInBounds_toArray, List.set_cons_zero, List.set_cons_succ, Nat.reduceAdd, Array.getD_eq_getD_getElem?, List.getElem?_toArray, List.getElem?_cons_succ, List.getElem?_cons_zero, Option.getD_some]
                     rfl))
              apply Rgp.TW.any_ (fun _ _ h => GR.of_ext h) (fun v w1 => ∃ b, v = .slice (some ⟨b, 0, none⟩) 1 1 ∧ some b ≠ r ∧ Blk w1 b 5 [.int .u8 (c.toNat : Int)]) rfl (fun _ _ _ h ⟨b, e, hn, hb⟩ => ⟨b, e, hn, hb.gr h hn⟩) (Or.inr (by kernel_rfl))
              · intro w1 hw1 hf K hK
                simp only [Act.put, List.setIfInBounds_toArray, List.set_cons_zero, List.set_cons_succ] at hK
                have HK := Lib.hid hK
                clear hK
                unfold Reg.One; dsimp only
                go_wp2_with fail
                exact HK.out _ _ (Reg.Ext.alloc _ _) ⟨_, rfl, HRL.out _ hw1.size, Blk.new w1 5 #[.int .u8 (c.toNat : Int)]⟩
              intro v4 a4 ha
              simp only [Act.put, Act.eval, List.setIfInBounds_toArray, List.set_cons_zero, List.set_cons_succ, Nat.reduceAdd, Array.getD_eq_getD_getElem?, List.getElem?_toArray, List.getElem?_cons_succ, List.getElem?_cons_zero, Option.getD_some] at ha
              subst ha
              apply Rgp.TW.pure_ (c := .string ⟨#[c]⟩) (fun _ _ h => GR.of_ext h) rfl (Or.inr (by kernel_rfl))
              · intro w1 hw1 hf K hK
                simp only [Act.put, List.setIfInBounds_toArray, List.set_cons_zero, List.set_cons_succ] at hK
                have HK := Lib.hid hK
                clear hK
                unfold Reg.One; dsimp only
                obtain ⟨b, rfl, hn, hb⟩ := hf.get0 (by kernel_rfl) (Or.inr ⟨Or.inr (by kernel_rfl), by decide⟩)
                have hcs := conv_bytes w1 49 9 5 Tryd.underlying49 Tryd.underlying5 Tryd.underlying9 b 0 1 1 [c] rfl (fun j hj => by
                  match j, hj with
                  | 0, _ => exact hb.cell 0)
                clear hf hb
                go_wp2_with fail
                exact HK.out _ (Reg.Ext.refl _)
              · simp only [Act.put, Act.eval, List.setIfInBounds_toArray, List.set_cons_zero, List.set_cons_succ, Nat.reduceAdd, Array.getD_eq_getD_getElem?, List.getElem?_toArray, List.getElem?_cons_succ, List.getElem?_cons_zero, Option.getD_some]
                rfl
              apply Rgp.TW.call_ (R := GR _) (Rs := Reg.Ext) (fun _ _ h => GR.of_ext h) (c := .string ⟨(hex [c]).toArray⟩) (fun _ => True) rfl (fun _ _ _ h => h) (Or.inr (by kernel_rfl))
              · intro w1 hw1 hf K hK
                simp only [Act.put, List.setIfInBounds_toArray, List.set_cons_zero, List.set_cons_succ] at hK
                have HK := Lib.hid hK
                clear hK
                unfold Reg.One; dsimp only
                go_wp2_with fail
                refine (Hex.hex_any ⟨#[c]⟩ _ (by show 1 ≤ _; omega)).mono ?_
                rintro e w' ⟨rfl, hx⟩
                go_wp2_with fail
                exact HK.out _ hx trivial
              · simp only [Act.put, Act.eval, List.setIfInBounds_toArray, List.set_cons_zero, List.set_cons_succ, Nat.reduceAdd, Array.getD_eq_getD_getElem?, List.getElem?_toArray, List.getElem?_cons_succ, List.getElem?_cons_zero, Option.getD_some]
                rfl
              apply Rgp.TW.pure_ (c := .string ⟨#[117, 48, 48, dig (c.toNat / 16), dig (c.toNat % 16)]⟩) (fun _ _ h => GR.of_ext h) rfl (Or.inr (by kernel_rfl))
              · intro w1 hw1 hf K hK
                simp only [Act.put, List.setIfInBounds_toArray, List.set_cons_zero, List.set_cons_succ] at hK
                have HK := Lib.hid hK
                clear hK
                unfold Reg.One; dsimp only
                have HP := Lib.hid (pts_hex c)
                clear hf
                go_wp2_with fail
                rw [HP.out]
                exact HK.out _ (Reg.Ext.refl _)
              · simp only [Act.put, Act.eval, List.setIfInBounds_toArray, List.set_cons_zero, List.set_cons_succ, Nat.reduceAdd, Array.getD_eq_getD_getElem?, List.getElem?_toArray, List.getElem?_cons_succ, List.getElem?_cons_zero, Option.getD_some]
                rfl
              apply Rgp.TW.last_ (hp := by rfl) (hpq := by decide) (S := fun v w1 => Buf w w1 v (l ++ [92] ++ [117, 48, 48, dig (c.toNat / 16), dig (c.toNat % 16)]) ∧ BytesAt w1 g s)
              case h => rfl
              case hS => exact fun _ _ _ h ⟨k1, k2⟩ => ⟨k1.later h, k2.ext h⟩
              · intro w1 hw1 hf K hK
                simp only [Act.put, List.setIfInBounds_toArray, List.set_cons_zero, List.set_cons_succ] at hK
                have HK := Lib.hid hK
                clear hK
                unfold Reg.One; dsimp only
                have hb2 : Buf w w1 v2 (l ++ [92]) := hf.tl.tl.get0 (by kernel_rfl) (Or.inr ⟨Or.inl rfl, fun _ => rfl⟩)
                clear hf
                have hy2 := HY.out.gr hw1 HRG.out
                have hne := hy2.ne hb2
                refine Buf.pushS rfl (.tmp 37) (.tmp 42) rfl v2 (l ++ [92]) rfl w w1 ⟨#[117, 48, 48, dig (c.toNat / 16), dig (c.toNat % 16)]⟩ hb2 rfl (by rw [n5]; simp; omega) ?_
                intro v' w' h1 h2
                exact HK.out v' w' ⟨h1, hy2.grown h2 hne⟩
              intro v8 a8 ha
              simp only [Act.put, Act.eval, List.setIfInBounds_toArray, List.set_cons_zero, List.set_cons_succ, Nat.reduceAdd, Array.getD_eq_getD_getElem?, List.getElem?_toArray, List.getElem?_cons_succ, List.getElem?_cons_zero, Option.getD_some] at ha
              subst ha
              apply Rgp.TW.after_ (R := GR _) (Rs := Reg.Ext) (fun _ _ h => GR.of_ext h) (by kernel_rfl) (fun v w1 => Buf w w1 v (l ++ [92] ++ [117, 48, 48, dig (c.toNat / 16), dig (c.toNat % 16)]) ∧ BytesAt w1 g s) rfl (fun _ _ _ h ⟨k1, k2⟩ => ⟨k1.later h, k2.ext h⟩)
              · intro w1 hf K hK
                obtain ⟨hb9, hy9⟩ := hf.get0 (by kernel_rfl) (Or.inl (Or.inl rfl))
                have HK := Lib.hid hK
                clear hK hf
                unfold Reg.One; dsimp only
                go_wp2_with fail
                exact HK.out _ w1 (Reg.Ext.refl _) ⟨hb9, hy9⟩
              intro v9 a9 ha
              simp only [Act.put, Act.eval, List.setIfInBounds_toArray, List.set_cons_zero, List.set_cons_succ, Nat.reduceAdd, Array.getD_eq_getD_getElem?, List.getElem?_toArray, List.getElem?_cons_succ, List.getElem?_cons_zero, Option.getD_some] at ha
              subst ha
              refine Rgp.TW.nil_ ?_
              intro w9 hA
              obtain ⟨hb9, hy9⟩ := hA.get0 (Or.inr (by kernel_rfl))
              have HB4 := Lib.hid hb9
              have HY4 := Lib.hid hy9
              clear hA hb9 hy9
              go_wp2_with fail
              go_roundw
              case rel => exact ⟨k + 1, by omega, by go_num, _, HB4, HL3, by simp; omega, HY4⟩
              case measure => simp [intOf]; omega
            case hlen => rfl
          · clear h0 hr HL2
            go_wp2_with fail
            obtain ⟨r, hr⟩ : ∃ r, u3.ownBlock = r := ⟨_, rfl⟩
            have hrl : ∀ (w1 : World), wr.heap.size ≤ w1.heap.size → some w1.heap.size ≠ r := fun w1 hw e => by
              have := HB.out.rlt (hr.trans e.symm)
              omega
            have hrg : r ≠ some g := by rw [← hr]; exact HY.out.ne HB.out
            have HRL := Lib.hid hrl
            have HRG := Lib.hid hrg
            have HRR := Lib.hid hr
            clear hrl hrg hr
            apply Rgp.wp_tab (GR r) Reg.Ext 2 8 (fun w1 => Buf w w1 u3 l) (by kernel_rfl) (by kernel_rfl) (by kernel_rfl) Reg.Ext.refl (fun _ _ h => GR.of_ext h) (fun _ _ _ => GR.trans) (GR.drew r wr) (fun _ _ h k => Buf.later k h) HB.out.drew
            case h =>
              intro O
              repeat (first
                | (apply Rgp.TW.move_ (R := GR _) (Rs := Reg.Ext) (fun _ _ h => GR.of_ext h) Reg.Ext.refl _ rfl rfl
                   · simp only [Act.put, Act.eval, List.setIfInBounds_toArray, List.set_cons_zero, List.set_cons_succ, Nat.reduceAdd, Array.getD_eq_getD_getElem?, List.getElem?_toArray, List.getElem?_cons_succ, List.getElem?_cons_zero, Option.getD_some]
                     rfl)
                | (apply Rgp.TW.assign_ (R := GR _) (Rs := Reg.Ext) (fun _ _ h => GR.of_ext h) Reg.Ext.refl _ rfl rfl
                   · simp only [Act.put, Act.eval, List.setIfInBounds_toArray, List.set_cons_zero, List.set_cons_succ, Nat.reduceAdd, Array.getD_eq_getD_getElem?, List.getElem?_toArray, List.getElem?_cons_succ, List.getElem?_cons_zero, Option.getD_some]
                     rfl)
                | (apply Rgp.TW.skip_ rfl
                   · simp only [Act.put, Act.eval, List.setIfInBounds_toArray, List.set_cons_zero, List.set_cons_succ, Nat.reduceAdd, Array.getD_eq_getD_getElem?, List.getElem?_toArray, List.getElem?_cons_succ, List.getElem?_cons_zero, Option.getD_some]
                     rfl)
                | (apply Rgp.TW.pure_ (R := GR _) (Rs := Reg.Ext) (fun _ _ h => GR.of_ext h) rfl (Or.inr (by kernel_rfl))
                   · intro w1 hw1 hf K hK
                     simp only [Act.put, List.setIfInBounds_toArray, List.set_cons_zero, List.set_cons_succ] at hK
                     have HK := Lib.hid hK
                     clear hf hK
                     unfold Reg.One; dsimp only
                     go_wp2_with fail
                     exact HK.out _ (Reg.Ext.refl _)
                   · simp only [Act.put, Act.eval, List.setIfInBounds_toArray, List.set_cons_zero, List.set_cons_succ, Nat.reduceAdd, Array.getD_eq_getD_getElem?, List.getElem?_toArray, List.getElem?_cons_succ, List.getElem?_cons_zero, Option.getD_some]
                     rfl))
              apply Rgp.TW.any_ (fun _ _ h => GR.of_ext h) (fun v w1 => ∃ b, v = .slice (some ⟨b, 0, none⟩) 1 1 ∧ some b ≠ r ∧ Blk w1 b 5 [.int .u8 92]) rfl (fun _ _ _ h ⟨b, e, hn, hb⟩ => ⟨b, e, hn, hb.gr h hn⟩) (Or.inr (by kernel_rfl))
              · intro w1 hw1 hf K hK
                simp only [Act.put, List.setIfInBounds_toArray, List.set_cons_zero, List.set_cons_succ] at hK
                have HK := Lib.hid hK
                clear hK
                unfold Reg.One; dsimp only
                go_wp2_with fail
                exact HK.out _ _ (Reg.Ext.alloc _ _) ⟨_, rfl, HRL.out _ hw1.size, Blk.new w1 5 #[.int .u8 92]⟩
              intro v1 a1 ha
              simp only [Act.put, Act.eval, List.setIfInBounds_toArray, List.set_cons_zero, List.set_cons_succ, Nat.reduceAdd, Array.getD_eq_getD_getElem?, List.getElem?_toArray, List.getElem?_cons_succ, List.getElem?_cons_zero, Option.getD_some] at ha
              subst ha
              apply Rgp.TW.turn_ (hp := by rfl) (S := fun v w1 => Buf w w1 v (l ++ [92]))
              case h => rfl
              case hS => exact fun _ _ _ h k => Buf.later k h
              case hb => exact Or.inr (by kernel_rfl)
              · intro w1 hw1 hs1 hf K hK
                obtain ⟨b, rfl, hn, hb⟩ := hf.get0 (by kernel_rfl) (Or.inr ⟨Or.inr (by kernel_rfl), by decide⟩)
                have HK := Lib.hid hK
                clear hK hf
                unfold Reg.One; dsimp only
                refine Buf.push rfl (.tmp 35) (.tmp 36) rfl u3 l [92] rfl w w1 b 1 hs1 rfl rfl ?_ (by simp; omega) ?_
                · intro j hj
                  match j, hj with
                  | 0, _ => exact hb.cell 0
                · intro v' w' h1 h2
                  exact HK.out v' w' (by rw [HRR.out] at h2; exact h2) h1
              intro v2 a2 ha
              simp only [Act.put, Act.eval, List.setIfInBounds_toArray, List.set_cons_zero, List.set_cons_succ, Nat.reduceAdd, Array.getD_eq_getD_getElem?, List.getElem?_toArray, List.getElem?_cons_succ, List.getElem?_cons_zero, Option.getD_some] at ha
              subst ha
              repeat (first
                | (apply Rgp.TW.move_ (R := GR _) (Rs := Reg.Ext) (fun _ _ h => GR.of_ext h) Reg.Ext.refl _ rfl rfl
                   · simp only [Act.put, Act.eval, List.setIfInBounds_toArray, List.set_cons_zero, List.set_cons_succ, Nat.reduceAdd, Array.getD_eq_getD_getElem?, List.getElem?_toArray, List.getElem?_cons_succ, List.getElem?_cons_zero, Option.getD_some]
                     rfl)
                | (apply Rgp.TW.assign_ (R := GR _) (Rs := Reg.Ext) (fun _ _ h => GR.of_ext h) Reg.Ext.refl _ rfl rfl
                   · simp only [Act.put, Act.eval, List.setIfInBounds_toArray, List.set_cons_zero, List.set_cons_succ, Nat.reduceAdd, Array.getD_eq_getD_getElem?, List.getElem?_toArray, List.getElem?_cons_succ, List.getElem?_cons_zero, Option.getD_some]
                     rfl)
                | (apply Rgp.TW.skip_ rfl
                   · simp only [Act.put, Act.eval, List.setIfInBounds_toArray, List.set_cons_zero, List.set_cons_succ, Nat.reduceAdd, Array.getD_eq_getD_getElem?, List.getElem?_toArray, List.getElem?_cons_succ, List.getElem?_cons_zero, Option.getD_some]
                     rfl)
                | (apply Rgp.TW.pure_ (R := GR _) (Rs := Reg.Ext) (fun _ _ h => GR.of_ext h) rfl (Or.inr (by kernel_rfl))
                   · intro w1 hw1 hf K hK
                     simp only [Act.put, List.setIfInBounds_toArray, List.set_cons_zero, List.set_cons_succ] at hK
                     have HK := Lib.hid hK
                     clear hf hK
                     unfold Reg.One; dsimp only
                     go_wp2_with fail
                     exact HK.out _ (Reg.Ext.refl _)
                   · simp only [Act.put, Act.eval, List.setIfInBounds_toArray, List.set_cons_zero, List.set_cons_succ, Nat.reduceAdd, Array.getD_eq_getD_getElem?, List.getElem?_toArray, List.getElem?_cons_succ, List.getElem?_cons_zero, Option.getD_some]
                     rfl))
              apply Rgp.TW.any_ (fun _ _ h => GR.of_ext h) (fun v w1 => ∃ b, v = .slice (some ⟨b, 0, none⟩) 1 1 ∧ some b ≠ r ∧ Blk w1 b 5 [.int .u8 (c.toNat : Int)]) rfl (fun _ _ _ h ⟨b, e, hn, hb⟩ => ⟨b, e, hn, hb.gr h hn⟩) (Or.inr (by kernel_rfl))
              · intro w1 hw1 hf K hK
                simp only [Act.put, List.setIfInBounds_toArray, List.set_cons_zero, List.set_cons_succ] at hK
                have HK := Lib.hid hK
                clear hK
                unfold Reg.One; dsimp only
                go_wp2_with fail
                exact HK.out _ _ (Reg.Ext.alloc _ _) ⟨_, rfl, HRL.out _ hw1.size, Blk.new w1 5 #[.int .u8 (c.toNat : Int)]⟩
              intro v4 a4 ha
              simp only [Act.put, Act.eval, List.setIfInBounds_toArray, List.set_cons_zero, List.set_cons_succ, Nat.reduceAdd, Array.getD_eq_getD_getElem?, List.getElem?_toArray, List.getElem?_cons_succ, List.getElem?_cons_zero, Option.getD_some] at ha
              subst ha
              apply Rgp.TW.pure_ (c := .string ⟨#[c]⟩) (fun _ _ h => GR.of_ext h) rfl (Or.inr (by kernel_rfl))
              · intro w1 hw1 hf K hK
                simp only [Act.put, List.setIfInBounds_toArray, List.set_cons_zero, List.set_cons_succ] at hK
                have HK := Lib.hid hK
                clear hK
                unfold Reg.One; dsimp only
                obtain ⟨b, rfl, hn, hb⟩ := hf.get0 (by kernel_rfl) (Or.inr ⟨Or.inr (by kernel_rfl), by decide⟩)
                have hcs := conv_bytes w1 49 9 5 Tryd.underlying49 Tryd.underlying5 Tryd.underlying9 b 0 1 1 [c] rfl (fun j hj => by
                  match j, hj with
                  | 0, _ => exact hb.cell 0)
                clear hf hb
                go_wp2_with fail
                exact HK.out _ (Reg.Ext.refl _)
              · simp only [Act.put, Act.eval, List.setIfInBounds_toArray, List.set_cons_zero, List.set_cons_succ, Nat.reduceAdd, Array.getD_eq_getD_getElem?, List.getElem?_toArray, List.getElem?_cons_succ, List.getElem?_cons_zero, Option.getD_some]
                rfl
              apply Rgp.TW.call_ (R := GR _) (Rs := Reg.Ext) (fun _ _ h => GR.of_ext h) (c := .string ⟨(hex [c]).toArray⟩) (fun _ => True) rfl (fun _ _ _ h => h) (Or.inr (by kernel_rfl))
              · intro w1 hw1 hf K hK
                simp only [Act.put, List.setIfInBounds_toArray, List.set_cons_zero, List.set_cons_succ] at hK
                have HK := Lib.hid hK
                clear hK
                unfold Reg.One; dsimp only
                go_wp2_with fail
                refine (Hex.hex_any ⟨#[c]⟩ _ (by show 1 ≤ _; omega)).mono ?_
                rintro e w' ⟨rfl, hx⟩
                go_wp2_with fail
                exact HK.out _ hx trivial
              · simp only [Act.put, Act.eval, List.setIfInBounds_toArray, List.set_cons_zero, List.set_cons_succ, Nat.reduceAdd, Array.getD_eq_getD_getElem?, List.getElem?_toArray, List.getElem?_cons_succ, List.getElem?_cons_zero, Option.getD_some]
                rfl
              apply Rgp.TW.pure_ (c := .string ⟨#[117, 48, 48, dig (c.toNat / 16), dig (c.toNat % 16)]⟩) (fun _ _ h => GR.of_ext h) rfl (Or.inr (by kernel_rfl))
              · intro w1 hw1 hf K hK
                simp only [Act.put, List.setIfInBounds_toArray, List.set_cons_zero, List.set_cons_succ] at hK
                have HK := Lib.hid hK
                clear hK
                unfold Reg.One; dsimp only
                have HP := Lib.hid (pts_hex c)
                clear hf
                go_wp2_with fail
                rw [HP.out]
                exact HK.out _ (Reg.Ext.refl _)
              · simp only [Act.put, Act.eval, List.setIfInBounds_toArray, List.set_cons_zero, List.set_cons_succ, Nat.reduceAdd, Array.getD_eq_getD_getElem?, List.getElem?_toArray, List.getElem?_cons_succ, List.getElem?_cons_zero, Option.getD_some]
                rfl
              apply Rgp.TW.last_ (hp := by rfl) (hpq := by decide) (S := fun v w1 => Buf w w1 v (l ++ [92] ++ [117, 48, 48, dig (c.toNat / 16), dig (c.toNat % 16)]) ∧ BytesAt w1 g s)
              case h => rfl
              case hS => exact fun _ _ _ h ⟨k1, k2⟩ => ⟨k1.later h, k2.ext h⟩
              · intro w1 hw1 hf K hK
                simp only [Act.put, List.setIfInBounds_toArray, List.set_cons_zero, List.set_cons_succ] at hK
                have HK := Lib.hid hK
                clear hK
                unfold Reg.One; dsimp only
                have hb2 : Buf w w1 v2 (l ++ [92]) := hf.tl.tl.get0 (by kernel_rfl) (Or.inr ⟨Or.inl rfl, fun _ => rfl⟩)
                clear hf
                have hy2 := HY.out.gr hw1 HRG.out
                have hne := hy2.ne hb2
                refine Buf.pushS rfl (.tmp 37) (.tmp 42) rfl v2 (l ++ [92]) rfl w w1 ⟨#[117, 48, 48, dig (c.toNat / 16), dig (c.toNat % 16)]⟩ hb2 rfl (by rw [n5]; simp; omega) ?_
                intro v' w' h1 h2
                exact HK.out v' w' ⟨h1, hy2.grown h2 hne⟩
              intro v8 a8 ha
              simp only [Act.put, Act.eval, List.setIfInBounds_toArray, List.set_cons_zero, List.set_cons_succ, Nat.reduceAdd, Array.getD_eq_getD_getElem?, List.getElem?_toArray, List.getElem?_cons_succ, List.getElem?_cons_zero, Option.getD_some] at ha
              subst ha
              apply Rgp.TW.after_ (R := GR _) (Rs := Reg.Ext) (fun _ _ h => GR.of_ext h) (by kernel_rfl) (fun v w1 => Buf w w1 v (l ++ [92] ++ [117, 48, 48, dig (c.toNat / 16), dig (c.toNat % 16)]) ∧ BytesAt w1 g s) rfl (fun _ _ _ h ⟨k1, k2⟩ => ⟨k1.later h, k2.ext h⟩)
              · intro w1 hf K hK
                obtain ⟨hb9, hy9⟩ := hf.get0 (by kernel_rfl) (Or.inl (Or.inl rfl))
                have HK := Lib.hid hK
                clear hK hf
                unfold Reg.One; dsimp only
                go_wp2_with fail
                exact HK.out _ w1 (Reg.Ext.refl _) ⟨hb9, hy9⟩
              intro v9 a9 ha
              simp only [Act.put, Act.eval, List.setIfInBounds_toArray, List.set_cons_zero, List.set_cons_succ, Nat.reduceAdd, Array.getD_eq_getD_getElem?, List.getElem?_toArray, List.getElem?_cons_succ, List.getElem?_cons_zero, Option.getD_some] at ha
              subst ha
              refine Rgp.TW.nil_ ?_
              intro w9 hA
              obtain ⟨hb9, hy9⟩ := hA.get0 (Or.inr (by kernel_rfl))
              have HB4 := Lib.hid hb9
              have HY4 := Lib.hid hy9
              clear hA hb9 hy9
              go_wp2_with fail
              go_roundw
              case rel => exact ⟨k + 1, by omega, by go_num, _, HB4, HL3, by simp; omega, HY4⟩
              case measure => simp [intOf]; omega
            case hlen => rfl
      · have d2 : (((shortN c).toNat : Int) != 0) = true := by
          rw [bne_iff_ne]; intro e; exact h0 (UInt8.toNat_inj.1 (by show (shortN c).toNat = 0; omega))
        have HL3 : Hid (34 :: enc s.data.toList = (l ++ [92, shortN c]) ++ enc (s.data.toList.drop (k + 1))) := by
          have := HL2.out; rw [enc1_short c h0] at this; exact this
        have hnew : ∀ (W : World) j (h : j < [(92 : UInt8), shortN c].length), (W.alloc (.cells #[.int .u8 92, .int .u8 ((shortN c).toNat : Int)] 5)).cell? ⟨W.heap.size, j, none⟩ = some (byteV [(92 : UInt8), shortN c][j]) := fun W j h => by
          have hk := Blk.new W 5 #[.int .u8 92, .int .u8 ((shortN c).toNat : Int)]
          match j, h with
          | 0, _ => exact hk.cell 0
          | 1, _ => exact hk.cell 1
        have HN := Lib.hid hnew
        clear h0 HL2 hnew
        go_wp2_with (refine Buf.push rfl (.tmp 24) (.tmp 26) rfl _ l [92, shortN c] rfl w _ wr.heap.size 2 (HB.out.alloc _) rfl rfl (HN.out wr) (by simp; omega) ?_; intro v4 w4 hb4 hg4; have HB4 := Lib.hid hb4; have HY4 := Lib.hid (HY.out.grown (grown_alloc hg4) (HY.out.ne HB.out)); clear hb4 hg4)
        go_roundw
        case rel => exact ⟨k + 1, by omega, by go_num, l ++ [92, shortN c], HB4, HL3, by simp; omega, HY4⟩
        case measure => simp [intOf]; omega
    · have hd : s.data.toList.drop k = [] := List.drop_of_length_le (by rw [len_data]; omega)
      have hq : quote s.data.toList = l ++ [34] := by
        have := HL.out; rw [hd, enc_nil, List.append_nil] at this
        show (34 : UInt8) :: (enc s.data.toList ++ [34]) = _
        rw [← this]; rfl
      have HQ := Lib.hid hq
      clear hq hd HL
      go_upto_region 12 with (fail)
      refine wp_region_lit ?_
      iterate 6 go_step
      refine Buf.push1 rfl (.tmp 45) (.tmp 46) rfl _ l rfl w wr 34 34 rfl HB.out rfl (by omega) ?_
      intro v4 w4 hb4 hg4
      have HB4 := Lib.hid hb4
      have hcs := hb4.str
      clear hb4 hg4
      simp only [Act.put, Act.eval, List.setIfInBounds_toArray, List.set_cons_zero, List.set_cons_succ, Nat.reduceAdd, Array.getD_eq_getD_getElem?, List.getElem?_toArray, List.getElem?_cons_succ, List.getElem?_cons_zero, Option.getD_some]
      go_wp2_with fail
      go_ret
      exact ⟨by rw [HQ.out]; rfl, HB4.out.ext⟩
end Exc
end Go.Proofs.YtdnaijaamnfgmaaDoor

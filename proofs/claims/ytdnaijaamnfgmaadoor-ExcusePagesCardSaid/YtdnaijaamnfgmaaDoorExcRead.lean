/- Package excuse: long, escaped, read, Unquote. -/
import Derived.Test.YtdnaijaamnfgmaaDoorExcWalks
set_option linter.unusedSimpArgs false
set_option linter.unusedVariables false
set_option linter.unusedSectionVars false
namespace Go.Proofs.YtdnaijaamnfgmaaDoor
open Go.RowKit
namespace Exc
open ExcP HexP
def pts : List UInt8 := [117, 48, 48]
def longQ (l : List UInt8) : UInt8 × Bool :=
  if Pre.has pts l = true then (if (l.drop 3).length < 2 then (0, false) else match unhex ((l.drop 3).take 2) with
    | some (c :: _) => (c, decide (shortN c = 0) && !raw c)
    | _ => (0, false)) else (0, false)
def longV (l : List UInt8) : Value := .tuple #[.int .u8 ((longQ l).1.toNat : Int), .bool (longQ l).2]
theorem unhex_two {x y : UInt8} {m : List UInt8} (h : unhex [x, y] = some m) : ∃ c, m = [c] := by
  have := unhex_length h
  match m, this with
  | [c], _ => exact ⟨c, rfl⟩
theorem longQ_cons (a b d x y : UInt8) (r : List UInt8) : longQ (a :: b :: d :: x :: y :: r) = if a = 117 ∧ b = 48 ∧ d = 48 then (match unhex [x, y] with
    | some (c :: _) => (c, decide (shortN c = 0) && !raw c)
    | _ => (0, false)) else (0, false) := by
  have hh : (Pre.has pts (a :: b :: d :: x :: y :: r) = true) ↔ (a = 117 ∧ b = 48 ∧ d = 48) := by
    show (((117 : UInt8) == a && ((48 : UInt8) == b && ((48 : UInt8) == d && true))) = true) ↔ _
    simp only [Bool.and_eq_true, beq_iff_eq, and_true]
    exact ⟨fun ⟨h1, h2, h3⟩ => ⟨h1.symm, h2.symm, h3.symm⟩, fun ⟨h1, h2, h3⟩ => ⟨h1.symm, h2.symm, h3.symm⟩⟩
  unfold longQ
  by_cases h : a = 117 ∧ b = 48 ∧ d = 48
  · rw [if_pos (hh.2 h), if_pos h, if_neg (by simp)]; rfl
  · rw [if_neg (fun e => h (hh.1 e)), if_neg h]
theorem longQ_P : ∀ (l : List UInt8), longP l = if (longQ l).2 = true then some (longQ l).1 else none
  | [] => rfl
  | [_] => by unfold longQ; split <;> simp [longP]
  | [_, _] => by unfold longQ; split <;> simp [longP]
  | [_, _, _] => by unfold longQ; split <;> simp [longP]
  | [_, _, _, _] => by unfold longQ; split <;> simp [longP]
  | a :: b :: d :: x :: y :: r => by
    rw [longP_cons, longQ_cons]
    by_cases h : a = 117 ∧ b = 48 ∧ d = 48
    · rw [if_pos h, if_pos h]
      cases hu : unhex [x, y] with
      | none => rfl
      | some m =>
        obtain ⟨c, rfl⟩ := unhex_two hu
        simp only [okLong]
        by_cases hc : shortN c = 0 <;> cases raw c <;> simp [hc]
    · rw [if_neg h, if_neg h]; rfl
set_option maxHeartbeats 2000000 in
theorem long_any (s : ByteArray) (w : World) (hs : s.size ≤ 274877906944) :
    Calls Tryd.prog 40 #[.string s] w fun e w' => e = .returned (longV s.data.toList) ∧ Reg.Ext w w' := by
  go_enter Tryd.func40, Tryd.ntmps40
  go_wp2_with fail
  refine (Pre.cut_any s ⟨pts.toArray⟩ w (by omega) (by decide)).mono ?_
  rintro e w' ⟨rfl, rfl⟩
  cases hh : Pre.has pts s.data.toList with
  | false =>
    have HV := Lib.hid (show longV s.data.toList = .tuple #[.int .u8 0, .bool false] by unfold longV longQ; rw [hh]; rfl)
    rw [show Pre.cutV ⟨pts.toArray⟩ s = .tuple #[.string s, .bool false] by unfold Pre.cutV; rw [show (⟨pts.toArray⟩ : ByteArray).data.toList = pts by simp, hh]; rfl]
    clear hh
    go_wp2_with fail
    go_ret2
    exact ⟨by rw [HV.out]; rfl, Reg.Ext.refl _⟩
  | true =>
    rw [show Pre.cutV ⟨pts.toArray⟩ s = .tuple #[.string (s.extract 3 s.size), .bool true] by unfold Pre.cutV; rw [show (⟨pts.toArray⟩ : ByteArray).data.toList = pts by simp, hh]; rfl]
    have hd : s.data.toList.drop 3 = (s.extract 3 s.size).data.toList := (ext_from s 3).symm
    have hxs : (s.extract 3 s.size).size ≤ 274877906944 := ext_le _ _ _ hs
    have hQ : longQ s.data.toList = if (s.extract 3 s.size).size < 2 then (0, false) else match unhex ((s.extract 3 s.size).data.toList.take 2) with
        | some (c :: _) => (c, decide (shortN c = 0) && !raw c)
        | _ => (0, false) := by unfold longQ; rw [if_pos hh, hd, len_data]
    clear hd
    generalize s.extract 3 s.size = r at *
    by_cases hr : r.size < 2
    · have HV := Lib.hid (show longV s.data.toList = .tuple #[.int .u8 0, .bool false] by unfold longV; rw [hQ, if_pos hr]; rfl)
      have d1 : decide ((r.size : Int) < 2) = true := by rw [decide_eq_true_iff]; omega
      clear hQ
      clear hh
      go_wp2_with fail
      go_ret2
      exact ⟨by rw [HV.out]; rfl, Reg.Ext.refl _⟩
    · have d1 : decide ((r.size : Int) < 2) = false := by rw [decide_eq_false_iff_not]; omega
      rw [if_neg hr] at hQ
      have hl2 : (r.extract 0 2).data.toList = r.data.toList.take 2 := ext_to r 2
      have hlen : (r.data.toList.take 2).length = 2 := by rw [List.length_take, len_data]; omega
      have HQ := Lib.hid hQ
      have HL2 := Lib.hid hl2
      clear hQ hl2
      go_wp2_with fail
      refine (Hex.unhex_any (r.extract 0 2) w (ext_le _ _ _ hxs)).mono ?_
      rintro e w1 ⟨rfl, x1⟩
      have HX := Lib.hid x1
      clear x1
      rw [HL2.out]
      cases hu : unhex (r.data.toList.take 2) with
      | none =>
        have HV := Lib.hid (show longV s.data.toList = .tuple #[.int .u8 0, .bool false] by unfold longV; rw [HQ.out, hu]; rfl)
        rw [show Hex.unhexV (r.data.toList.take 2) = .tuple #[.string ⟨#[]⟩, .int .i64 3] by unfold Hex.unhexV; rw [hu]]
        clear hu
        clear hh
        go_wp2_with fail
        go_ret2
        exact ⟨by rw [HV.out]; rfl, HX.out⟩
      | some m =>
        obtain ⟨c, rfl⟩ : ∃ c, m = [c] := by
          match hm : r.data.toList.take 2, hlen with
          | [x, y], _ => rw [hm] at hu; exact unhex_two hu
        have HV := Lib.hid (show longV s.data.toList = .tuple #[.int .u8 (c.toNat : Int), .bool (decide (shortN c = 0) && !raw c)] by unfold longV; rw [HQ.out, hu])
        rw [show Hex.unhexV (r.data.toList.take 2) = .tuple #[.string ⟨#[c]⟩, .int .i64 0] by unfold Hex.unhexV; rw [hu]]
        have hi : ∀ W, (Instr.index 9 (.string ⟨#[c]⟩) (.int .i64 0)).run Tryd.prog W = .ok (.int .u8 (c.toNat : Int)) W := fun _ => by as_aux_lemma => kernel_rfl
        clear hu hh
        go_wp2_with fail
        refine (short_any c w1).mono ?_
        rintro e w' ⟨rfl, rfl⟩
        clear hi
        by_cases h0 : shortN c = 0
        · rw [h0] at HV ⊢
          rw [show ((0 : UInt8).toNat : Int) = 0 from rfl]
          clear h0
          cases hr : raw c with
          | true =>
            obtain ⟨d2, d3⟩ := (raw_tests c).1 hr
            rw [hr] at HV
            clear hr
            go_wp2_with fail
            go_ret2
            exact ⟨by rw [HV.out]; rfl, HX.out⟩
          | false =>
            rcases (raw_tests c).2 hr with d2 | ⟨d2, d3⟩
            · rw [hr] at HV
              clear hr
              go_wp2_with fail
              go_ret2
              exact ⟨by rw [HV.out]; rfl, HX.out⟩
            · rw [hr] at HV
              clear hr
              go_wp2_with fail
              go_ret2
              exact ⟨by rw [HV.out]; rfl, HX.out⟩
        · have d2 : (((shortN c).toNat : Int) == 0) = false := by
            have := b_eq (shortN c) 0 (by decide)
            rw [show (0 : Int) = ((0 : Nat) : Int) from rfl, this, decide_eq_false_iff_not]
            exact h0
          rw [decide_eq_false h0] at HV
          clear h0
          go_wp2_with fail
          go_ret2
          exact ⟨by rw [HV.out]; rfl, HX.out⟩
end Exc
end Go.Proofs.YtdnaijaamnfgmaaDoor

/- ExcusePages: the walk. -/
import Derived.Test.YtdnaijaamnfgmaaDoorExcAwake
import Derived.Test.YtdnaijaamnfgmaaDoorExcPage
import Derived.Test.YtdnaijaamnfgmaaDoorOutW
set_option linter.unusedSimpArgs false
set_option linter.unusedVariables false
set_option linter.unusedSectionVars false
namespace Go.Proofs.YtdnaijaamnfgmaaDoor
open Go.RowKit
namespace Exc
open ExcP HexP Out
theorem digits_mem (u : Nat) : ∀ c ∈ Lib.decDigits u, 48 ≤ c.toNat ∧ c.toNat ≤ 57 := by
  rw [Lib.decDigits_eq]
  intro c hc
  obtain ⟨t, _, rfl⟩ := List.mem_map.1 hc
  unfold Lib.dg
  have hq : u / 10 ^ (Lib.nDigits u - 1 - t) % 10 < 10 := Nat.mod_lt _ (by decide)
  generalize u / 10 ^ (Lib.nDigits u - 1 - t) % 10 = q at *
  rw [UInt8.toNat_ofNat_of_lt' (show 48 + q < 256 by omega)]
  omega
theorem drop_id (p : UInt8 → Bool) (l : List UInt8) (h : ∀ c ∈ l, p c = false) : l.dropWhile p = l := by
  cases l with
  | nil => rfl
  | cons c l => rw [List.dropWhile_cons, h c List.mem_cons_self]; rfl
theorem trim_id (l cs : List UInt8) (h : ∀ c ∈ l, cs.contains c = false) : Lib.trimS l cs = l := by
  unfold Lib.trimS Lib.trimLeftS Lib.trimRightS
  rw [drop_id _ l.reverse (fun c hc => h c (List.mem_reverse.1 hc)), List.reverse_reverse, drop_id _ l h]
theorem ok_dec (n : Nat) (hn : n ≤ 9223372036854775807) : Ok (⟨#[67, 111, 110, 116, 101, 110, 116, 45, 76, 101, 110, 103, 116, 104]⟩, decB n) := by
  have hm : ∀ c ∈ (decB n).data.toList, 48 ≤ c.toNat ∧ c.toNat ≤ 57 := by
    unfold decB
    rw [lst, Lib.itoa_nonneg]
    exact digits_mem n
  refine ⟨(by decide : (⟨#[67, 111, 110, 116, 101, 110, 116, 45, 76, 101, 110, 103, 116, 104]⟩ : ByteArray).size ≤ 1000), ?_, (by decide : Fld.tokenP (⟨#[67, 111, 110, 116, 101, 110, 116, 45, 76, 101, 110, 103, 116, 104]⟩ : ByteArray).data.toList = true), fun c hc => ?_, ?_⟩
  · show (decB n).size ≤ 1000
    unfold decB
    rw [siz]
    have := Lib.itoa_length_le (n : Int) (by omega) (by omega)
    omega
  · have := hm c hc
    omega
  · refine trim_id _ _ fun c hc => ?_
    have h1 := hm c hc
    cases hcc : [(32 : UInt8), 9].contains c with
    | false => rfl
    | true =>
      exfalso
      have := List.contains_iff_mem.1 hcc
      simp only [List.mem_cons, List.not_mem_nil, or_false] at this
      rcases this with rfl | rfl
      · exact absurd h1.1 (by decide)
      · exact absurd h1.1 (by decide)
theorem page_ok (n r : Int) (m : ByteArray) (hb : (bodyB n r m).size ≤ 274877906944) : (∀ f ∈ pageF n r m, Ok f) ∧ ((pageF n r m).flatMap lineL).length ≤ 3000 ∧ (pageF n r m).length ≤ 32 := by
  have h1 : Ok (⟨#[67, 111, 110, 116, 101, 110, 116, 45, 84, 121, 112, 101]⟩, ⟨#[97, 112, 112, 108, 105, 99, 97, 116, 105, 111, 110, 47, 106, 115, 111, 110]⟩) := ⟨by decide, by decide, by decide, by decide, by decide⟩
  have h2 := ok_dec (bodyB n r m).size (by omega)
  have h3 : Ok (⟨#[65, 108, 108, 111, 119]⟩, ⟨#[71, 69, 84, 44, 32, 72, 69, 65, 68]⟩) := ⟨by decide, by decide, by decide, by decide, by decide⟩
  have l1 : (lineL (⟨#[67, 111, 110, 116, 101, 110, 116, 45, 84, 121, 112, 101]⟩, ⟨#[97, 112, 112, 108, 105, 99, 97, 116, 105, 111, 110, 47, 106, 115, 111, 110]⟩)).length ≤ 100 := by decide
  have l3 : (lineL (⟨#[65, 108, 108, 111, 119]⟩, ⟨#[71, 69, 84, 44, 32, 72, 69, 65, 68]⟩)).length ≤ 100 := by decide
  have l2 : (lineL (⟨#[67, 111, 110, 116, 101, 110, 116, 45, 76, 101, 110, 103, 116, 104]⟩, decB (bodyB n r m).size)).length ≤ 1100 := by
    have := h2.s2
    have e : (⟨#[67, 111, 110, 116, 101, 110, 116, 45, 76, 101, 110, 103, 116, 104]⟩ : ByteArray).data.toList.length = 14 := by decide
    unfold lineL
    simp only [List.length_append, len_data, List.length_cons, List.length_nil] at *
    omega
  unfold pageF
  split
  · refine ⟨?_, ?_, by simp⟩
    · intro f hf
      simp only [List.mem_append, List.mem_cons, List.not_mem_nil, or_false] at hf
      rcases hf with (rfl | rfl) | rfl <;> assumption
    · simp only [List.flatMap_append, List.flatMap_cons, List.flatMap_nil, List.length_append, List.length_nil]; omega
  · refine ⟨?_, ?_, by simp⟩
    · intro f hf
      simp only [List.mem_append, List.mem_cons, List.not_mem_nil, or_false] at hf
      rcases hf with rfl | rfl <;> assumption
    · simp only [List.flatMap_append, List.flatMap_cons, List.flatMap_nil, List.length_append, List.length_nil]; omega
theorem codeL_ne (n r : Int) : codeL n r ≠ [] := by
  rcases codeL_cases n r with ⟨_, h⟩ | ⟨_, h⟩ | ⟨_, h⟩ | ⟨_, h⟩ | ⟨_, h⟩ | ⟨_, h⟩ | ⟨_, h⟩ | ⟨_, h⟩ | ⟨_, _, h⟩
  case inr.inr.inr.inr.inr.inr.inr.inl =>
    rcases unkL_cases r with ⟨_, k⟩ | ⟨_, k⟩ | ⟨_, k⟩ | ⟨_, _, _, k⟩ <;> (rw [h, k]; decide)
  all_goals (rw [h]; decide)
theorem body_last (a b : List UInt8) : ∃ l, bodyL a b = l ++ [10] := by
  refine ⟨firstL ++ quote a ++ middleL ++ quote b ++ [125, 93, 125], ?_⟩
  unfold bodyL
  simp [lastL]
set_option maxRecDepth 100000 in
set_option maxHeartbeats 8000000 in
theorem pages_law (n r : Int) (m : ByteArray) (w : World) (hm : m.size ≤ maxLen) (ht : Hex.Tab10 w) :
    Calls Tryd.prog 5 #[.int .i64 n, .int .i64 r, .string m] w fun e w' => e = .returned (.bool true) ∧ Reg.Ext w w' := by
  unfold maxLen at hm
  have HT := Lib.hid ht
  go_enter Tryd.func5, Tryd.ntmps5
  go_wp2_with fail
  refine (awake_any w ht).mono ?_
  rintro e w1 ⟨rfl, x1⟩
  have Y1 := Lib.hid x1
  clear x1 ht
  by_cases hml : 1024 < m.size
  · have d1 : decide ((1024 : Int) < (m.size : Int)) = true := by rw [decide_eq_true_iff]; omega
    go_wp2_with fail
    go_ret
    exact ⟨rfl, Y1.out⟩
  have d1 : decide ((1024 : Int) < (m.size : Int)) = false := by rw [decide_eq_false_iff_not]; omega
  obtain ⟨k, hk, ek⟩ := umod n 199 (by omega)
  rw [show (((199 : Nat) : Int) + 1) = 200 from rfl] at ek
  obtain ⟨x, hx⟩ : ∃ x : Int, 400 + (k : Int) = x := ⟨_, rfl⟩
  have hx1 : 400 ≤ x := by omega
  have hx2 : x ≤ 599 := by omega
  go_wp2_with fail
  clear hx ek hk
  refine (page_any x r m w1 (by omega) (HT.out.ext Y1.out)).mono ?_
  rintro e w2 ⟨g, cap, rfl, hrd, x2⟩
  have Y2 := Lib.hid (Y1.out.trans x2)
  have HRD := Lib.hid hrd
  clear hrd x2 Y1
  have hbl : (bodyL (codeL x r) m.data.toList).length ≤ 20000 := by
    have h1 := bodyL_len (codeL x r) m.data.toList
    have h2 := codeL_len x r
    rw [len_data] at h1
    omega
  obtain ⟨B, hB⟩ : ∃ B : ByteArray, bodyB x r m = B := ⟨_, rfl⟩
  have hBl : B.data.toList = bodyL (codeL x r) m.data.toList := by rw [← hB]; unfold bodyB; rw [lst]
  have hBs : B.size ≤ 20000 := by rw [← len_data, hBl]; exact hbl
  obtain ⟨o1, o2, o3⟩ := page_ok x r m (by rw [hB]; omega)
  rw [hB]
  have HAN := fun w' (h : Reg.Ext w2 w') => Lib.hid (answer_ok x (pageF x r m) g cap w' (by omega) (by omega) o3 (Lib.hid o1) (HRD.out.ext h) o2 (HT.out.ext (Y2.out.trans h)))
  generalize pageF x r m = fs at *
  have HOF := fun w => Lib.hid (of_any B w (by omega))
  rw [hBl] at HOF
  rw [show ofV (bodyL (codeL x r) m.data.toList) = .tuple #[.string ⟨(codeL x r).toArray⟩, .string m, .int .i64 0] by unfold ofV; rw [of_body]] at HOF
  have HCO := fun w => Lib.hid (code_any x r w)
  have hcne := codeL_ne x r
  obtain ⟨C, hC⟩ : ∃ C : ByteArray, (⟨(codeL x r).toArray⟩ : ByteArray) = C := ⟨_, rfl⟩
  rw [hC] at HOF HCO
  have hCs : 0 < C.size := by
    rw [← hC, siz]
    exact List.length_pos_iff.2 hcne
  obtain ⟨t1, t2⟩ := full_of C hCs
  obtain ⟨l, hl⟩ := body_last (codeL x r) m.data.toList
  rw [← hBl] at hl
  have hq : B.size = l.length + 1 := by rw [← len_data, hl, List.length_append]; rfl
  have hlast : (B[l.length]'(by omega)) = 10 := by
    have : (B[l.length]'(by omega)) = B.data.toList[l.length]'(by rw [len_data]; omega) := rfl
    rw [this]
    simp [hl]
  obtain ⟨p, hp, hp1, hp2⟩ : ∃ (p : Nat) (h : p < B.size), B.size = p + 1 ∧ B[p] = 10 := ⟨l.length, by omega, hq, hlast⟩
  clear hbl hBl o1 o2 o3 hcne hC hCs hl hB hq hlast l
  have hz : ((B.size : Int) - 1) = (p : Int) := by omega
  clear hp1
  go_wp2_with fail
  refine (HAN w2 (Reg.Ext.refl _)).out.mono ?_
  rintro e w3 ⟨H, rfl, hH, x3⟩
  have Y3 := Lib.hid (Y2.out.trans x3)
  have dH : decide ((0 : Int) < (H.size : Int)) = true := by rw [decide_eq_true_iff]; omega
  clear x3 Y2 HAN
  go_wp2_with fail
  refine (HOF w3).out.mono ?_
  rintro e w4 ⟨rfl, x4⟩
  have Y4 := Lib.hid (Y3.out.trans x4)
  clear x4 Y3 HOF
  go_wp2_with fail
  refine (HCO w4).out.mono ?_
  rintro e w' ⟨rfl, rfl⟩
  go_wp2_with fail
  go_ret
  exact ⟨by simp, Y4.out⟩
end Exc
end Go.Proofs.YtdnaijaamnfgmaaDoor

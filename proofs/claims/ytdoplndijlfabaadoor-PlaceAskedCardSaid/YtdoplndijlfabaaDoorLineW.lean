/- Package inlet: isTarget, minor, Line of a GET of a good target. -/
import Derived.Test.YtdoplndijlfabaaDoorFieldW
import Derived.Test.YtdoplndijlfabaaDoorCut
import Derived.Test.YtdoplndijlfabaaDoorPrefix
set_option linter.unusedSimpArgs false
set_option linter.unusedVariables false
set_option linter.unusedSectionVars false
namespace Go.Proofs.YtdoplndijlfabaaDoor
open Go.RowKit
namespace Fld
set_option maxHeartbeats 4000000 in
theorem target_any (s : ByteArray) (w : World) (hs : s.size ≤ 274877906944) (h0 : 0 < s.size) (HT : Hid (∀ c ∈ s.data.toList, 33 ≤ c.toNat ∧ c.toNat ≤ 126)) :
    Calls Tryd.prog 33 #[.string s] w fun e w' => e = .returned (.bool true) ∧ Reg.Ext w w' := by
  go_enter Tryd.func33, Tryd.ntmps33
  obtain ⟨cap, w2, hcv, hby, hx2⟩ := BytesAt.of s w
  have HBY := Lib.hid hby
  have HX2 := Lib.hid hx2
  clear hby hx2
  go_wp2_with fail
  clear hcv
  go_loopw [4, 8] (fun _ i wr => ∃ k : Nat, k ≤ s.size ∧ i = .int .i64 k ∧ w2 = wr) (fun _ i _ => s.size - (intOf i).toNat)
  case atStart => exact ⟨0, Nat.zero_le _, rfl, rfl⟩
  case round =>
    obtain ⟨k, hk, rfl, rfl⟩ := hrel
    by_cases hks : k < s.size
    · have cb := HBY.out.cell k hks
      have hkl : k < s.data.toList.length := by rw [len_data]; exact hks
      have hmem : (s.data.toList[k]'hkl) ∈ s.data.toList := List.getElem_mem hkl
      generalize (s.data.toList[k]'hkl) = c at *
      obtain ⟨t1, t2⟩ := HT.out c hmem
      have d1 : decide ((c.toNat : Int) ≤ 32) = false := by rw [decide_eq_false_iff_not]; omega
      have d2 : decide ((126 : Int) < (c.toNat : Int)) = false := by rw [decide_eq_false_iff_not]; omega
      clear hmem t1 t2
      go_wp2_with fail
      go_roundw
      case rel => exact ⟨k + 1, by omega, by go_num, trivial⟩
      case measure => simp [intOf]; omega
    · obtain ⟨e2, e3⟩ := full_of s h0
      go_wp2_with fail
      go_ret
      exact ⟨rfl, HX2.out⟩
set_option maxHeartbeats 2000000 in
theorem digit_any (c : Int) (h1 : 48 ≤ c) (h2 : c ≤ 57) (w : World) : Calls Tryd.prog 48 #[.int .u8 c] w fun e w' => e = .returned (.bool true) ∧ w = w' := by
  have d1 : decide ((48 : Int) ≤ c) = true := decide_eq_true h1
  have d2 : decide (c ≤ (57 : Int)) = true := decide_eq_true h2
  go_enter Tryd.func48, Tryd.ntmps48
  go_wp2_with fail
  go_ret
  exact ⟨rfl, rfl⟩
theorem results_tmp4 {fn : Func} {t u v x : Tmp} (h : fn.results = #[.tmp t, .tmp u, .tmp v, .tmp x]) (tmps : Array Value) (P : Program) (w : World) :
    (results fn tmps).run P w = .ok (.tuple #[tmps.getD t undef, tmps.getD u undef, tmps.getD v undef, tmps.getD x undef]) w := by
  simp [results, h]
def verL : List UInt8 := [72, 84, 84, 80, 47, 49, 46, 49]
set_option maxHeartbeats 4000000 in
theorem minor_one (w : World) : Calls Tryd.prog 34 #[.string ⟨#[72, 84, 84, 80, 47, 49, 46, 49]⟩] w fun e w' => e = .returned (.tuple #[.int .i64 1, .int .i64 200]) ∧ w = w' := by
  obtain ⟨R, hR⟩ : ∃ R : ByteArray, R = ⟨#[49, 46, 49]⟩ := ⟨_, rfl⟩
  have hs : R.size = 3 := by rw [hR]; rfl
  have b0 : (R[0]'(by omega)).toNat = 49 := by subst hR; rfl
  have b1 : (R[1]'(by omega)).toNat = 46 := by subst hR; rfl
  have b2 : (R[2]'(by omega)).toNat = 49 := by subst hR; rfl
  have hc : Pre.cutV ⟨#[72, 84, 84, 80, 47]⟩ ⟨#[72, 84, 84, 80, 47, 49, 46, 49]⟩ = .tuple #[.string R, .bool true] := by rw [hR]; kernel_rfl
  have HC := Lib.hid (Pre.cut_any ⟨#[72, 84, 84, 80, 47, 49, 46, 49]⟩ ⟨#[72, 84, 84, 80, 47]⟩ w (by decide) (by decide))
  rw [hc] at HC
  clear hc hR
  go_enter Tryd.func34, Tryd.ntmps34
  go_wp2_with fail
  refine HC.out.mono ?_
  rintro e w' ⟨rfl, rfl⟩
  go_wp2_with fail
  refine (digit_any _ (by omega) (by omega) w).mono ?_
  rintro e w' ⟨rfl, rfl⟩
  go_wp2_with fail
  refine (digit_any _ (by omega) (by omega) w).mono ?_
  rintro e w' ⟨rfl, rfl⟩
  go_wp2_with fail
  go_ret2
  exact ⟨rfl, rfl⟩
set_option maxHeartbeats 4000000 in
theorem line_get (s t : ByteArray) (w : World) (HS : Hid (s.data.toList = [71, 69, 84] ++ 32 :: (t.data.toList ++ 32 :: verL))) (hs : s.size ≤ 274877906944) (h0 : 0 < t.size) (HT : Hid (∀ c ∈ t.data.toList, 33 ≤ c.toNat ∧ c.toNat ≤ 126)) :
    Calls Tryd.prog 18 #[.string s] w fun e w' => e = .returned (.tuple #[.string ⟨#[71, 69, 84]⟩, .string t, .int .i64 1, .int .i64 200]) ∧ Reg.Ext w w' := by
  have hsz : s.size = t.size + 13 := by
    rw [← len_data, HS.out]
    simp only [List.length_append, List.length_cons, List.length_nil, len_data, verL]
    omega
  have hts : t.size ≤ 274877906944 := by omega
  obtain ⟨R, hR⟩ : ∃ R : ByteArray, R = ⟨(t.data.toList ++ 32 :: verL).toArray⟩ := ⟨_, rfl⟩
  have hRl : R.data.toList = t.data.toList ++ 32 :: verL := by rw [hR]
  have hRs : R.size ≤ 274877906944 := by rw [hR, siz, List.length_append, len_data]; simp only [List.length_cons, verL, List.length_nil]; omega
  have c1 : Str.cutV 32 s.data.toList = .tuple #[.string ⟨#[71, 69, 84]⟩, .string R, .bool true] := by
    unfold Str.cutV
    rw [HS.out, Str.cut1_at (by decide), hR]
  have hno : (32 : UInt8) ∉ t.data.toList := fun hm => absurd (HT.out 32 hm).1 (by decide)
  have c2 : Str.cutV 32 R.data.toList = .tuple #[.string t, .string ⟨#[72, 84, 84, 80, 47, 49, 46, 49]⟩, .bool true] := by
    unfold Str.cutV
    rw [hRl, Str.cut1_at hno, ba_data]; rfl
  have C1 := Lib.hid (Str.cut_any s 32 w hs)
  have C2 := fun w => Lib.hid (Str.cut_any R 32 w hRs)
  rw [c1] at C1
  rw [c2] at C2
  have CK := fun w => Lib.hid (token_any ⟨#[71, 69, 84]⟩ w (by decide))
  rw [show tokenP (⟨#[71, 69, 84]⟩ : ByteArray).data.toList = true from by decide] at CK
  have CT := fun w => Lib.hid (target_any t w hts h0 HT)
  clear c1 c2 hno hR hRl hRs hsz hs hts h0 HS HT
  go_enter Tryd.func18, Tryd.ntmps18
  go_wp2_with fail
  refine C1.out.mono ?_
  rintro e wa ⟨rfl, xa⟩
  have XA := Lib.hid xa
  clear xa
  go_wp2_with fail
  refine (C2 wa).out.mono ?_
  rintro e wb ⟨rfl, xb⟩
  have XB := Lib.hid (XA.out.trans xb)
  clear xb XA
  go_wp2_with fail
  refine (CK wb).out.mono ?_
  rintro e w1 ⟨rfl, x1⟩
  have X1 := Lib.hid (XB.out.trans x1)
  clear x1 XB
  go_wp2_with fail
  refine (CT w1).out.mono ?_
  rintro e w2 ⟨rfl, x2⟩
  have X2 := Lib.hid (X1.out.trans x2)
  clear x2 X1
  go_wp2_with fail
  refine (minor_one w2).mono ?_
  rintro e w' ⟨rfl, rfl⟩
  go_wp2_with fail
  (try simp only [Exit.inBlock, Exit.then])
  refine bodyPost_ret (results_tmp4 rfl _ _ _) rfl ?_
  exact ⟨rfl, X2.out⟩
end Fld
end Go.Proofs.YtdoplndijlfabaaDoor

/- Package excuse: Page. -/
import Derived.Test.YtdnaijaamnfgmaaDoorExcCode
import Derived.Test.YtdnaijaamnfgmaaDoorHexaDecR
import Derived.Test.YtdnaijaamnfgmaaDoorFlds
import Derived.Test.YtdnaijaamnfgmaaDoorExcRefR
set_option linter.unusedSimpArgs false
set_option linter.unusedVariables false
set_option linter.unusedSectionVars false
namespace Go.Proofs.YtdnaijaamnfgmaaDoor
open Go.RowKit
namespace Exc
open ExcP HexP
def bodyB (n r : Int) (m : ByteArray) : ByteArray := ⟨(bodyL (codeL n r) m.data.toList).toArray⟩
def decB (n : Nat) : ByteArray := ⟨(Lib.itoa (n : Int)).toArray⟩
def pageF (n r : Int) (m : ByteArray) : List Fld := [(⟨#[67, 111, 110, 116, 101, 110, 116, 45, 84, 121, 112, 101]⟩, ⟨#[97, 112, 112, 108, 105, 99, 97, 116, 105, 111, 110, 47, 106, 115, 111, 110]⟩), (⟨#[67, 111, 110, 116, 101, 110, 116, 45, 76, 101, 110, 103, 116, 104]⟩, decB (bodyB n r m).size)] ++ (if n = 405 then [(⟨#[65, 108, 108, 111, 119]⟩, ⟨#[71, 69, 84, 44, 32, 72, 69, 65, 68]⟩)] else [])
def PageP (n r : Int) (m : ByteArray) (w : World) (e : Ending) (w' : World) : Prop := ∃ g cap, e = .returned (.tuple #[.slice (some ⟨g, 0, none⟩) (pageF n r m).length cap, .string (bodyB n r m)]) ∧ RdF w' (some ⟨g, 0, none⟩) (pageF n r m) ∧ Reg.Ext w w'
theorem codeL_len (n r : Int) : (codeL n r).length ≤ 20 := by
  rcases codeL_cases n r with ⟨_, h⟩ | ⟨_, h⟩ | ⟨_, h⟩ | ⟨_, h⟩ | ⟨_, h⟩ | ⟨_, h⟩ | ⟨_, h⟩ | ⟨_, h⟩ | ⟨_, _, h⟩
  case inr.inr.inr.inr.inr.inr.inr.inl =>
    rcases unkL_cases r with ⟨_, k⟩ | ⟨_, k⟩ | ⟨_, k⟩ | ⟨_, _, _, k⟩ <;> (rw [h, k]; decide)
  all_goals (rw [h]; decide)
theorem bodyL_len (a b : List UInt8) : (bodyL a b).length ≤ 6 * a.length + 6 * b.length + 100 := by
  unfold bodyL
  have := quote_len a
  have := quote_len b
  simp only [List.length_append]
  have h1 : firstL.length = 19 := rfl
  have h2 : middleL.length = 11 := rfl
  have h3 : lastL.length = 4 := rfl
  omega
set_option maxHeartbeats 2000000 in
theorem bodyR_any (s t : ByteArray) (w : World) (hs : s.size ≤ 17179869184) (ht : t.size ≤ 17179869184) :
    Calls Tryd.prog 16 #[.string s, .string t] w fun e w' => e = .returned (.string ⟨(bodyL s.data.toList t.data.toList).toArray⟩) ∧ Reg.Ext w w' := by
  have q1 := quote_len s.data.toList
  have q2 := quote_len t.data.toList
  rw [len_data] at q1 q2
  obtain ⟨A, hA⟩ : ∃ A : ByteArray, A = ⟨(quote s.data.toList).toArray⟩ := ⟨_, rfl⟩
  obtain ⟨B, hB⟩ : ∃ B : ByteArray, B = ⟨(quote t.data.toList).toArray⟩ := ⟨_, rfl⟩
  have hAs : A.size ≤ 103079215106 := by rw [hA, siz]; omega
  have hBs : B.size ≤ 103079215106 := by rw [hB, siz]; omega
  have HQ1 := Lib.hid (fun w1 => quoteR_any s w1 hs)
  have HQ2 := Lib.hid (fun w1 => quoteR_any t w1 ht)
  rw [← hA] at HQ1
  rw [← hB] at HQ2
  have HV := Lib.hid (show (⟨(bodyL s.data.toList t.data.toList).toArray⟩ : ByteArray) = ⟨firstL.toArray⟩ ++ A ++ ⟨middleL.toArray⟩ ++ B ++ ⟨lastL.toArray⟩ by
    rw [hA, hB]; exact ba_ext (by simp [bodyL]))
  clear hA hB q1 q2
  go_enter Tryd.func16, Tryd.ntmps16
  go_wp2_with fail
  refine (HQ1.out w).mono ?_
  rintro e w1 ⟨rfl, x1⟩
  have HX := Lib.hid x1
  clear x1 HQ1
  go_wp2_with fail
  refine (HQ2.out w1).mono ?_
  rintro e w2 ⟨rfl, x2⟩
  have HX2 := Lib.hid (HX.out.trans x2)
  clear x2 HQ2
  go_wp2_with fail
  go_ret
  exact ⟨by rw [HV.out]; rfl, HX2.out⟩
set_option maxRecDepth 100000 in
set_option maxHeartbeats 4000000 in
theorem page_any (n r : Int) (m : ByteArray) (w : World) (hm : m.size ≤ 17179869184) (ht : Hex.Tab10 w) :
    Calls Tryd.prog 11 #[.int .i64 n, .int .i64 r, .string m] w (PageP n r m w) := by
  have HT := Lib.hid ht; clear ht
  go_enter Tryd.func11, Tryd.ntmps11
  go_wp2_with fail
  refine (code_any n r w).mono ?_
  rintro e w' ⟨rfl, rfl⟩
  go_wp2_with fail
  refine (body_any ⟨(codeL n r).toArray⟩ m w (by rw [siz]; have := codeL_len n r; omega) hm).mono ?_
  rintro e w1 ⟨rfl, x1⟩
  rw [lst]
  have HX1 := Lib.hid x1
  obtain ⟨B, hB⟩ : ∃ B : ByteArray, bodyB n r m = B := ⟨_, rfl⟩
  rw [show (⟨(bodyL (codeL n r) m.data.toList).toArray⟩ : ByteArray) = B from hB]
  have hbs : B.size ≤ 274877906944 := by
    rw [← hB]
    unfold bodyB
    rw [siz]
    have h1 := bodyL_len (codeL n r) m.data.toList
    have h2 := codeL_len n r
    rw [len_data] at h1
    omega
  have HB := Lib.hid hB
  clear x1 hB
  go_wp2_with fail
  refine (Hex.dec_any (B.size : Int) w1 (by omega) (by omega) (HT.out.ext HX1.out)).mono ?_
  rintro e w2 ⟨rfl, x2⟩
  have HX2 := Lib.hid (HX1.out.trans x2)
  clear x2
  obtain ⟨D, hD⟩ : ∃ D : ByteArray, decB B.size = D := ⟨_, rfl⟩
  rw [show (⟨(Lib.itoa (B.size : Int)).toArray⟩ : ByteArray) = D from hD]
  have HD := Lib.hid hD
  clear hD
  by_cases h405 : n = 405
  · subst h405
    have HF := Lib.hid (show pageF 405 r m = [(⟨#[67, 111, 110, 116, 101, 110, 116, 45, 84, 121, 112, 101]⟩, ⟨#[97, 112, 112, 108, 105, 99, 97, 116, 105, 111, 110, 47, 106, 115, 111, 110]⟩), (⟨#[67, 111, 110, 116, 101, 110, 116, 45, 76, 101, 110, 103, 116, 104]⟩, D), (⟨#[65, 108, 108, 111, 119]⟩, ⟨#[71, 69, 84, 44, 32, 72, 69, 65, 68]⟩)] by unfold pageF; rw [HB.out, HD.out]; rfl)
    go_wp2_with fail
    go_ret2
    unfold PageP
    rw [HF.out, HB.out]
    refine ⟨_, _, rfl, ?_, ?_⟩
    · apply Rd.pre (fcells [(⟨#[67, 111, 110, 116, 101, 110, 116, 45, 84, 121, 112, 101]⟩, ⟨#[97, 112, 112, 108, 105, 99, 97, 116, 105, 111, 110, 47, 106, 115, 111, 110]⟩), (⟨#[67, 111, 110, 116, 101, 110, 116, 45, 76, 101, 110, 103, 116, 104]⟩, D), (⟨#[65, 108, 108, 111, 119]⟩, ⟨#[71, 69, 84, 44, 32, 72, 69, 65, 68]⟩)])
      · exact alloc_at _ _ _ ((Array.size_push _).trans (congrArg (· + 1) (Array.size_push _)))
      · simp only [Array.toList_append]
        rfl
    · repeat (first | exact HX2.out | apply Ext.up | apply Ext.upd)
  · have d1 : (n == 405) = false := by simpa using h405
    have HF := Lib.hid (show pageF n r m = [(⟨#[67, 111, 110, 116, 101, 110, 116, 45, 84, 121, 112, 101]⟩, ⟨#[97, 112, 112, 108, 105, 99, 97, 116, 105, 111, 110, 47, 106, 115, 111, 110]⟩), (⟨#[67, 111, 110, 116, 101, 110, 116, 45, 76, 101, 110, 103, 116, 104]⟩, D)] by unfold pageF; rw [HB.out, HD.out, if_neg h405, List.append_nil])
    clear h405
    go_wp2_with fail
    go_ret2
    unfold PageP
    rw [HF.out, HB.out]
    exact ⟨_, _, rfl, Rd.new w2 46 #[_, _, _, _], HX2.out.trans (Reg.Ext.alloc _ _)⟩
set_option maxRecDepth 100000 in
set_option maxHeartbeats 4000000 in
theorem pageR_any (n r : Int) (m : ByteArray) (w : World) (hm : m.size ≤ 17179869184) :
    Calls Tryd.prog 12 #[.int .i64 n, .int .i64 r, .string m] w (PageP n r m w) := by
  skip
  go_enter Tryd.func12, Tryd.ntmps12
  go_wp2_with fail
  refine (codeR_any n r w).mono ?_
  rintro e w' ⟨rfl, rfl⟩
  go_wp2_with fail
  refine (bodyR_any ⟨(codeL n r).toArray⟩ m w (by rw [siz]; have := codeL_len n r; omega) hm).mono ?_
  rintro e w1 ⟨rfl, x1⟩
  rw [lst]
  have HX1 := Lib.hid x1
  obtain ⟨B, hB⟩ : ∃ B : ByteArray, bodyB n r m = B := ⟨_, rfl⟩
  rw [show (⟨(bodyL (codeL n r) m.data.toList).toArray⟩ : ByteArray) = B from hB]
  have hbs : B.size ≤ 274877906944 := by
    rw [← hB]
    unfold bodyB
    rw [siz]
    have h1 := bodyL_len (codeL n r) m.data.toList
    have h2 := codeL_len n r
    rw [len_data] at h1
    omega
  have HB := Lib.hid hB
  clear x1 hB
  go_wp2_with fail
  refine (Hex.decR_any (B.size : Int) w1 (by omega) (by omega)).mono ?_
  rintro e w2 ⟨rfl, x2⟩
  have HX2 := Lib.hid (HX1.out.trans x2)
  clear x2
  obtain ⟨D, hD⟩ : ∃ D : ByteArray, decB B.size = D := ⟨_, rfl⟩
  rw [show (⟨(Lib.itoa (B.size : Int)).toArray⟩ : ByteArray) = D from hD]
  have HD := Lib.hid hD
  clear hD
  by_cases h405 : n = 405
  · subst h405
    have HF := Lib.hid (show pageF 405 r m = [(⟨#[67, 111, 110, 116, 101, 110, 116, 45, 84, 121, 112, 101]⟩, ⟨#[97, 112, 112, 108, 105, 99, 97, 116, 105, 111, 110, 47, 106, 115, 111, 110]⟩), (⟨#[67, 111, 110, 116, 101, 110, 116, 45, 76, 101, 110, 103, 116, 104]⟩, D), (⟨#[65, 108, 108, 111, 119]⟩, ⟨#[71, 69, 84, 44, 32, 72, 69, 65, 68]⟩)] by unfold pageF; rw [HB.out, HD.out]; rfl)
    go_wp2_with fail
    go_ret2
    unfold PageP
    rw [HF.out, HB.out]
    refine ⟨_, _, rfl, ?_, ?_⟩
    · apply Rd.pre (fcells [(⟨#[67, 111, 110, 116, 101, 110, 116, 45, 84, 121, 112, 101]⟩, ⟨#[97, 112, 112, 108, 105, 99, 97, 116, 105, 111, 110, 47, 106, 115, 111, 110]⟩), (⟨#[67, 111, 110, 116, 101, 110, 116, 45, 76, 101, 110, 103, 116, 104]⟩, D), (⟨#[65, 108, 108, 111, 119]⟩, ⟨#[71, 69, 84, 44, 32, 72, 69, 65, 68]⟩)])
      · exact alloc_at _ _ _ ((Array.size_push _).trans (congrArg (· + 1) (Array.size_push _)))
      · simp only [Array.toList_append]
        rfl
    · repeat (first | exact HX2.out | apply Ext.up | apply Ext.upd)
  · have d1 : (n == 405) = false := by simpa using h405
    have HF := Lib.hid (show pageF n r m = [(⟨#[67, 111, 110, 116, 101, 110, 116, 45, 84, 121, 112, 101]⟩, ⟨#[97, 112, 112, 108, 105, 99, 97, 116, 105, 111, 110, 47, 106, 115, 111, 110]⟩), (⟨#[67, 111, 110, 116, 101, 110, 116, 45, 76, 101, 110, 103, 116, 104]⟩, D)] by unfold pageF; rw [HB.out, HD.out, if_neg h405, List.append_nil])
    clear h405
    go_wp2_with fail
    go_ret2
    unfold PageP
    rw [HF.out, HB.out]
    exact ⟨_, _, rfl, Rd.new w2 46 #[_, _, _, _], HX2.out.trans (Reg.Ext.alloc _ _)⟩
end Exc
end Go.Proofs.YtdnaijaamnfgmaaDoor

/- Package excuse: read, Unquote. -/
import Derived.Test.YtdnaijaamnfgmaaDoorExcEsc
set_option linter.unusedSimpArgs false
set_option linter.unusedVariables false
set_option linter.unusedSectionVars false
namespace Go.Proofs.YtdnaijaamnfgmaaDoor
open Go.RowKit
namespace Exc
open ExcP HexP
def readV (l : List UInt8) : Value := .tuple #[.string ⟨(readT l).1.toArray⟩, .string ⟨(readT l).2.1.toArray⟩, .bool (readT l).2.2]
theorem readV_none {l : List UInt8} (h : readP l = none) : readV l = .tuple #[.string ⟨#[]⟩, .string ⟨#[]⟩, .bool false] := by
  unfold readV readT; rw [h]
theorem readV_some {l t q : List UInt8} (h : readP l = some (t, q)) : readV l = .tuple #[.string ⟨t.toArray⟩, .string ⟨q.toArray⟩, .bool true] := by
  unfold readV readT; rw [h]
theorem raw_not {c : UInt8} (h : raw c = false) : c ≠ 92 := by
  rintro rfl; exact absurd h (by decide)
def strLen : Value → Nat
  | .string s => s.size
  | _ => 0
theorem rest_one (R : ByteArray) (l : List UInt8) (c : UInt8) (h : R.data.toList = c :: l) : (R.extract 1 R.size).data.toList = l := by
  rw [ext_from, h]; rfl
theorem rest_more (R : ByteArray) (l : List UInt8) (c : UInt8) (n : Nat) (h : R.data.toList = c :: l) : (R.extract (1 + n) R.size).data.toList = l.drop n := by
  rw [ext_from, h, Nat.add_comm, List.drop_succ_cons]
set_option maxRecDepth 100000 in
set_option maxHeartbeats 4000000 in
theorem read_any (s : ByteArray) (w : World) (hs : s.size ≤ 274877906944) :
    Calls Tryd.prog 21 #[.string s] w fun e w' => e = .returned (readV s.data.toList) ∧ Reg.Ext w w' := by
  go_enter Tryd.func21, Tryd.ntmps21
  go_wp2_with fail
  go_step3
  by_cases h0 : s.size = 0
  · obtain ⟨e1, e2, e3⟩ := empty_of s h0
    have HV := Lib.hid (readV_none (l := s.data.toList) (by rw [e1]; rfl))
    clear e1 h0
    go_wp2_with fail
    rw [Exit.noGoto_ret]
    go_ret3
    exact ⟨by rw [HV.out]; rfl, Reg.Ext.refl _⟩
  have hsz : 0 < s.size := by omega
  obtain ⟨e2, e3⟩ := full_of s hsz
  obtain ⟨ls, hls⟩ := first_of s hsz
  by_cases hq : s[0] = 34
  case neg =>
    have HV := Lib.hid (readV_none (l := s.data.toList) (by rw [hls, readP_cons, if_neg hq]))
    have d1 : ((s[0].toNat : Int) != 34) = true := by
      rw [bne_iff_ne]; intro e; exact hq (UInt8.toNat_inj.1 (by show s[0].toNat = 34; omega))
    clear hls hq
    go_wp2_with fail
    rw [Exit.noGoto_ret]
    go_ret3
    exact ⟨by rw [HV.out]; rfl, Reg.Ext.refl _⟩
  have d1 : ((s[0].toNat : Int) != 34) = false := by rw [hq]; rfl
  have hr0 : readP s.data.toList = bodyF (s.extract 1 s.size).data.toList := by rw [rest_one s ls s[0] hls, hls, readP_cons, if_pos hq]
  have HR0 := Lib.hid hr0
  clear hr0 hls hq
  go_wp2_with fail
  clear d1 e2 e3
  go_step3
  go_wp2_with fail
  go_loopw [5, 6, 7, 8, 9] (fun v r _ _ _ wr => ∃ (R : ByteArray) (l : List UInt8), r = .string R ∧ Hid (Buf w wr v l) ∧ Hid (readP s.data.toList = (bodyF R.data.toList).map (fun p => (l ++ p.1, p.2))) ∧ l.length + R.size ≤ s.size) (fun _ r _ _ _ _ => strLen r)
  case atStart => exact ⟨s.extract 1 s.size, [], rfl, Buf.nil_ w w (Reg.Ext.refl _), by show _ = _; rw [HR0.out]; simp, by rw [ByteArray.size_extract]; simp⟩
  case round =>
    obtain ⟨R, l, rfl, HB, HR, hl⟩ := hrel
    clear HR0
    by_cases hR0 : R.size = 0
    · obtain ⟨e1, e2, e3⟩ := empty_of R hR0
      have HV := Lib.hid (readV_none (l := s.data.toList) (by rw [HR.out, e1]; rfl))
      have HX := Lib.hid HB.out.ext
      clear e1 hR0
      go_wp2_with fail
      rw [Exit.noGoto_ret]
      go_ret3
      exact ⟨by rw [HV.out]; rfl, HX.out⟩
    have hRz : 0 < R.size := by omega
    obtain ⟨e2, e3⟩ := full_of R hRz
    obtain ⟨m, hm⟩ := first_of R hRz
    have hrest := rest_one R m R[0] hm
    have HRm := Lib.hid hm
    by_cases c1 : R[0] = 34
    · have d1 : ((R[0].toNat : Int) == 34) = true := by rw [c1]; rfl
      have HV := Lib.hid (readV_some (l := s.data.toList) (t := l) (q := m) (by rw [HR.out, hm, c1, bodyF_end]; simp))
      have HX := Lib.hid HB.out.ext
      have hcs : ∀ n, (convert 49 9 u5).run Tryd.prog (wr.drewN n) = .ok (.string ⟨l.toArray⟩) (wr.drewN n) := fun n => (HB.out.drewN n).str
      have HM : Hid ((⟨m.toArray⟩ : ByteArray) = R.extract 1 R.size) := by show _ = _; rw [← hrest]
      clear c1 hm hrest HRm HR
      go_wp2_with fail
      go_quiet (fail)
      go_wp2_with fail
      rw [Exit.noGoto_ret]
      go_ret3
      exact ⟨by rw [HV.out, HM.out]; rfl, Reg.Ext.trans HX.out (Reg.Ext.drewN _ _)⟩
    have d1 : ((R[0].toNat : Int) == 34) = false := by
      rw [beq_eq_false_iff_ne]; intro e; exact c1 (UInt8.toNat_inj.1 (by show R[0].toNat = 34; omega))
    cases c2 : raw R[0] with
    | false =>
      have HV := Lib.hid (readV_none (l := s.data.toList) (by rw [HR.out, hm, bodyF_bad c1 (raw_not c2) c2]; rfl))
      have HX := Lib.hid HB.out.ext
      clear hm hrest HRm HR
      rcases (raw_tests R[0]).2 c2 with d2 | ⟨d2, d3⟩
      · clear c1 c2
        go_wp2_with fail
        rw [Exit.noGoto_ret]
        go_ret3
        exact ⟨by rw [HV.out]; rfl, HX.out⟩
      · clear c1 c2
        go_wp2_with fail
        rw [Exit.noGoto_ret]
        go_ret3
        exact ⟨by rw [HV.out]; rfl, HX.out⟩
    | true =>
      obtain ⟨d2, d3⟩ := (raw_tests R[0]).1 c2
      by_cases c3 : R[0] = 92
      · have d4 : ((R[0].toNat : Int) != 92) = false := by rw [c3]; rfl
        have HRn : Hid (escP m = none → readP s.data.toList = none) := fun e => by rw [HR.out, hm, c3, bodyF_noesc e]; rfl
        have HRs : Hid (∀ x n, escP m = some (x, n) → readP s.data.toList = (bodyF (m.drop n)).map (fun p => ((l ++ [x]) ++ p.1, p.2))) := fun x n e => by
          rw [HR.out, hm, c3, bodyF_esc e, Option.map_map]
          congr 1
          funext p
          simp [put]
        clear c1 c2 c3 hm HR
        go_wp2_with fail
        refine (escaped_any (R.extract 1 R.size) wr (ext_le _ _ _ (by omega))).mono ?_
        rintro e w2 ⟨rfl, x2⟩
        rw [hrest]
        have HB2 := Lib.hid (HB.out.later x2)
        clear x2 HB
        unfold escV escQ
        cases he : escP m with
        | none =>
          have HV := Lib.hid (readV_none (l := s.data.toList) (HRn.out he))
          have HX := Lib.hid HB2.out.ext
          clear he HRn HRs hrest
          go_wp2_with fail
          rw [Exit.noGoto_ret]
          go_ret3
          exact ⟨by rw [HV.out]; rfl, HX.out⟩
        | some p =>
          obtain ⟨x, n⟩ := p
          obtain ⟨s1, s2, s3⟩ := escP_spec he
          have HRN := Lib.hid (HRs.out x n he)
          have d5 : ((n : Int) == 0) = false := by rw [beq_eq_false_iff_ne]; omega
          have hmr : m.length + 1 = R.size := by rw [← len_data, HRm.out]; simp
          have hdr := rest_more R m R[0] n HRm.out
          have HDR := Lib.hid hdr
          have hx0 : ((x.toNat : Int)) = (x.toNat : Int) := rfl
          clear he HRn HRs hrest s1 hdr
          simp only [Option.getD_some]
          have hn1 : (0 : Int) ≤ 1 + (n : Int) := by omega
          have hn2 : 1 + (n : Int) ≤ (R.size : Int) := by omega
          have hn3 : (1 + (n : Int)).toNat = 1 + n := by omega
          go_wp2_with (refine Buf.push1 rfl (.tmp 54) (.tmp 56) rfl _ l rfl w w2 _ x rfl HB2.out rfl (by omega) ?_; intro v4 w4 hb4 hg4; have HB4 := Lib.hid hb4; clear hb4 hg4)
          go_roundw
          case rel =>
            refine ⟨R.extract (1 + n) R.size, l ++ [x], ?_, HB4, ?_, ?_⟩
            · first | rfl | simp
            · show _ = _
              rw [HDR.out]; exact HRN.out
            · rw [List.length_append, ByteArray.size_extract]; simp; omega
          case measure => simp [strLen]; omega
      · have d4 : ((R[0].toNat : Int) != 92) = true := by
          rw [bne_iff_ne]; intro e; exact c3 (UInt8.toNat_inj.1 (by show R[0].toNat = 92; omega))
        have HRN : Hid (readP s.data.toList = (bodyF (R.extract 1 R.size).data.toList).map (fun p => ((l ++ [R[0]]) ++ p.1, p.2))) := by
          show _ = _
          rw [HR.out, hrest, hm, bodyF_raw c1 c3 c2, Option.map_map]
          congr 1
          funext p
          simp [put]
        clear c1 c2 c3 hm hrest HRm HR
        go_wp2_with (refine Buf.push1 rfl (.tmp 40) (.tmp 42) rfl _ l rfl w wr _ R[0] rfl HB.out rfl (by omega) ?_; intro v4 w4 hb4 hg4; have HB4 := Lib.hid hb4; clear hb4 hg4)
        go_roundw
        case rel => exact ⟨R.extract 1 R.size, l ++ [R[0]], rfl, HB4, HRN, by rw [List.length_append, ByteArray.size_extract]; simp; omega⟩
        case measure => simp [strLen]; omega
end Exc
end Go.Proofs.YtdnaijaamnfgmaaDoor

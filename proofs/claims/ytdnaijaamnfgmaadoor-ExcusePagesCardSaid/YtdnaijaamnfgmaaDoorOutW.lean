/- Package outlet: Reason, laid, Answer. -/
import Derived.Test.YtdnaijaamnfgmaaDoorFieldG
import Derived.Test.YtdnaijaamnfgmaaDoorBldS
import Derived.Test.YtdnaijaamnfgmaaDoorHexaDecR
import Derived.Lib.ItoaLen
set_option linter.unusedSimpArgs false
set_option linter.unusedVariables false
set_option linter.unusedSectionVars false
namespace Go.Proofs.YtdnaijaamnfgmaaDoor
open Go.RowKit
namespace Out
def reasonL (n : Int) : List UInt8 := if n = 200 then [79, 75] else if n = 206 then [80, 97, 114, 116, 105, 97, 108, 32, 67, 111, 110, 116, 101, 110, 116] else if n = 304 then [78, 111, 116, 32, 77, 111, 100, 105, 102, 105, 101, 100] else if n = 400 then [66, 97, 100, 32, 82, 101, 113, 117, 101, 115, 116] else if n = 404 then [78, 111, 116, 32, 70, 111, 117, 110, 100] else if n = 405 then [77, 101, 116, 104, 111, 100, 32, 78, 111, 116, 32, 65, 108, 108, 111, 119, 101, 100] else if n = 406 then [78, 111, 116, 32, 65, 99, 99, 101, 112, 116, 97, 98, 108, 101] else if n = 413 then [67, 111, 110, 116, 101, 110, 116, 32, 84, 111, 111, 32, 76, 97, 114, 103, 101] else if n = 416 then [82, 97, 110, 103, 101, 32, 78, 111, 116, 32, 83, 97, 116, 105, 115, 102, 105, 97, 98, 108, 101] else if n = 431 then [82, 101, 113, 117, 101, 115, 116, 32, 72, 101, 97, 100, 101, 114, 32, 70, 105, 101, 108, 100, 115, 32, 84, 111, 111, 32, 76, 97, 114, 103, 101] else if n = 502 then [66, 97, 100, 32, 71, 97, 116, 101, 119, 97, 121] else if n = 503 then [83, 101, 114, 118, 105, 99, 101, 32, 85, 110, 97, 118, 97, 105, 108, 97, 98, 108, 101] else if n = 504 then [71, 97, 116, 101, 119, 97, 121, 32, 84, 105, 109, 101, 111, 117, 116] else if n = 505 then [72, 84, 84, 80, 32, 86, 101, 114, 115, 105, 111, 110, 32, 78, 111, 116, 32, 83, 117, 112, 112, 111, 114, 116, 101, 100] else [85, 110, 107, 110, 111, 119, 110]
theorem ite_len {p : Prop} [Decidable p] {a b : List UInt8} {m : Nat} (ha : a.length ≤ m) (hb : b.length ≤ m) : (if p then a else b).length ≤ m := by split <;> assumption
theorem reason_len (n : Int) : (reasonL n).length ≤ 40 := by
  unfold reasonL
  repeat (refine ite_len (by decide) ?_)
  decide
set_option maxHeartbeats 8000000 in
theorem reason_any (n : Int) (w : World) : Calls Tryd.prog 30 #[.int .i64 n] w fun e w' => e = .returned (.string ⟨(reasonL n).toArray⟩) ∧ w = w' := by
  go_enter Tryd.func30, Tryd.ntmps30
  by_cases h200 : n = 200
  · subst h200
    go_wp2_with fail
    go_ret
    exact ⟨rfl, rfl⟩
  have d200 : (n == 200) = false := by simpa using h200
  by_cases h206 : n = 206
  · subst h206
    go_wp2_with fail
    go_ret
    exact ⟨rfl, rfl⟩
  have d206 : (n == 206) = false := by simpa using h206
  by_cases h304 : n = 304
  · subst h304
    go_wp2_with fail
    go_ret
    exact ⟨rfl, rfl⟩
  have d304 : (n == 304) = false := by simpa using h304
  by_cases h400 : n = 400
  · subst h400
    go_wp2_with fail
    go_ret
    exact ⟨rfl, rfl⟩
  have d400 : (n == 400) = false := by simpa using h400
  by_cases h404 : n = 404
  · subst h404
    go_wp2_with fail
    go_ret
    exact ⟨rfl, rfl⟩
  have d404 : (n == 404) = false := by simpa using h404
  by_cases h405 : n = 405
  · subst h405
    go_wp2_with fail
    go_ret
    exact ⟨rfl, rfl⟩
  have d405 : (n == 405) = false := by simpa using h405
  by_cases h406 : n = 406
  · subst h406
    go_wp2_with fail
    go_ret
    exact ⟨rfl, rfl⟩
  have d406 : (n == 406) = false := by simpa using h406
  by_cases h413 : n = 413
  · subst h413
    go_wp2_with fail
    go_ret
    exact ⟨rfl, rfl⟩
  have d413 : (n == 413) = false := by simpa using h413
  by_cases h416 : n = 416
  · subst h416
    go_wp2_with fail
    go_ret
    exact ⟨rfl, rfl⟩
  have d416 : (n == 416) = false := by simpa using h416
  by_cases h431 : n = 431
  · subst h431
    go_wp2_with fail
    go_ret
    exact ⟨rfl, rfl⟩
  have d431 : (n == 431) = false := by simpa using h431
  by_cases h502 : n = 502
  · subst h502
    go_wp2_with fail
    go_ret
    exact ⟨rfl, rfl⟩
  have d502 : (n == 502) = false := by simpa using h502
  by_cases h503 : n = 503
  · subst h503
    go_wp2_with fail
    go_ret
    exact ⟨rfl, rfl⟩
  have d503 : (n == 503) = false := by simpa using h503
  by_cases h504 : n = 504
  · subst h504
    go_wp2_with fail
    go_ret
    exact ⟨rfl, rfl⟩
  have d504 : (n == 504) = false := by simpa using h504
  by_cases h505 : n = 505
  · subst h505
    go_wp2_with fail
    go_ret
    exact ⟨rfl, rfl⟩
  have d505 : (n == 505) = false := by simpa using h505
  have HV := Lib.hid (show (⟨(reasonL n).toArray⟩ : ByteArray) = ⟨#[85, 110, 107, 110, 111, 119, 110]⟩ by
    unfold reasonL
    rw [if_neg h200, if_neg h206, if_neg h304, if_neg h400, if_neg h404, if_neg h405, if_neg h406, if_neg h413, if_neg h416, if_neg h431, if_neg h502, if_neg h503, if_neg h504, if_neg h505])
  clear h200 h206 h304 h400 h404 h405 h406 h413 h416 h431 h502 h503 h504 h505
  go_wp2_with fail
  go_ret
  exact ⟨by rw [HV.out]; rfl, rfl⟩
/-- a field that can be written -/
structure Ok (f : Fld) : Prop where
  s1 : f.1.size ≤ 1000
  s2 : f.2.size ≤ 1000
  tok : Fld.tokenP f.1.data.toList = true
  txt : ∀ c ∈ f.2.data.toList, 32 ≤ c.toNat ∧ c.toNat < 127
  trm : Lib.trimS f.2.data.toList [32, 9] = f.2.data.toList
def lineL (f : Fld) : List UInt8 := f.1.data.toList ++ [58, 32] ++ f.2.data.toList ++ [13, 10]
def headL (s : ByteArray) (fs : List Fld) : List UInt8 := s.data.toList ++ [13, 10] ++ fs.flatMap lineL
theorem headL_len (s : ByteArray) (fs : List Fld) (h : ∀ f ∈ fs, Ok f) : (headL s fs).length ≤ s.size + 2 + fs.length * 2004 := by
  induction fs with
  | nil => simp [headL, len_data]
  | cons f fs ih =>
    have h1 := h f List.mem_cons_self
    have ih := ih fun g hg => h g (List.mem_cons_of_mem _ hg)
    have a1 := h1.s1
    have a2 := h1.s2
    simp only [headL, lineL, List.flatMap_cons, List.length_append, len_data, List.length_cons, List.length_nil] at ih ⊢
    omega
theorem headL_snoc (s : ByteArray) (fs : List Fld) (f : Fld) : headL s (fs ++ [f]) = headL s fs ++ lineL f := by simp [headL]
theorem cells_app (a b : List UInt8) : Lib.byteCells (a ++ b) = Lib.byteCells a ++ Lib.byteCells b := by simp [Lib.byteCells]
theorem cells_str (s : ByteArray) : Lib.strCells s = Lib.byteCells s.data.toList := rfl
def laidL (s : ByteArray) (fs : List Fld) : List UInt8 := headL s fs ++ [13, 10]
set_option maxRecDepth 100000 in
set_option maxHeartbeats 8000000 in
theorem laid_ok (s : ByteArray) (fs : List Fld) (g cap : Nat) (w : World) (hs : s.size ≤ 1000) (hn : fs.length ≤ 32) (HF : Hid (∀ f ∈ fs, Ok f)) (hrd : RdF w (some ⟨g, 0, none⟩) fs) (hlen : (laidL s fs).length ≤ 4096) :
    Calls Tryd.prog 29 #[.string s, .slice (some ⟨g, 0, none⟩) fs.length cap] w fun e w' => e = .returned (.tuple #[.string ⟨(laidL s fs).toArray⟩, .int .i64 0]) ∧ Reg.Ext w w' := by
  have HRD := Lib.hid hrd
  have HL := Lib.hid hlen
  have HS := Lib.hid hs
  have HN := Lib.hid hn
  have d1 : decide ((32 : Int) < (fs.length : Int)) = false := by rw [decide_eq_false_iff_not]; omega
  clear hrd hlen hs hn
  go_enter Tryd.func29, Tryd.ntmps29
  go_upto_region 4 with (fail)
  have hb0 : Lib.IsBuilder 60 5 w.heap.size w.heap.size (Lib.byteCells []) (w.alloc (.cells #[.pointer none, .slice none 0 0] 60)) := Lib.fresh_isBuilder _ _ w
  have hx0 := Reg.Ext.alloc w (.cells #[.pointer none, .slice none 0 0] 60)
  generalize w.alloc (.cells #[.pointer none, .slice none 0 0] 60) = w0 at *
  obtain ⟨B, hB⟩ : ∃ B, w.heap.size = B := ⟨_, rfl⟩
  have HBW := Lib.hid hB
  rw [hB] at hb0 ⊢
  have HB0 := Lib.hid hb0
  have HX0 := Lib.hid hx0
  clear hb0 hx0 hB d1
  obtain ⟨L1, hL1⟩ : ∃ L1 : ByteArray, s ++ ⟨#[13, 10]⟩ = L1 := ⟨_, rfl⟩
  have HL1 : Hid (L1.data.toList = headL s []) := by show _ = _; rw [← hL1]; simp [headL]
  have HL1s : Hid (L1.size ≤ 1002) := by
    show _ ≤ _
    have a : (⟨#[13, 10]⟩ : ByteArray).size = 2 := rfl
    have := HS.out
    rw [← hL1, ByteArray.size_append, a]; omega
  have hs3 : s.size ≤ 1000 := HS.out
  go_wp2_with fail
  first | rw [hL1] | skip
  clear hL1 hs3
  refine (Bld.string_any B B (Lib.byteCells []) L1 w0 HB0.out (by rw [Lib.byteCells_length]; have := HL1s.out; simp; omega) (by have := HX0.out.size; have := HBW.out; omega)).mono ?_
  rintro e w1 ⟨rfl, hb1, hx1⟩
  have HB1 : Hid (Lib.IsBuilder 60 5 B B (Lib.byteCells (headL s [])) w1) := by
    rw [← HL1.out]
    exact .inr hb1
  have HX1 : Hid (Reg.Ext w w1) := Below.trans HX0.out (by rw [← HBW.out] at hx1; exact hx1)
  clear hb1 hx1 HB0 HX0
  go_wp2_with fail
  go_loopw [8, 17] (fun _ i wr => ∃ k : Nat, k ≤ fs.length ∧ i = .int .i64 k ∧ Hid (Lib.IsBuilder 60 5 B B (Lib.byteCells (headL s (fs.take k))) wr) ∧ Hid (Reg.Ext w wr)) (fun _ i _ => fs.length - (intOf i).toNat)
  case atStart => exact ⟨0, Nat.zero_le _, rfl, HB1, HX1⟩
  case round =>
    obtain ⟨k, hk, rfl, HBk, HXk⟩ := hrel
    have hn := HN.out
    have hll : (headL s (fs.take k)).length ≤ 4096 := by
      have h1 := HL.out
      unfold laidL at h1
      have h2 : (headL s fs).length = (headL s (fs.take k)).length + ((fs.drop k).flatMap lineL).length := by
        have e : headL s fs = headL s (fs.take k) ++ (fs.drop k).flatMap lineL := by
          unfold headL
          rw [List.append_assoc _ _ ((fs.drop k).flatMap lineL), ← List.flatMap_append, List.take_append_drop]
        rw [e, List.length_append]
      rw [List.length_append] at h1
      omega
    have HLL := Lib.hid hll
    clear hll
    by_cases hkn : k < fs.length
    · obtain ⟨ad, ead, -, q1, q2⟩ := (HRD.out.ext HXk.out).at_ k hkn
      injection ead with ead
      subst ead
      rw [add_plain, Nat.zero_add] at q1 q2
      have hok := HF.out fs[k] (List.getElem_mem hkn)
      have htk : fs.take (k + 1) = fs.take k ++ [fs[k]] := List.take_succ_eq_append_getElem hkn
      generalize fs[k] = f at *
      have HOK := Lib.hid hok
      have HTK := Lib.hid htk
      clear hok htk
      go_upto_region 7 with (fail)
      refine wp_region_lit ?_
      iterate 3 go_step
      refine wpList_fld rfl _ rfl g (k * 2) rfl f q1 q2 ?_
      simp only [Act.put, Act.eval, List.setIfInBounds_toArray, List.set_cons_zero, List.set_cons_succ, Nat.reduceAdd, Array.getD_eq_getD_getElem?, List.getElem?_toArray, List.getElem?_cons_succ, List.getElem?_cons_zero, Option.getD_some]
      iterate 3 go_step
      have hbf := Blk.new wr 46 #[.string ⟨#[]⟩, .string ⟨#[]⟩]
      refine wpList_stf rfl _ _ rfl wr.heap.size f rfl rfl [.string ⟨#[]⟩, .string ⟨#[]⟩] rfl (Lib.hid hbf) ?_
      simp only [Act.put, Act.eval, List.setIfInBounds_toArray, List.set_cons_zero, List.set_cons_succ, Nat.reduceAdd, Array.getD_eq_getD_getElem?, List.getElem?_toArray, List.getElem?_cons_succ, List.getElem?_cons_zero, Option.getD_some]
      clear hbf
      obtain ⟨hb8, hx8⟩ := newf wr f #[.string ⟨#[]⟩, .string ⟨#[]⟩] rfl
      generalize ((wr.alloc (Obj.cells #[.string ⟨#[]⟩, .string ⟨#[]⟩] 46)).setCells wr.heap.size 0 [.string f.1, .string f.2]) = w8 at *
      generalize wr.heap.size = g8 at *
      have H8 := Lib.hid hb8
      have X8 := Lib.hid (HXk.out.trans hx8)
      have HB8 := Lib.hid (Bld.Is.ext HBk.out hx8)
      clear hb8 hx8 q1 q2 HBk HXk
      have GO := fun w => Lib.hid (Fld.good_yes f w (by have := HOK.out.s1; omega) (by have := HOK.out.s2; omega) HOK.out.tok (Lib.hid HOK.out.txt) HOK.out.trm)
      have PR := fun w => Lib.hid (Fld.print_fld f w (by have := HOK.out.s1; omega) (by have := HOK.out.s2; omega))
      go_upto_region 8 with (fail)
      refine wp_region_lit ?_
      refine wpList_fld rfl _ rfl g8 0 rfl f (H8.out.cell 0) (H8.out.cell 1) ?_
      simp only [Act.put, Act.eval, List.setIfInBounds_toArray, List.set_cons_zero, List.set_cons_succ, Nat.reduceAdd, Array.getD_eq_getD_getElem?, List.getElem?_toArray, List.getElem?_cons_succ, List.getElem?_cons_zero, Option.getD_some]
      go_wp2_with fail
      refine (GO w8).out.mono ?_
      rintro e w9 ⟨rfl, x9⟩
      have H9 := Lib.hid (H8.out.ext x9)
      have X9 := Lib.hid (X8.out.trans x9)
      have HB9 := Lib.hid (Bld.Is.ext HB8.out x9)
      clear x9 H8 X8 HB8 GO
      go_upto_region 10 with (fail)
      refine wp_region_lit ?_
      refine wpList_fld rfl _ rfl g8 0 rfl f (H9.out.cell 0) (H9.out.cell 1) ?_
      simp only [Act.put, Act.eval, List.setIfInBounds_toArray, List.set_cons_zero, List.set_cons_succ, Nat.reduceAdd, Array.getD_eq_getD_getElem?, List.getElem?_toArray, List.getElem?_cons_succ, List.getElem?_cons_zero, Option.getD_some]
      go_wp2_with fail
      refine (PR w9).out.mono ?_
      rintro e wa ⟨rfl, xa⟩
      have XA := Lib.hid (X9.out.trans xa)
      have HBA := Lib.hid (Bld.Is.ext HB9.out xa)
      clear xa H9 X9 HB9 PR
      have zs1 := HOK.out.s1
      have zs2 := HOK.out.s2
      obtain ⟨P, hP⟩ : ∃ P : ByteArray, f.1 ++ ⟨#[58, 32]⟩ ++ f.2 = P := ⟨_, rfl⟩
      have hPs : P.size ≤ 2002 := by
        have a : (⟨#[58, 32]⟩ : ByteArray).size = 2 := rfl
        rw [← hP, ByteArray.size_append, ByteArray.size_append, a]; omega
      obtain ⟨L, hL⟩ : ∃ L : ByteArray, P ++ ⟨#[13, 10]⟩ = L := ⟨_, rfl⟩
      have HLL2 : Hid (L.data.toList = lineL f) := by show _ = _; rw [← hL, ← hP]; simp [lineL]
      have hLs : L.size ≤ 2004 := by
        have a : (⟨#[13, 10]⟩ : ByteArray).size = 2 := rfl
        rw [← hL, ByteArray.size_append, a]; omega
      rw [hP]
      clear hP zs1 zs2
      go_wp2_with fail
      first | rw [hL] | skip
      clear hL
      refine (Bld.string_any B B _ L wa HBA.out (by rw [Lib.byteCells_length]; have := HLL.out; omega) (by have := XA.out.size; have := HBW.out; omega)).mono ?_
      rintro e wb ⟨rfl, hbb, hxb⟩
      have HBB : Hid (Lib.IsBuilder 60 5 B B (Lib.byteCells (headL s (fs.take (k + 1)))) wb) := by
        show Lib.IsBuilder _ _ _ _ _ _
        rw [HTK.out, headL_snoc, cells_app, ← HLL2.out]
        exact .inr hbb
      have HXB : Hid (Reg.Ext w wb) := Below.trans XA.out (by rw [← HBW.out] at hxb; exact hxb)
      clear hbb hxb HBA XA HLL2 hLs hPs
      go_wp2_with fail
      go_roundw
      case rel => exact ⟨k + 1, by omega, by go_num, HBB, HXB⟩
      case measure => simp [intOf]; omega
    · have hke : k = fs.length := by omega
      subst hke
      rw [List.take_length] at HBk
      go_wp2_with fail
      refine (Bld.string_any B B _ ⟨#[13, 10]⟩ wr HBk.out (by rw [Lib.byteCells_length]; have := HLL.out; rw [List.take_length] at this; show _ + 2 ≤ _; omega) (by have := HXk.out.size; have := HBW.out; omega)).mono ?_
      rintro e wb ⟨rfl, hbb, hxb⟩
      have HBB : Hid (Lib.IsBuilder 60 5 B B (Lib.byteCells (laidL s fs)) wb) := by
        show Lib.IsBuilder _ _ _ _ _ _
        unfold laidL
        rw [cells_app]
        exact .inr hbb
      have HXB : Hid (Reg.Ext w wb) := Below.trans HXk.out (by rw [← HBW.out] at hxb; exact hxb)
      clear hbb hxb HBk HXk HLL
      have hz := HL.out
      have dz : decide ((4096 : Int) < ((Lib.byteCells (laidL s fs)).length : Int)) = false := by rw [decide_eq_false_iff_not, Lib.byteCells_length]; omega
      have HST := Lib.hid (Bld.str_any B B (laidL s fs) wb HBB.out (by unfold laidL; simp))
      have HLN := Lib.hid (Bld.len_any B B _ wb HBB.out)
      clear hz HL
      generalize (Lib.byteCells (laidL s fs)).length = q at *
      go_wp2_with fail
      refine HLN.out.mono ?_
      rintro e w' ⟨rfl, rfl⟩
      go_wp2_with fail
      refine HST.out.mono ?_
      rintro e wc ⟨rfl, hxc⟩
      have HXC : Hid (Reg.Ext w wc) := Below.trans HXB.out (by rw [← HBW.out] at hxc; exact hxc)
      clear hxc
      go_wp2_with fail
      go_ret2
      exact ⟨rfl, HXC.out⟩
set_option maxRecDepth 100000 in
set_option maxHeartbeats 4000000 in
theorem answer_ok (n : Int) (fs : List Fld) (g cap : Nat) (w : World) (h1 : 100 ≤ n) (h2 : n ≤ 599) (hn : fs.length ≤ 32) (HF : Hid (∀ f ∈ fs, Ok f)) (hrd : RdF w (some ⟨g, 0, none⟩) fs) (hlen : (fs.flatMap lineL).length ≤ 3000) (ht : Hex.Tab10 w) :
    Calls Tryd.prog 20 #[.int .i64 n, .slice (some ⟨g, 0, none⟩) fs.length cap] w fun e w' => ∃ H : ByteArray, e = .returned (.tuple #[.string H, .int .i64 0]) ∧ 0 < H.size ∧ Reg.Ext w w' := by
  have d1 : decide (n < 100) = false := by rw [decide_eq_false_iff_not]; omega
  have d2 : decide ((599 : Int) < n) = false := by rw [decide_eq_false_iff_not]; omega
  have HD := Lib.hid (Hex.dec_any n w (by omega) (by omega) ht)
  have hdl : (⟨(Lib.itoa n).toArray⟩ : ByteArray).size ≤ 21 := by rw [Fld.siz]; exact Lib.itoa_length_le n (by omega) (by omega)
  have hrl : (⟨(reasonL n).toArray⟩ : ByteArray).size ≤ 40 := by rw [Fld.siz]; exact reason_len n
  have HR := fun w => Lib.hid (reason_any n w)
  generalize (⟨(Lib.itoa n).toArray⟩ : ByteArray) = D at *
  generalize (⟨(reasonL n).toArray⟩ : ByteArray) = R at *
  have HRD := Lib.hid hrd
  have HL := Lib.hid hlen
  have HN := Lib.hid hn
  clear ht hrd hlen hn h1 h2
  go_enter Tryd.func20, Tryd.ntmps20
  go_wp2_with fail
  refine HD.out.mono ?_
  rintro e w1 ⟨rfl, x1⟩
  have X1 := Lib.hid x1
  clear x1 HD
  go_wp2_with fail
  refine (HR w1).out.mono ?_
  rintro e w' ⟨rfl, rfl⟩
  obtain ⟨S, hS⟩ : ∃ S : ByteArray, ⟨#[72, 84, 84, 80, 47, 49, 46, 49, 32]⟩ ++ D ++ ⟨#[32]⟩ ++ R = S := ⟨_, rfl⟩
  have hSs : S.size ≤ 71 := by
    have a : (⟨#[72, 84, 84, 80, 47, 49, 46, 49, 32]⟩ : ByteArray).size = 9 := rfl
    have b : (⟨#[32]⟩ : ByteArray).size = 1 := rfl
    rw [← hS, ByteArray.size_append, ByteArray.size_append, ByteArray.size_append, a, b]; omega
  go_wp2_with fail
  first | rw [hS] | skip
  clear hS
  have hl : (laidL S fs).length = S.size + 4 + (fs.flatMap lineL).length := by
    unfold laidL headL
    simp only [List.length_append, len_data, List.length_cons, List.length_nil]; omega
  refine (laid_ok S fs g cap w1 (by omega) HN.out HF (HRD.out.ext X1.out) (by rw [hl]; have := HL.out; omega)).mono ?_
  rintro e w2 ⟨rfl, x2⟩
  have X2 := Lib.hid (X1.out.trans x2)
  have HP : Hid (0 < (⟨(laidL S fs).toArray⟩ : ByteArray).size) := by
    show _ < _
    rw [Fld.siz, hl]; omega
  clear x2 hl
  generalize (⟨(laidL S fs).toArray⟩ : ByteArray) = H at *
  go_wp2_with fail
  go_ret2
  exact ⟨H, rfl, HP.out, X2.out⟩
end Out
end Go.Proofs.YtdnaijaamnfgmaaDoor

/- Package field: unquote, param. -/
import Derived.Test.YtglnefmaphajaaaDoorFieldE
import Derived.Laws.ResultCell
set_option linter.unusedSimpArgs false
set_option linter.unusedVariables false
set_option linter.unusedSectionVars false
namespace Go.Proofs.YtglnefmaphajaaaDoor
open Go.RowKit
namespace Tst
open Fld
def bl (l : List UInt8) : ByteArray := ⟨l.toArray⟩
theorem bl_l (l : List UInt8) : (bl l).data.toList = l := lst l
theorem bl_of (s : ByteArray) : bl s.data.toList = s := ba_data s
def unqV (l : List UInt8) : Value := .tuple #[.string (bl (unqP l).1), .bool (unqP l).2]
theorem unqP_short {l : List UInt8} (ht : tokenP l = false) (h : l.length < 2) : unqP l = ([], false) := by
  unfold unqP
  rw [ht, if_neg (by decide)]
  match l, h with
  | [], _ => rfl
  | [_], _ => rfl
theorem unqP_long {l r : List UInt8} {b : UInt8} (ht : tokenP l = false) (h : l = b :: r) (h2 : 2 ≤ l.length) : unqP l = if b = 34 then unqG [] r else ([], false) := by
  subst h
  unfold unqP
  rw [ht, if_neg (by decide)]
  match r, h2 with
  | c :: r, _ => rfl
set_option maxRecDepth 100000 in
set_option maxHeartbeats 8000000 in
theorem unquote_any (s : ByteArray) (w : World) (hs : s.size ≤ 17179869184) :
    Calls Tryd.prog 39 #[.string s] w fun e w' => e = .returned (unqV s.data.toList) ∧ Reg.Ext w w' := by
  go_enter Tryd.func39, Tryd.ntmps39
  go_wp2_with fail
  refine (token_any s w (by omega)).mono ?_
  rintro e w1 ⟨rfl, x1⟩
  have X1 := Lib.hid x1
  clear x1
  cases ht : tokenP s.data.toList with
  | true =>
    have HV := Lib.hid (show unqV s.data.toList = .tuple #[.string s, .bool true] by unfold unqV unqP; rw [ht, if_pos rfl, bl_of])
    clear ht
    go_wp2_with fail
    go_ret2
    exact ⟨by rw [HV.out]; rfl, X1.out⟩
  | false =>
  by_cases h2 : s.size < 2
  · have HV := Lib.hid (show unqV s.data.toList = .tuple #[.string ⟨#[]⟩, .bool false] by unfold unqV; rw [unqP_short ht (by rw [len_data]; exact h2)]; rfl)
    have d2 : decide ((s.size : Int) < 2) = true := by rw [decide_eq_true_iff]; omega
    clear ht
    go_wp2_with fail
    go_ret2
    exact ⟨by rw [HV.out]; rfl, X1.out⟩
  have d2 : decide ((s.size : Int) < 2) = false := by rw [decide_eq_false_iff_not]; omega
  obtain ⟨r, hr⟩ := first_of s (by omega)
  have hu := unqP_long ht hr (by rw [len_data]; omega)
  have hdr : r = s.data.toList.drop 1 := by rw [hr]; rfl
  clear ht
  by_cases h34 : s[0] = 34
  case neg =>
    rw [if_neg h34] at hu
    have HV := Lib.hid (show unqV s.data.toList = .tuple #[.string ⟨#[]⟩, .bool false] by unfold unqV; rw [hu]; rfl)
    have d3 : ((s[0].toNat : Int) != 34) = true := by
      rw [bne_iff_ne]; intro e; exact h34 (UInt8.toNat_inj.1 (by show s[0].toNat = 34; omega))
    have hpos : 0 < s.size := by omega
    clear hr hdr hu h34
    go_wp2_with fail
    go_ret2
    exact ⟨by rw [HV.out]; rfl, X1.out⟩
  case pos =>
  rw [if_pos h34, hdr] at hu
  have HU := Lib.hid hu
  have d3 : ((s[0].toNat : Int) != 34) = false := by rw [h34]; rfl
  have hpos : 0 < s.size := by omega
  clear hr hdr hu h34
  go_wp2_with fail
  clear d3 d2
  go_loopw [4, 5] (fun v i wr => ∃ (l : List UInt8) (k : Nat), i = .int .i64 (k : Int) ∧ 1 ≤ k ∧ k ≤ s.size ∧ Hid (Buf w wr v l) ∧ l.length ≤ k ∧ Hid (unqP s.data.toList = unqG l (s.data.toList.drop k))) (fun _ i _ => s.size - (intOf i).toNat)
  case atStart => exact ⟨[], 1, rfl, Nat.le_refl _, by omega, Buf.nil_ w w1 X1.out, by simp, HU⟩
  case round =>
    obtain ⟨l, k, rfl, hk1, hk, HB, hl, HE⟩ := hrel
    by_cases hks : k < s.size
    · have hkl : k < s.data.toList.length := by rw [len_data]; exact hks
      have hd : s.data.toList.drop k = s[k] :: s.data.toList.drop (k + 1) := List.drop_eq_getElem_cons hkl
      have he := HE.out
      rw [hd] at he
      have d0 : decide ((k : Int) < (s.size : Int)) = true := by rw [decide_eq_true_iff]; omega
      clear hd HE
      unfold unqG at he
      by_cases h34 : s[k] = 34
      · rw [if_pos h34] at he
        have d1 : ((s[k].toNat : Int) == 34) = true := by rw [h34]; rfl
        have hem : (s.data.toList.drop (k + 1)).isEmpty = ((k : Int) == (s.size : Int) - 1) := by
          rw [Bool.eq_iff_iff, List.isEmpty_iff, beq_iff_eq, List.drop_eq_nil_iff, len_data]; omega
        rw [hem] at he
        have HV := Lib.hid (show unqV s.data.toList = .tuple #[.string ⟨l.toArray⟩, .bool ((k : Int) == (s.size : Int) - 1)] by unfold unqV; rw [he]; rfl)
        have hcs := HB.out.str
        have HX := Lib.hid HB.out.ext
        clear he hem h34
        go_wp2_with fail
        go_ret2
        exact ⟨by rw [HV.out]; rfl, HX.out⟩
      rw [if_neg h34] at he
      have d1 : ((s[k].toNat : Int) == 34) = false := by
        rw [beq_eq_false_iff_ne]; intro e; exact h34 (UInt8.toNat_inj.1 (by show s[k].toNat = 34; omega))
      by_cases h92 : s[k] = 92
      · rw [if_pos h92] at he
        have d2 : ((s[k].toNat : Int) == 92) = true := by rw [h92]; rfl
        by_cases hke : k + 1 = s.size
        · have d3 : ((k : Int) + 1 == (s.size : Int)) = true := by rw [beq_iff_eq]; omega
          rw [List.drop_of_length_le (by rw [len_data]; omega)] at he
          have HV := Lib.hid (show unqV s.data.toList = .tuple #[.string ⟨#[]⟩, .bool false] by unfold unqV; rw [he]; rfl)
          have HX := Lib.hid HB.out.ext
          clear he h34 h92
          go_wp2_with fail
          go_ret2
          exact ⟨by rw [HV.out]; rfl, HX.out⟩
        · have d3 : ((k : Int) + 1 == (s.size : Int)) = false := by rw [beq_eq_false_iff_ne]; omega
          have hk2 : k + 1 < s.size := by omega
          have hd : s.data.toList.drop (k + 1) = s[k + 1] :: s.data.toList.drop (k + 1 + 1) := List.drop_eq_getElem_cons (by rw [len_data]; omega)
          rw [hd] at he
          have HE2 := Lib.hid he
          clear he hd h34 h92
          go_wp2_with (refine Buf.push1 rfl (.tmp 43) (.tmp 47) rfl _ l rfl w wr _ s[k + 1] rfl HB.out rfl (by omega) ?_; intro v4 w4 hb4 hg4; have HB4 := Lib.hid hb4; clear hb4 hg4)
          go_roundw
          case rel => exact ⟨l ++ [s[k + 1]], k + 1 + 1, by go_num, by omega, by omega, HB4, by rw [List.length_append, List.length_singleton]; omega, HE2⟩
          case measure => simp [intOf]; omega
      · rw [if_neg h92] at he
        have d2 : ((s[k].toNat : Int) == 92) = false := by
          rw [beq_eq_false_iff_ne]; intro e; exact h92 (UInt8.toNat_inj.1 (by show s[k].toNat = 92; omega))
        have HE2 := Lib.hid he
        clear he h34 h92
        go_wp2_with (refine Buf.push1 rfl (.tmp 43) (.tmp 47) rfl _ l rfl w wr _ s[k] rfl HB.out rfl (by omega) ?_; intro v4 w4 hb4 hg4; have HB4 := Lib.hid hb4; clear hb4 hg4)
        go_roundw
        case rel => exact ⟨l ++ [s[k]], k + 1, by go_num, by omega, by omega, HB4, by rw [List.length_append, List.length_singleton]; omega, HE2⟩
        case measure => simp [intOf]; omega
    · have d0 : decide ((k : Int) < (s.size : Int)) = false := by rw [decide_eq_false_iff_not]; omega
      have he := HE.out
      rw [List.drop_of_length_le (by rw [len_data]; omega)] at he
      have HV := Lib.hid (show unqV s.data.toList = .tuple #[.string ⟨#[]⟩, .bool false] by unfold unqV; rw [he]; rfl)
      have HX := Lib.hid HB.out.ext
      clear he HE
      go_wp2_with fail
      go_ret2
      exact ⟨by rw [HV.out]; rfl, HX.out⟩
def pairV (p : List UInt8 × List UInt8) : Value := fv (bl p.1, bl p.2)
def paramV (l : List UInt8) : Value := .tuple #[pairV (paramP l).1, .bool (paramP l).2]
theorem cut1_le (c : UInt8) (l : List UInt8) : (Str.cut1 c l).1.length ≤ l.length ∧ (Str.cut1 c l).2.1.length ≤ l.length := by
  rcases Str.cut1_cases c l with ⟨a, b, e1, _, e3, _⟩ | ⟨e1, _, _⟩
  · rw [e1]
    have := congrArg List.length e3
    simp only [List.length_append, List.length_cons] at this
    exact ⟨by simp only; omega, by simp only; omega⟩
  · rw [e1]; exact ⟨Nat.le_refl _, Nat.zero_le _⟩
theorem results_fld {fn : Func} {p u : Tmp} (h : fn.results = #[.cell p 35, .tmp u]) (tmps : Array Value) (w : World) (g : Nat) (f : Fld)
    (hp : tmps.getD p undef = .pointer (some ⟨g, 0, none⟩)) (hg : Hid (Blk w g 35 [.string f.1, .string f.2])) :
    (results fn tmps).run Tryd.prog w = .ok (.tuple #[fv f, tmps.getD u undef]) w := by
  rw [results_cell_tmp h, hp]
  simp [asAddr, run_loadVar_row w g 35 35 #[.string f.1, .string f.2] (0, 0) _ hg.out Tryd.fldUnd rfl Tryd.fldSize, fv]
theorem wpList_valF {P : Program} {ops : Array Oper} {rest : List Oper} {o : Oper} {a : Act} {w : World} {Q : Exit → Act → World → Prop} (hgd : o.guard = none) (v : Value)
    (hr : (execOp a.eval o).run P w = .ok (.value v) w) (hk : wpList P ops Q rest (a.put o.dst v) w) : wpList P ops Q (o :: rest) a w :=
  wpList_plain hgd fun K hK => by unfold Oper.wp; rw [hr]; exact hK _ _ hk
set_option maxRecDepth 100000 in
set_option maxHeartbeats 8000000 in
theorem param_any (s : ByteArray) (w : World) (hs : s.size ≤ 17179869184) :
    Calls Tryd.prog 29 #[.string s] w fun e w' => e = .returned (paramV s.data.toList) ∧ Reg.Ext w w' := by
  go_enter Tryd.func29, Tryd.ntmps29
  go_upto_region 1 with (fail)
  have hbf := Blk.new w 35 #[.string ⟨#[]⟩, .string ⟨#[]⟩]
  have hxf := Reg.Ext.alloc w (Obj.cells #[.string ⟨#[]⟩, .string ⟨#[]⟩] 35)
  generalize w.alloc (Obj.cells #[.string ⟨#[]⟩, .string ⟨#[]⟩] 35) = w0 at *
  obtain ⟨gr, hg⟩ : ∃ gr, w.heap.size = gr := ⟨_, rfl⟩
  have hgr : w.heap.size ≤ gr := by omega
  rw [hg] at hbf ⊢
  have HB : Hid (Blk w0 gr 35 [.string ⟨#[]⟩, .string ⟨#[]⟩]) := hbf
  have HX := Lib.hid hxf
  clear hbf hxf hg
  go_wp2_with fail
  refine (Str.cut_any s 61 w0 (by omega)).mono ?_
  rintro e w1 ⟨rfl, x1⟩
  have HB1 := Lib.hid (HB.out.ext x1)
  have HX1 := Lib.hid (HX.out.trans x1)
  clear x1 HB HX
  obtain ⟨A, hA⟩ : ∃ A : ByteArray, bl (Str.cut1 61 s.data.toList).1 = A := ⟨_, rfl⟩
  obtain ⟨V, hV⟩ : ∃ V : ByteArray, bl (Str.cut1 61 s.data.toList).2.1 = V := ⟨_, rfl⟩
  have hAl : (Str.cut1 61 s.data.toList).1 = A.data.toList := by rw [← hA, bl_l]
  have hVl : (Str.cut1 61 s.data.toList).2.1 = V.data.toList := by rw [← hV, bl_l]
  obtain ⟨q1, q2⟩ := cut1_le 61 s.data.toList
  rw [hAl, len_data, len_data] at q1
  rw [hVl, len_data, len_data] at q2
  have hpp : paramP s.data.toList = if (Str.cut1 61 s.data.toList).2.2 = true ∧ tokenP A.data.toList = true then ((lowL A.data.toList, (unqP V.data.toList).1), (unqP V.data.toList).2) else (([], []), false) := by
    unfold paramP
    rw [hAl, hVl]
  rw [show Str.cutV 61 s.data.toList = .tuple #[.string A, .string V, .bool (Str.cut1 61 s.data.toList).2.2] by rw [← hA, ← hV]; rfl]
  clear hA hV hAl hVl
  generalize (Str.cut1 61 s.data.toList).2.2 = b at *
  cases b with
  | false =>
    have HV := Lib.hid (show paramV s.data.toList = .tuple #[fv (⟨#[]⟩, ⟨#[]⟩), .bool false] by unfold paramV; rw [hpp, if_neg (fun h => by cases h.1)]; rfl)
    clear hpp
    go_upto_region 3 with (fail)
    refine wp_region_lit ?_
    refine wpList_valF rfl (fv (⟨#[]⟩, ⟨#[]⟩)) (by as_aux_lemma => kernel_rfl) ?_
    simp only [Act.put, Act.eval, List.setIfInBounds_toArray, List.set_cons_zero, List.set_cons_succ, Nat.reduceAdd, Array.getD_eq_getD_getElem?, List.getElem?_toArray, List.getElem?_cons_succ, List.getElem?_cons_zero, Option.getD_some]
    refine wpList_stf rfl _ _ rfl gr ((⟨#[]⟩, ⟨#[]⟩) : Fld) rfl rfl [.string ⟨#[]⟩, .string ⟨#[]⟩] rfl HB1 ?_
    simp only [Act.put, Act.eval, List.setIfInBounds_toArray, List.set_cons_zero, List.set_cons_succ, Nat.reduceAdd, Array.getD_eq_getD_getElem?, List.getElem?_toArray, List.getElem?_cons_succ, List.getElem?_cons_zero, Option.getD_some]
    have HN := Lib.hid (HB1.out.setAll [.string (((⟨#[]⟩, ⟨#[]⟩) : Fld)).1, .string (((⟨#[]⟩, ⟨#[]⟩) : Fld)).2] rfl)
    have XN := Lib.hid (HX1.out.trans_but (But.setCells gr [.string (((⟨#[]⟩, ⟨#[]⟩) : Fld)).1, .string (((⟨#[]⟩, ⟨#[]⟩) : Fld)).2] 0 w1) hgr)
    generalize w1.setCells gr 0 [.string (((⟨#[]⟩, ⟨#[]⟩) : Fld)).1, .string (((⟨#[]⟩, ⟨#[]⟩) : Fld)).2] = wn at *
    go_wp2_with fail
    exact bodyPost_ret (results_fld rfl _ _ gr ((⟨#[]⟩, ⟨#[]⟩) : Fld) rfl HN) rfl ⟨by rw [HV.out]; rfl, XN.out⟩
  | true =>
    have CT := fun w => Lib.hid (token_any A w (by omega))
    have HPP := Lib.hid hpp
    clear hpp
    go_wp2_with fail
    refine (CT w1).out.mono ?_
    rintro e w2 ⟨rfl, x2⟩
    have HB2 := Lib.hid (HB1.out.ext x2)
    have HX2 := Lib.hid (HX1.out.trans x2)
    clear x2 HB1 HX1 CT
    cases ht : tokenP A.data.toList with
    | false =>
      have HV := Lib.hid (show paramV s.data.toList = .tuple #[fv (⟨#[]⟩, ⟨#[]⟩), .bool false] by unfold paramV; rw [HPP.out, ht, if_neg (fun h => by cases h.2)]; rfl)
      clear HPP ht
      go_upto_region 3 with (fail)
      refine wp_region_lit ?_
      refine wpList_valF rfl (fv (⟨#[]⟩, ⟨#[]⟩)) (by as_aux_lemma => kernel_rfl) ?_
      simp only [Act.put, Act.eval, List.setIfInBounds_toArray, List.set_cons_zero, List.set_cons_succ, Nat.reduceAdd, Array.getD_eq_getD_getElem?, List.getElem?_toArray, List.getElem?_cons_succ, List.getElem?_cons_zero, Option.getD_some]
      refine wpList_stf rfl _ _ rfl gr ((⟨#[]⟩, ⟨#[]⟩) : Fld) rfl rfl [.string ⟨#[]⟩, .string ⟨#[]⟩] rfl HB2 ?_
      simp only [Act.put, Act.eval, List.setIfInBounds_toArray, List.set_cons_zero, List.set_cons_succ, Nat.reduceAdd, Array.getD_eq_getD_getElem?, List.getElem?_toArray, List.getElem?_cons_succ, List.getElem?_cons_zero, Option.getD_some]
      have HN := Lib.hid (HB2.out.setAll [.string (((⟨#[]⟩, ⟨#[]⟩) : Fld)).1, .string (((⟨#[]⟩, ⟨#[]⟩) : Fld)).2] rfl)
      have XN := Lib.hid (HX2.out.trans_but (But.setCells gr [.string (((⟨#[]⟩, ⟨#[]⟩) : Fld)).1, .string (((⟨#[]⟩, ⟨#[]⟩) : Fld)).2] 0 w2) hgr)
      generalize w2.setCells gr 0 [.string (((⟨#[]⟩, ⟨#[]⟩) : Fld)).1, .string (((⟨#[]⟩, ⟨#[]⟩) : Fld)).2] = wn at *
      go_wp2_with fail
      exact bodyPost_ret (results_fld rfl _ _ gr ((⟨#[]⟩, ⟨#[]⟩) : Fld) rfl HN) rfl ⟨by rw [HV.out]; rfl, XN.out⟩
    | true =>
      have hpp := HPP.out
      rw [ht, if_pos (by simp)] at hpp
      obtain ⟨T, hT⟩ : ∃ T : ByteArray, bl (unqP V.data.toList).1 = T := ⟨_, rfl⟩
      obtain ⟨q, hq⟩ : ∃ q : Bool, (unqP V.data.toList).2 = q := ⟨_, rfl⟩
      have CU := fun w => Lib.hid (unquote_any V w (by omega))
      rw [show unqV V.data.toList = .tuple #[.string T, .bool q] by unfold unqV; rw [hT, hq]] at CU
      have CL := fun w => Lib.hid (low_any A w (by omega))
      have HV := Lib.hid (show paramV s.data.toList = .tuple #[fv (lowB A, T), .bool q] by unfold paramV pairV; rw [hpp, ← hT, ← hq]; rfl)
      clear hpp HPP ht hT hq
      generalize lowB A = X at *
      go_wp2_with fail
      refine (CU w2).out.mono ?_
      rintro e w3 ⟨rfl, x3⟩
      have HB3 := Lib.hid (HB2.out.ext x3)
      have HX3 := Lib.hid (HX2.out.trans x3)
      clear x3 HB2 HX2 CU
      go_wp2_with fail
      refine (CL w3).out.mono ?_
      rintro e w4 ⟨rfl, x4⟩
      have HB4 := Lib.hid (HB3.out.ext x4)
      have HX4 := Lib.hid (HX3.out.trans x4)
      clear x4 HB3 HX3 CL
      rename_i hK
      refine hK _ _ ?_
      iterate 9 go_step
      refine wpList_stf rfl _ _ rfl gr ((X, T) : Fld) rfl rfl [.string ⟨#[]⟩, .string ⟨#[]⟩] rfl HB4 ?_
      simp only [Act.put, Act.eval, List.setIfInBounds_toArray, List.set_cons_zero, List.set_cons_succ, Nat.reduceAdd, Array.getD_eq_getD_getElem?, List.getElem?_toArray, List.getElem?_cons_succ, List.getElem?_cons_zero, Option.getD_some]
      have HN := Lib.hid (HB4.out.setAll [.string (((X, T) : Fld)).1, .string (((X, T) : Fld)).2] rfl)
      have XN := Lib.hid (HX4.out.trans_but (But.setCells gr [.string (((X, T) : Fld)).1, .string (((X, T) : Fld)).2] 0 w4) hgr)
      generalize w4.setCells gr 0 [.string (((X, T) : Fld)).1, .string (((X, T) : Fld)).2] = wn at *
      go_wp2_with fail
      exact bodyPost_ret (results_fld rfl _ _ gr ((X, T) : Fld) rfl HN) rfl ⟨by rw [HV.out]; rfl, XN.out⟩
end Tst
end Go.Proofs.YtglnefmaphajaaaDoor

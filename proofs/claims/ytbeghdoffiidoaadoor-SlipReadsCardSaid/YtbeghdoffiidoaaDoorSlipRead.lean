/- The walk of slip.Read. -/
import Derived.Test.YtbeghdoffiidoaaDoorSlipParse
import Derived.Test.YtbeghdoffiidoaaDoorSlipLaws
set_option linter.unusedSimpArgs false
set_option linter.unusedVariables false
set_option linter.unusedSectionVars false
namespace Go.Proofs.YtbeghdoffiidoaaDoor
open Go.RowKit
namespace Slp
theorem or_low16 (a b : Nat) (ha : a < 256) (hb : b < 256) : Go.bits .or .i64 ((a : Int) * 256) (b : Int) = ((a * 256 + b : Nat) : Int) := by
  have e : a * 256 ||| b = a * 256 + b := by
    have := Nat.shiftLeft_add_eq_or_of_lt (show b < 2 ^ 8 by omega) a
    rw [Nat.shiftLeft_eq, show (2 : Nat) ^ 8 = 256 from rfl] at this
    exact this.symm
  rw [show (a : Int) * 256 = ((a * 256 : Nat) : Int) by omega]
  show IntKind.i64.wrap ((BitVec.ofInt 64 ((a * 256 : Nat) : Int) ||| BitVec.ofInt 64 (b : Int)).toNat : Int) = _
  rw [BitVec.toNat_or, ofInt_u64 _ (by omega), ofInt_u64 b (by omega), IntKind.wrap_i64, e]
  omega
theorem results_cell_tmp2 {fn : Func} {p u v : Tmp} {ty : TypeId} (h : fn.results = #[.cell p ty, .tmp u, .tmp v]) (tmps : Array Value) (P : Program) (w : World) :
    (results fn tmps).run P w =
      ((asAddr (tmps.getD p undef)).run P w).andThen fun a w₁ => ((loadVar ty a).run P w₁).andThen fun x w₂ => .ok (.tuple #[x, tmps.getD u undef, tmps.getD v undef]) w₂ := by
  simp only [results, h]
  simp [Sem.run_bind, Result.andThen]
theorem results_row3 {P : Program} {fn : Func} {p u v : Tmp} {ty : TypeId} (h : fn.results = #[.cell p ty, .tmp u, .tmp v]) (tmps : Array Value) (w : World) (g : Nat) (t : TypeId) (cs : Array Value) (fr : Nat × Nat) (d : TypeDesc)
    (hp : tmps.getD p undef = .pointer (some ⟨g, 0, none⟩)) (hg : w.heap[g]? = some (.cells cs t fr))
    (hu : P.underlying ty = some d) (hd : (match d with | .struct _ | .array _ _ => true | _ => false) = true) (hi : (P.info? ty).map (·.size) = some cs.size) :
    (results fn tmps).run P w = .ok (.tuple #[.agg cs, tmps.getD u undef, tmps.getD v undef]) w := by
  rw [results_cell_tmp2 h, hp]
  simp [asAddr, run_loadVar_row w g t ty cs fr d hg hu hd hi]
def readV (l : List UInt8) : Value := .tuple #[.agg (readP l).1.cells.toArray, .int .i64 ((readP l).2.1 : Int), .int .i64 ((readP l).2.2 : Int)]
theorem hd_two (s : ByteArray) (h : 2 ≤ s.size) : hd s.data.toList = (s[0]'(by omega)).toNat * 256 + (s[1]'(by omega)).toNat := by
  unfold hd
  rw [List.getD_eq_getElem?_getD, List.getD_eq_getElem?_getD, List.getElem?_eq_getElem (by rw [len_data]; omega), List.getElem?_eq_getElem (by rw [len_data]; omega)]
  rfl
set_option maxRecDepth 100000 in
set_option maxHeartbeats 4000000 in
theorem read_any (s : ByteArray) (w : World) (hs : s.size ≤ 1048576) (hT : Crc.Tab w) :
    Calls Tryd.prog 17 #[.string s] w fun e w' => e = .returned (readV s.data.toList) ∧ Reg.Ext w w' := by
  have HT := Lib.hid hT
  clear hT
  have hlen := len_data s
  go_enter Tryd.func17, Tryd.ntmps17
  go_upto_region 1 with (fail)
  rw [z38]
  have hb2 := boxS w S.none
  have hx2 := Reg.Ext.alloc w (Obj.cells S.none.cells.toArray 25)
  generalize w.alloc (Obj.cells S.none.cells.toArray 25) = wi at *
  generalize hg2 : w.heap.size = g2 at *
  have H2 := Lib.hid hb2
  have X := Lib.hid hx2
  have l2 : w.heap.size ≤ g2 := by omega
  clear hb2 hx2
  by_cases h6 : s.size < 6
  · have d6 : decide ((s.size : Int) < 6) = true := by rw [decide_eq_true_iff]; omega
    have HV : Hid (readV s.data.toList = .tuple #[.agg S.none.cells.toArray, .int .i64 0, .int .i64 17]) := by
      show readV _ = _
      unfold readV readP
      rw [if_pos (by omega)]
      rfl
    clear hlen h6
    -- {A
    go_upto_region 2 with (fail)
    refine wp_region_lit ?_
    refine wpList_val rfl (.agg S.none.cells.toArray) (by as_aux_lemma => kernel_rfl) ?_
    simp only [Act.put, Act.eval, List.setIfInBounds_toArray, List.set_cons_zero, List.set_cons_succ, Nat.reduceAdd, Array.getD_eq_getD_getElem?, List.getElem?_toArray, List.getElem?_cons_succ, List.getElem?_cons_zero, Option.getD_some]
    have h2 := H2.out
    refine wpList_store_mid rfl 25 _ _ rfl g2 0 ((S.none).cells).toArray rfl ?_ (h2.there _ (by have e1 := cells_length _ none_dig; have e2 := cells_length _ none_dig; rw [List.size_toArray]; omega)) (by rw [List.size_toArray, cells_length _ none_dig]; exact size38) (all_oneCell_toArray (oneS _)) ?_
    · rfl
    simp only [List.toList_toArray]
    simp only [Act.put, Act.eval, List.setIfInBounds_toArray, List.set_cons_zero, List.set_cons_succ, Nat.reduceAdd, Array.getD_eq_getD_getElem?, List.getElem?_toArray, List.getElem?_cons_succ, List.getElem?_cons_zero, Option.getD_some]
    have HN := Lib.hid (h2.setAll S.none.cells rfl)
    have XN := Lib.hid (X.out.trans_but (But.setCells g2 S.none.cells 0 wi) l2)
    generalize wi.setCells g2 0 S.none.cells = wn at *
    clear h2 H2 X
    go_wp2_with fail
    exact bodyPost_ret (results_row3 rfl _ _ g2 25 (S.none.cells).toArray (0, 0) _ rfl HN.out undS rfl (by rw [List.size_toArray, cells_length _ none_dig]; exact size38)) rfl ⟨by rw [HV.out]; rfl, XN.out⟩
    -- A}
  have d6 : decide ((s.size : Int) < 6) = false := by rw [decide_eq_false_iff_not]; omega
  have hh := hd_two s (by omega)
  have h0 : 0 < s.size := by omega
  have h1 : 1 < s.size := by omega
  have ha := (s[0]'(by omega)).toNat_lt
  have hb := (s[1]'(by omega)).toNat_lt
  obtain ⟨a, hav⟩ : ∃ a : Nat, a = (s[0]'(by omega)).toNat := ⟨_, rfl⟩
  obtain ⟨b, hbv⟩ : ∃ b : Nat, b = (s[1]'(by omega)).toNat := ⟨_, rfl⟩
  have i0 : ∀ W, (Instr.index 9 (.string s) (.int .i64 0)).run Tryd.prog W = .ok (.int .u8 (a : Int)) W := by
    intro W
    rw [run_index_string (P := Tryd.prog) W _ _ _ _ Tryd.underlying9, dif_pos ⟨by decide, by omega⟩, hav]
    rfl
  have i1 : ∀ W, (Instr.index 9 (.string s) (.int .i64 1)).run Tryd.prog W = .ok (.int .u8 (b : Int)) W := by
    intro W
    rw [run_index_string (P := Tryd.prog) W _ _ _ _ Tryd.underlying9, dif_pos ⟨by decide, by omega⟩, hbv]
    rfl
  rw [← hav] at ha hh
  rw [← hbv] at hb hh
  have hor := or_low16 a b ha hb
  obtain ⟨n, hn⟩ : ∃ n : Nat, n = a * 256 + b := ⟨_, rfl⟩
  have hn2 : n ≤ 65535 := by omega
  rw [← hn] at hh hor
  clear hav hbv h0 h1
  have HH := Lib.hid hh
  clear hh hn
  go_upto_region 3 with (fail)
  go_quiet (fail)
  clear hor i0 i1 ha hb d6
  have H2n := Lib.hid (H2.out.drewN nq)
  have Xn := Lib.hid (X.out.trans (Reg.Ext.drewN wi nq))
  generalize wi.drewN nq = wj at *
  clear H2 X
  have H2 := H2n
  have X := Xn
  clear H2n Xn
  clear wi
  generalize wj = wi at *
  by_cases hz : n = 0
  · have HV : Hid (readV s.data.toList = .tuple #[.agg S.none.cells.toArray, .int .i64 0, .int .i64 3]) := by
      show readV _ = _
      unfold readV readP
      rw [if_neg (by omega), if_pos (.inl (HH.out.trans hz))]
      rfl
    have dz : ((n : Int) == 0) = true := by rw [beq_iff_eq]; omega
    clear HH hlen hz
    -- {B
    go_upto_region 5 with (fail)
    refine wp_region_lit ?_
    refine wpList_val rfl (.agg S.none.cells.toArray) (by as_aux_lemma => kernel_rfl) ?_
    simp only [Act.put, Act.eval, List.setIfInBounds_toArray, List.set_cons_zero, List.set_cons_succ, Nat.reduceAdd, Array.getD_eq_getD_getElem?, List.getElem?_toArray, List.getElem?_cons_succ, List.getElem?_cons_zero, Option.getD_some]
    have h2 := H2.out
    refine wpList_store_mid rfl 25 _ _ rfl g2 0 ((S.none).cells).toArray rfl ?_ (h2.there _ (by have e1 := cells_length _ none_dig; have e2 := cells_length _ none_dig; rw [List.size_toArray]; omega)) (by rw [List.size_toArray, cells_length _ none_dig]; exact size38) (all_oneCell_toArray (oneS _)) ?_
    · rfl
    simp only [List.toList_toArray]
    simp only [Act.put, Act.eval, List.setIfInBounds_toArray, List.set_cons_zero, List.set_cons_succ, Nat.reduceAdd, Array.getD_eq_getD_getElem?, List.getElem?_toArray, List.getElem?_cons_succ, List.getElem?_cons_zero, Option.getD_some]
    have HN := Lib.hid (h2.setAll S.none.cells rfl)
    have XN := Lib.hid (X.out.trans_but (But.setCells g2 S.none.cells 0 wi) l2)
    generalize wi.setCells g2 0 S.none.cells = wn at *
    clear h2 H2 X
    go_wp2_with fail
    exact bodyPost_ret (results_row3 rfl _ _ g2 25 (S.none.cells).toArray (0, 0) _ rfl HN.out undS rfl (by rw [List.size_toArray, cells_length _ none_dig]; exact size38)) rfl ⟨by rw [HV.out]; rfl, XN.out⟩
    -- B}
  have dz : ((n : Int) == 0) = false := by rw [Bool.eq_false_iff, ne_eq, beq_iff_eq]; omega
  by_cases hg : 1024 < n
  · have HV : Hid (readV s.data.toList = .tuple #[.agg S.none.cells.toArray, .int .i64 0, .int .i64 3]) := by
      show readV _ = _
      unfold readV readP
      rw [if_neg (by omega), if_pos (.inr (by rw [HH.out]; exact hg))]
      rfl
    have dg : decide ((1024 : Int) < (n : Int)) = true := by rw [decide_eq_true_iff]; omega
    clear HH hlen hz hg
    -- {C
    go_upto_region 5 with (fail)
    refine wp_region_lit ?_
    refine wpList_val rfl (.agg S.none.cells.toArray) (by as_aux_lemma => kernel_rfl) ?_
    simp only [Act.put, Act.eval, List.setIfInBounds_toArray, List.set_cons_zero, List.set_cons_succ, Nat.reduceAdd, Array.getD_eq_getD_getElem?, List.getElem?_toArray, List.getElem?_cons_succ, List.getElem?_cons_zero, Option.getD_some]
    have h2 := H2.out
    refine wpList_store_mid rfl 25 _ _ rfl g2 0 ((S.none).cells).toArray rfl ?_ (h2.there _ (by have e1 := cells_length _ none_dig; have e2 := cells_length _ none_dig; rw [List.size_toArray]; omega)) (by rw [List.size_toArray, cells_length _ none_dig]; exact size38) (all_oneCell_toArray (oneS _)) ?_
    · rfl
    simp only [List.toList_toArray]
    simp only [Act.put, Act.eval, List.setIfInBounds_toArray, List.set_cons_zero, List.set_cons_succ, Nat.reduceAdd, Array.getD_eq_getD_getElem?, List.getElem?_toArray, List.getElem?_cons_succ, List.getElem?_cons_zero, Option.getD_some]
    have HN := Lib.hid (h2.setAll S.none.cells rfl)
    have XN := Lib.hid (X.out.trans_but (But.setCells g2 S.none.cells 0 wi) l2)
    generalize wi.setCells g2 0 S.none.cells = wn at *
    clear h2 H2 X
    go_wp2_with fail
    exact bodyPost_ret (results_row3 rfl _ _ g2 25 (S.none.cells).toArray (0, 0) _ rfl HN.out undS rfl (by rw [List.size_toArray, cells_length _ none_dig]; exact size38)) rfl ⟨by rw [HV.out]; rfl, XN.out⟩
    -- C}
  have dg : decide ((1024 : Int) < (n : Int)) = false := by rw [decide_eq_false_iff_not]; omega
  by_cases hsh : s.size < 6 + n
  · have HV : Hid (readV s.data.toList = .tuple #[.agg S.none.cells.toArray, .int .i64 0, .int .i64 17]) := by
      show readV _ = _
      unfold readV readP
      rw [if_neg (by omega), HH.out, if_neg (by omega), if_pos (by omega)]
      rfl
    have ds : decide ((s.size : Int) < 6 + (n : Int)) = true := by rw [decide_eq_true_iff]; omega
    clear HH hlen hz hg hsh
    -- {D
    go_upto_region 7 with (fail)
    refine wp_region_lit ?_
    refine wpList_val rfl (.agg S.none.cells.toArray) (by as_aux_lemma => kernel_rfl) ?_
    simp only [Act.put, Act.eval, List.setIfInBounds_toArray, List.set_cons_zero, List.set_cons_succ, Nat.reduceAdd, Array.getD_eq_getD_getElem?, List.getElem?_toArray, List.getElem?_cons_succ, List.getElem?_cons_zero, Option.getD_some]
    have h2 := H2.out
    refine wpList_store_mid rfl 25 _ _ rfl g2 0 ((S.none).cells).toArray rfl ?_ (h2.there _ (by have e1 := cells_length _ none_dig; have e2 := cells_length _ none_dig; rw [List.size_toArray]; omega)) (by rw [List.size_toArray, cells_length _ none_dig]; exact size38) (all_oneCell_toArray (oneS _)) ?_
    · rfl
    simp only [List.toList_toArray]
    simp only [Act.put, Act.eval, List.setIfInBounds_toArray, List.set_cons_zero, List.set_cons_succ, Nat.reduceAdd, Array.getD_eq_getD_getElem?, List.getElem?_toArray, List.getElem?_cons_succ, List.getElem?_cons_zero, Option.getD_some]
    have HN := Lib.hid (h2.setAll S.none.cells rfl)
    have XN := Lib.hid (X.out.trans_but (But.setCells g2 S.none.cells 0 wi) l2)
    generalize wi.setCells g2 0 S.none.cells = wn at *
    clear h2 H2 X
    go_wp2_with fail
    exact bodyPost_ret (results_row3 rfl _ _ g2 25 (S.none.cells).toArray (0, 0) _ rfl HN.out undS rfl (by rw [List.size_toArray, cells_length _ none_dig]; exact size38)) rfl ⟨by rw [HV.out]; rfl, XN.out⟩
    -- D}
  have ds : decide ((s.size : Int) < 6 + (n : Int)) = false := by rw [decide_eq_false_iff_not]; omega
  have hle : 6 + n ≤ s.size := by omega
  have hnb : n ≤ 1024 := by omega
  obtain ⟨R, hR⟩ : ∃ R, R = s.extract 0 (6 + n) := ⟨_, rfl⟩
  have hRs : R.size = 6 + n := by rw [hR, ByteArray.size_extract]; omega
  have hRl : R.data.toList = s.data.toList.take (6 + n) := by rw [hR, ext_to]
  obtain ⟨B, hB⟩ : ∃ B, B = R.extract 6 R.size := ⟨_, rfl⟩
  have hBl : B.data.toList = (s.data.toList.drop 6).take n := by
    rw [hB, ext_from, hRl, List.drop_take]
    congr 1
    omega
  have hBs : B.size = n := by rw [hB, ByteArray.size_extract]; omega
  have HV : Hid (readV s.data.toList = if frame B.data.toList ≠ R.data.toList then .tuple #[.agg S.none.cells.toArray, .int .i64 0, .int .i64 5] else match parse B.data.toList with | none => .tuple #[.agg S.none.cells.toArray, .int .i64 0, .int .i64 3] | some x => .tuple #[.agg x.cells.toArray, .int .i64 ((6 + n : Nat) : Int), .int .i64 0]) := by
    show readV _ = _
    unfold readV readP
    rw [if_neg (by omega), HH.out, if_neg (by omega), if_neg (by omega), hRl, hBl]
    by_cases hq : frame ((s.data.toList.drop 6).take n) ≠ s.data.toList.take (6 + n)
    · rw [if_pos hq, if_pos hq]; rfl
    · rw [if_neg hq, if_neg hq]
      cases parse ((s.data.toList.drop 6).take n) <;> rfl
  have hFl : (⟨(frame B.data.toList).toArray⟩ : ByteArray).data.toList = frame B.data.toList := lst _
  have CF := Lib.hid (framed_any B wi (by omega) (HT.out.below X.out))
  have CP := Lib.hid (fun w => parse_any B w (by omega))
  have HRS := Lib.hid hRs
  have h6R : 6 ≤ R.size := by omega
  have hR2 := hR
  have hB2 := hB
  clear HH hlen hsh hz hg hBl hs h6 hBs hRs HT hRl hR hB
  go_upto_region 9 with (fail)
  rw [← hR2]
  clear hR2
  go_upto_region 10 with (fail)
  rw [← hB2]
  clear hB2
  obtain ⟨F, hF⟩ : ∃ F : ByteArray, F = ⟨(frame B.data.toList).toArray⟩ := ⟨_, rfl⟩
  rw [← hF] at hFl CF
  have HFL := Lib.hid hFl
  clear hFl hF dz dg ds
  go_wp2_with fail
  refine (CF.out).mono ?_
  rintro e wj ⟨rfl, xj⟩
  have H2n := Lib.hid (H2.out.ext xj)
  have Xn := Lib.hid (X.out.trans xj)
  clear H2 X CF xj
  have H2 := H2n
  have X := Xn
  clear H2n Xn
  clear wi
  generalize wj = wi at *
  by_cases hq : frame B.data.toList = R.data.toList
  · have dq : (F.toList == R.toList) = true := by
      rw [ByteArray.toList_eq, ByteArray.toList_eq, HFL.out, beq_iff_eq]
      exact hq
    rw [if_neg (by simp [hq])] at HV
    clear hq HFL
    -- {D2
    cases hp : parse B.data.toList with
    | none =>
      have hpv : parseV B.data.toList = .tuple #[.agg S.none.cells.toArray, .bool false] := by unfold parseV; rw [hp]
      rw [hp] at HV
      rw [hpv] at CP
      clear hp hpv
      have hx : S.none.dig.length = 32 := none_dig
      go_wp2_with fail
      refine (CP.out _).mono ?_
      rintro e wj ⟨rfl, xj⟩
      rename_i hK
      refine hK _ _ ?_
      have H2n := Lib.hid (H2.out.ext xj)
      have Xn := Lib.hid (X.out.trans xj)
      clear H2 X CP xj
      have H2 := H2n
      have X := Xn
      clear H2n Xn
      clear wi
      iterate 12 go_step
      rw [z38]
      have hb8 := boxS wj S.none
      have hx8 := Reg.Ext.alloc wj (Obj.cells S.none.cells.toArray 25)
      have hs8 := H2.out.lt
      have hsx := X.out.size
      generalize wj.alloc (Obj.cells S.none.cells.toArray 25) = w8 at *
      generalize wj.heap.size = g8 at *
      refine wpList_store_mid rfl 25 _ _ rfl g8 0 ((S.none).cells).toArray rfl ?_ (hb8.there _ (by have e1 := cells_length _ hx; have e2 := cells_length _ none_dig; rw [List.size_toArray]; omega)) (by rw [List.size_toArray, cells_length _ hx]; exact size38) (all_oneCell_toArray (oneS _)) ?_
      · rfl
      simp only [List.toList_toArray]
      simp only [Act.put, Act.eval, List.setIfInBounds_toArray, List.set_cons_zero, List.set_cons_succ, Nat.reduceAdd, Array.getD_eq_getD_getElem?, List.getElem?_toArray, List.getElem?_cons_succ, List.getElem?_cons_zero, Option.getD_some]
      have hbx := But.setCells g8 (S.none).cells 0 w8
      have H8 := Lib.hid (hb8.setAll (S.none).cells ((cells_length _ hx).trans (cells_length _ none_dig).symm))
      have H2n := Lib.hid ((H2.out.ext hx8).but hbx (by omega))
      have Xn := Lib.hid ((X.out.trans hx8).trans_but hbx hsx)
      clear H2 X hb8 hx8 hbx
      have H2 := H2n
      have X := Xn
      clear H2n Xn
      generalize w8.setCells g8 0 (S.none).cells = wi at *
      clear wj
      go_upto_region 14 with (fail)
      refine wp_region_lit ?_
      refine wpList_val rfl (.agg S.none.cells.toArray) (by as_aux_lemma => kernel_rfl) ?_
      simp only [Act.put, Act.eval, List.setIfInBounds_toArray, List.set_cons_zero, List.set_cons_succ, Nat.reduceAdd, Array.getD_eq_getD_getElem?, List.getElem?_toArray, List.getElem?_cons_succ, List.getElem?_cons_zero, Option.getD_some]
      have h2 := H2.out
      refine wpList_store_mid rfl 25 _ _ rfl g2 0 ((S.none).cells).toArray rfl ?_ (h2.there _ (by have e1 := cells_length _ none_dig; have e2 := cells_length _ none_dig; rw [List.size_toArray]; omega)) (by rw [List.size_toArray, cells_length _ none_dig]; exact size38) (all_oneCell_toArray (oneS _)) ?_
      · rfl
      simp only [List.toList_toArray]
      simp only [Act.put, Act.eval, List.setIfInBounds_toArray, List.set_cons_zero, List.set_cons_succ, Nat.reduceAdd, Array.getD_eq_getD_getElem?, List.getElem?_toArray, List.getElem?_cons_succ, List.getElem?_cons_zero, Option.getD_some]
      have HN := Lib.hid (h2.setAll S.none.cells rfl)
      have XN := Lib.hid (X.out.trans_but (But.setCells g2 S.none.cells 0 wi) l2)
      generalize wi.setCells g2 0 S.none.cells = wn at *
      clear h2 H2 X
      go_wp2_with fail
      exact bodyPost_ret (results_row3 rfl _ _ g2 25 (S.none.cells).toArray (0, 0) _ rfl HN.out undS rfl (by rw [List.size_toArray, cells_length _ none_dig]; exact size38)) rfl ⟨by rw [HV.out]; rfl, XN.out⟩
    | some x =>
      have hpv : parseV B.data.toList = .tuple #[.agg x.cells.toArray, .bool true] := by unfold parseV; rw [hp]
      have hx := (parse_dig hp).1
      rw [hp] at HV
      rw [hpv] at CP
      clear hp hpv
      go_wp2_with fail
      refine (CP.out _).mono ?_
      rintro e wj ⟨rfl, xj⟩
      rename_i hK
      refine hK _ _ ?_
      have H2n := Lib.hid (H2.out.ext xj)
      have Xn := Lib.hid (X.out.trans xj)
      clear H2 X CP xj
      have H2 := H2n
      have X := Xn
      clear H2n Xn
      clear wi
      iterate 12 go_step
      rw [z38]
      have hb8 := boxS wj S.none
      have hx8 := Reg.Ext.alloc wj (Obj.cells S.none.cells.toArray 25)
      have hs8 := H2.out.lt
      have hsx := X.out.size
      generalize wj.alloc (Obj.cells S.none.cells.toArray 25) = w8 at *
      generalize wj.heap.size = g8 at *
      refine wpList_store_mid rfl 25 _ _ rfl g8 0 ((x).cells).toArray rfl ?_ (hb8.there _ (by have e1 := cells_length _ hx; have e2 := cells_length _ none_dig; rw [List.size_toArray]; omega)) (by rw [List.size_toArray, cells_length _ hx]; exact size38) (all_oneCell_toArray (oneS _)) ?_
      · rfl
      simp only [List.toList_toArray]
      simp only [Act.put, Act.eval, List.setIfInBounds_toArray, List.set_cons_zero, List.set_cons_succ, Nat.reduceAdd, Array.getD_eq_getD_getElem?, List.getElem?_toArray, List.getElem?_cons_succ, List.getElem?_cons_zero, Option.getD_some]
      have hbx := But.setCells g8 (x).cells 0 w8
      have H8 := Lib.hid (hb8.setAll (x).cells ((cells_length _ hx).trans (cells_length _ none_dig).symm))
      have H2n := Lib.hid ((H2.out.ext hx8).but hbx (by omega))
      have Xn := Lib.hid ((X.out.trans hx8).trans_but hbx hsx)
      clear H2 X hb8 hx8 hbx
      have H2 := H2n
      have X := Xn
      clear H2n Xn
      generalize w8.setCells g8 0 (x).cells = wi at *
      clear wj
      go_upto_region 15 with (fail)
      refine wp_region_lit ?_
      have h8 := H8.out
      have h2 := H2.out
      refine wpList_load_row rfl 25 _ rfl g8 rfl 25 (x.cells).toArray (0, 0) _ h8 undS rfl (by rw [List.size_toArray, cells_length x hx]; exact size38) ?_
      simp only [Act.put, Act.eval, List.setIfInBounds_toArray, List.set_cons_zero, List.set_cons_succ, Nat.reduceAdd, Array.getD_eq_getD_getElem?, List.getElem?_toArray, List.getElem?_cons_succ, List.getElem?_cons_zero, Option.getD_some]
      iterate 6 go_step
      refine wpList_store_mid rfl 25 _ _ rfl g2 0 ((x).cells).toArray rfl ?_ (h2.there _ (by have e1 := cells_length _ hx; have e2 := cells_length _ none_dig; rw [List.size_toArray]; omega)) (by rw [List.size_toArray, cells_length _ hx]; exact size38) (all_oneCell_toArray (oneS _)) ?_
      · rfl
      simp only [List.toList_toArray]
      simp only [Act.put, Act.eval, List.setIfInBounds_toArray, List.set_cons_zero, List.set_cons_succ, Nat.reduceAdd, Array.getD_eq_getD_getElem?, List.getElem?_toArray, List.getElem?_cons_succ, List.getElem?_cons_zero, Option.getD_some]
      have HN := Lib.hid (h2.setAll x.cells (by rw [cells_length x hx, cells_length _ none_dig]))
      have XN := Lib.hid (X.out.trans_but (But.setCells g2 x.cells 0 wi) l2)
      generalize wi.setCells g2 0 x.cells = wn at *
      clear h2 h8 H2 X H8
      go_wp2_with fail
      exact bodyPost_ret (results_row3 rfl _ _ g2 25 (x.cells).toArray (0, 0) _ rfl HN.out undS rfl (by rw [List.size_toArray, cells_length _ hx]; exact size38)) rfl ⟨by rw [HV.out, ← HRS.out]; rfl, XN.out⟩
    -- D2}
  · have dq : (F.toList == R.toList) = false := by
      rw [ByteArray.toList_eq, ByteArray.toList_eq, HFL.out, Bool.eq_false_iff, ne_eq, beq_iff_eq]
      exact hq
    rw [if_pos hq] at HV
    clear hq HFL CP
    -- {E
    go_upto_region 11 with (fail)
    refine wp_region_lit ?_
    refine wpList_val rfl (.agg S.none.cells.toArray) (by as_aux_lemma => kernel_rfl) ?_
    simp only [Act.put, Act.eval, List.setIfInBounds_toArray, List.set_cons_zero, List.set_cons_succ, Nat.reduceAdd, Array.getD_eq_getD_getElem?, List.getElem?_toArray, List.getElem?_cons_succ, List.getElem?_cons_zero, Option.getD_some]
    have h2 := H2.out
    refine wpList_store_mid rfl 25 _ _ rfl g2 0 ((S.none).cells).toArray rfl ?_ (h2.there _ (by have e1 := cells_length _ none_dig; have e2 := cells_length _ none_dig; rw [List.size_toArray]; omega)) (by rw [List.size_toArray, cells_length _ none_dig]; exact size38) (all_oneCell_toArray (oneS _)) ?_
    · rfl
    simp only [List.toList_toArray]
    simp only [Act.put, Act.eval, List.setIfInBounds_toArray, List.set_cons_zero, List.set_cons_succ, Nat.reduceAdd, Array.getD_eq_getD_getElem?, List.getElem?_toArray, List.getElem?_cons_succ, List.getElem?_cons_zero, Option.getD_some]
    have HN := Lib.hid (h2.setAll S.none.cells rfl)
    have XN := Lib.hid (X.out.trans_but (But.setCells g2 S.none.cells 0 wi) l2)
    generalize wi.setCells g2 0 S.none.cells = wn at *
    clear h2 H2 X
    go_wp2_with fail
    exact bodyPost_ret (results_row3 rfl _ _ g2 25 (S.none.cells).toArray (0, 0) _ rfl HN.out undS rfl (by rw [List.size_toArray, cells_length _ none_dig]; exact size38)) rfl ⟨by rw [HV.out]; rfl, XN.out⟩
    -- E}
end Slp
end Go.Proofs.YtbeghdoffiidoaaDoor

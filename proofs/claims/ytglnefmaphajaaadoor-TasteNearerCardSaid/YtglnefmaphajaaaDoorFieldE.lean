/- Package field: Get, Elements. -/
import Derived.Test.YtglnefmaphajaaaDoorFieldC
set_option linter.unusedSimpArgs false
set_option linter.unusedVariables false
set_option linter.unusedSectionVars false
namespace Go.Proofs.YtglnefmaphajaaaDoor
open Go.RowKit
namespace Tst
open Fld
/-- a slice reads as these fields -/
def Fl (w : World) (A : Option Addr) (fs : List Fld) : Prop := ∀ k (h : k < fs.length), ∃ g o, A = some ⟨g, o, none⟩ ∧ g < w.heap.size ∧ w.cell? ⟨g, o + k * 2, none⟩ = some (.string fs[k].1) ∧ w.cell? ⟨g, o + k * 2 + 1, none⟩ = some (.string fs[k].2)
theorem Fl.ext {w w' : World} {A : Option Addr} {fs : List Fld} (h : Fl w A fs) (hx : Reg.Ext w w') : Fl w' A fs := fun k hk => by
  obtain ⟨g, o, e, hg, h1, h2⟩ := h k hk
  exact ⟨g, o, e, Nat.lt_of_lt_of_le hg hx.size, hx.at_ h1, hx.at_ h2⟩
theorem Fl.of_rd {w : World} {g : Nat} {fs : List Fld} (h : RdF w (some ⟨g, 0, none⟩) fs) : Fl w (some ⟨g, 0, none⟩) fs := fun k hk => by
  obtain ⟨ad, e, hlt, h1, h2⟩ := h.at_ k hk
  injection e with e
  subst e
  rw [add_plain] at h1 h2
  exact ⟨g, 0, rfl, hlt, h1, h2⟩
/-- fields that aren't too long -/
def Sz (fs : List Fld) : Prop := fs.length ≤ 1000 ∧ ∀ f ∈ fs, f.1.size ≤ 536870912 ∧ f.2.size ≤ 536870912
theorem cutG_len (s : UInt8) : ∀ (n : Nat) (l : List UInt8) (_ : l.length ≤ n) (q : Bool) (cur : List UInt8), (cutG s q cur l).length ≤ l.length + 1
  | n, [], _, _, _ => by unfold cutG; simp
  | 0, c :: l, h, _, _ => by simp at h
  | n + 1, b :: l, h, q, cur => by
    have hl : l.length ≤ n := by simpa using h
    unfold cutG
    split
    · exact Nat.le_succ_of_le (cutG_len s n l hl _ _)
    split
    · cases l with
      | nil => simp
      | cons c l =>
        have := cutG_len s n l (by simp at hl; omega) q (cur ++ [b, c])
        simp only [List.length_cons]; omega
    split
    · have := cutG_len s n l hl q []
      simp only [List.length_cons]; omega
    · exact Nat.le_succ_of_le (cutG_len s n l hl _ _)
theorem cutP_len (s : UInt8) (l : List UInt8) : (cutP s l).length ≤ l.length + 1 := cutG_len s _ l (Nat.le_refl _) _ _
theorem elems_len (name : List UInt8) (M : Nat) : ∀ fs : List Fld, (∀ f ∈ fs, f.2.size ≤ M) → (elemsP name fs).length ≤ fs.length * (M + 1)
  | [], _ => by simp [elemsP]
  | f :: fs, h => by
    have ih := elems_len name M fs fun g hg => h g (List.mem_cons_of_mem _ hg)
    have h1 : (elemsOf f).length ≤ M + 1 := by
      refine Nat.le_trans (List.length_filter_le _ _) (Nat.le_trans (cutP_len _ _) ?_)
      have := h f List.mem_cons_self
      rw [len_data]; omega
    rw [List.length_cons, Nat.succ_mul]
    unfold elemsP at *
    rw [List.filter_cons]
    split
    · rw [List.flatMap_cons, List.length_append]; omega
    · omega
theorem elems_take (name : List UInt8) {fs : List Fld} {k : Nat} {f : Fld} (h : fs[k]? = some f) : elemsP name (fs.take (k + 1)) = elemsP name (fs.take k) ++ (if named name f = true then elemsOf f else []) := by
  obtain ⟨hk, rfl⟩ := List.getElem?_eq_some_iff.1 h
  rw [List.take_succ_eq_append_getElem hk]
  unfold elemsP
  rw [List.filter_append, List.flatMap_append, List.filter_cons, List.filter_nil]
  cases named name fs[k] <;> simp
theorem count_take (name : List UInt8) {fs : List Fld} {k : Nat} {f : Fld} (h : fs[k]? = some f) : ((fs.take (k + 1)).filter (named name)).length = ((fs.take k).filter (named name)).length + (if named name f = true then 1 else 0) := by
  obtain ⟨hk, rfl⟩ := List.getElem?_eq_some_iff.1 h
  rw [List.take_succ_eq_append_getElem hk, List.filter_append, List.length_append, List.filter_cons, List.filter_nil]
  cases named name fs[k] <;> simp
theorem named_test (N : ByteArray) (f : Fld) : ((lowB f.1).toList == (lowB N).toList) = named N.data.toList f := by
  rw [ByteArray.toList_eq, ByteArray.toList_eq]; rfl
set_option maxRecDepth 100000 in
set_option maxHeartbeats 8000000 in
theorem get_any (A : Option Addr) (cap : Nat) (fs : List Fld) (N : ByteArray) (w : World) (HF : Hid (Fl w A fs)) (HS : Hid (Sz fs)) (hN : N.size ≤ 536870912) :
    Calls Tryd.prog 16 #[.slice A fs.length cap, .string N] w fun e w' => ∃ V : ByteArray, e = .returned (.tuple #[.string V, .int .i64 ((fs.filter (named N.data.toList)).length : Int)]) ∧ Reg.Ext w w' := by
  have hlen := HS.out.1
  go_enter Tryd.func16, Tryd.ntmps16
  go_wp2_with fail
  go_loopw [4, 5, 7, 10] (fun v n _ i wr => ∃ (V : ByteArray) (k : Nat), v = .string V ∧ i = .int .i64 (k : Int) ∧ k ≤ fs.length ∧ n = .int .i64 (((fs.take k).filter (named N.data.toList)).length : Int) ∧ Hid (Reg.Ext w wr)) (fun _ _ _ i _ => fs.length - (intOf i).toNat)
  case atStart => exact ⟨⟨#[]⟩, 0, rfl, rfl, Nat.zero_le _, rfl, Reg.Ext.refl w⟩
  case round =>
    obtain ⟨V, k, rfl, rfl, hk, rfl, HX⟩ := hrel
    by_cases hks : k < fs.length
    · have hcl : ((fs.take k).filter (named N.data.toList)).length ≤ 1000 := Nat.le_trans (List.length_filter_le _ _) (by rw [List.length_take]; omega)
      obtain ⟨g, o, rfl, -, q1, q2⟩ := (HF.out.ext HX.out) k hks
      have hkl : fs[k]? = some fs[k] := List.getElem?_eq_getElem hks
      have hmem : fs[k] ∈ fs := List.getElem_mem hks
      generalize fs[k] = f at *
      obtain ⟨z1, z2⟩ := HS.out.2 f hmem
      clear hmem
      have HT := Lib.hid (count_take N.data.toList hkl)
      clear hkl
      generalize ((fs.take k).filter (named N.data.toList)).length = m at *
      go_upto_region 3 with (fail)
      refine wp_region_lit ?_
      iterate 3 go_step
      refine wpList_fld rfl _ rfl g (o + k * 2) rfl f q1 q2 ?_
      simp only [Act.put, Act.eval, List.setIfInBounds_toArray, List.set_cons_zero, List.set_cons_succ, Nat.reduceAdd, Array.getD_eq_getD_getElem?, List.getElem?_toArray, List.getElem?_cons_succ, List.getElem?_cons_zero, Option.getD_some]
      iterate 3 go_step
      have hbf := Blk.new wr 35 #[.string ⟨#[]⟩, .string ⟨#[]⟩]
      refine wpList_stf rfl _ _ rfl wr.heap.size f rfl rfl [.string ⟨#[]⟩, .string ⟨#[]⟩] rfl (Lib.hid hbf) ?_
      simp only [Act.put, Act.eval, List.setIfInBounds_toArray, List.set_cons_zero, List.set_cons_succ, Nat.reduceAdd, Array.getD_eq_getD_getElem?, List.getElem?_toArray, List.getElem?_cons_succ, List.getElem?_cons_zero, Option.getD_some]
      clear hbf
      obtain ⟨hb8, hx8⟩ := newf wr f #[.string ⟨#[]⟩, .string ⟨#[]⟩] rfl
      generalize ((wr.alloc (Obj.cells #[.string ⟨#[]⟩, .string ⟨#[]⟩] 35)).setCells wr.heap.size 0 [.string f.1, .string f.2]) = w8 at *
      generalize wr.heap.size = g8 at *
      have H8 := Lib.hid hb8
      have X8 := Lib.hid hx8
      clear hb8 hx8 q1 q2
      have c0 : w8.cell? ⟨g8, 0, none⟩ = some (.string f.1) := H8.out.cell 0
      have t0 := named_test N f
      have L1 := fun w => Lib.hid (low_any f.1 w (by omega))
      have L2 := fun w => Lib.hid (low_any N w (by omega))
      generalize lowB f.1 = X at *
      generalize lowB N = Y at *
      obtain ⟨b, hb⟩ : ∃ b, named N.data.toList f = b := ⟨_, rfl⟩
      rw [hb] at t0
      have t1 : (X.toList != Y.toList) = !b := by rw [bne, t0]
      go_wp2_with fail
      refine (L1 w8).out.mono ?_
      rintro e w9 ⟨rfl, x9⟩
      have X9 := Lib.hid x9
      clear x9
      go_wp2_with fail
      refine (L2 w9).out.mono ?_
      rintro e wa ⟨rfl, xa⟩
      have XA := Lib.hid (X8.out.trans (X9.out.trans xa))
      have HA := Lib.hid (H8.out.ext (X9.out.trans xa))
      clear xa X9 L1 L2 c0 H8 X8
      have HX2 := Lib.hid (HX.out.trans XA.out)
      have ht := HT.out
      rw [hb] at ht
      have c1 : wa.cell? ⟨g8, 1, none⟩ = some (.string f.2) := HA.out.cell 1
      clear hb HT HX XA HA
      cases b with
      | false =>
        have HM : Hid (((fs.take (k + 1)).filter (named N.data.toList)).length = m) := ht
        clear ht
        go_wp2_with fail
        go_roundw
        case rel => exact ⟨V, k + 1, rfl, by go_num, by omega, by rw [HM.out], HX2⟩
        case measure => simp [intOf]; omega
      | true =>
        have HM : Hid (((fs.take (k + 1)).filter (named N.data.toList)).length = m + 1) := ht
        clear ht
        by_cases hm : m = 0
        · have dm : ((m : Int) == 0) = true := by rw [beq_iff_eq]; omega
          go_wp2_with fail
          go_roundw
          case rel => exact ⟨f.2, k + 1, rfl, by go_num, by omega, by rw [HM.out]; go_num, HX2⟩
          case measure => simp [intOf]; omega
        · have dm : ((m : Int) == 0) = false := by rw [beq_eq_false_iff_ne]; omega
          go_wp2_with fail
          go_roundw
          case rel => exact ⟨V, k + 1, rfl, by go_num, by omega, by rw [HM.out]; go_num, HX2⟩
          case measure => simp [intOf]; omega
    · have hke : k = fs.length := by omega
      subst hke
      rw [List.take_length]
      go_wp2_with fail
      go_ret2
      exact ⟨V, rfl, HX.out⟩
/-- the parts that aren't empty -/
def full (xs : List ByteArray) : List (List UInt8) := (xs.map dl).filter fun x => !x.isEmpty
theorem full_take {xs : List ByteArray} {j : Nat} {x : ByteArray} (h : xs[j]? = some x) : full (xs.take (j + 1)) = full (xs.take j) ++ (if x.size = 0 then [] else [dl x]) := by
  obtain ⟨hj, rfl⟩ := List.getElem?_eq_some_iff.1 h
  unfold full
  rw [List.take_succ_eq_append_getElem hj, List.map_append, List.filter_append, List.map_singleton, List.filter_cons, List.filter_nil]
  have e : (dl xs[j]).isEmpty = decide (xs[j].size = 0) := by
    rw [← len_data, Bool.eq_iff_iff, List.isEmpty_iff, decide_eq_true_iff, List.length_eq_zero_iff]; rfl
  rw [e]
  by_cases h0 : xs[j].size = 0 <;> simp [h0]
theorem full_le (xs : List ByteArray) : (full xs).length ≤ xs.length := by
  unfold full
  exact Nat.le_trans (List.length_filter_le _ _) (by rw [List.length_map]; exact Nat.le_refl _)
theorem scells_at {xs : List ByteArray} {j : Nat} {x : ByteArray} (h : xs[j]? = some x) : (scells xs)[j]? = some (.string x) := by
  unfold scells
  rw [List.getElem?_map, h]; rfl
/-- a text of a row -/
theorem Rd.text {w : World} {A : Option Addr} {xs : List ByteArray} (h : Rd w A (scells xs)) {j : Nat} (hj : j < xs.length) : ∃ ad, A = some ad ∧ w.cell? (ad.add j) = some (.string xs[j]) := by
  have hl : j < (scells xs).length := by unfold scells; rw [List.length_map]; exact hj
  obtain ⟨ad, e, _, hc⟩ := h j hl
  refine ⟨ad, e, ?_⟩
  rw [hc, ← List.getElem?_eq_getElem hl]
  exact scells_at (List.getElem?_eq_getElem hj)
set_option maxRecDepth 100000 in
set_option maxHeartbeats 8000000 in
theorem elements_any (A : Option Addr) (cap : Nat) (fs : List Fld) (N : ByteArray) (w : World) (HF : Hid (Fl w A fs)) (HS : Hid (Sz fs)) (hN : N.size ≤ 536870912) :
    Calls Tryd.prog 17 #[.slice A fs.length cap, .string N] w fun e w' => ∃ v xs, e = .returned v ∧ SOwn w w' v xs ∧ xs.map dl = elemsP N.data.toList fs := by
  have hlen := HS.out.1
  go_enter Tryd.func17, Tryd.ntmps17
  go_wp2_with fail
  go_loopw [4, 6, 8, 11] (fun v _ _ i wr => ∃ (xs : List ByteArray) (k : Nat), i = .int .i64 (k : Int) ∧ k ≤ fs.length ∧ Hid (SOwn w wr v xs) ∧ Hid (xs.map dl = elemsP N.data.toList (fs.take k))) (fun _ _ _ i _ => fs.length - (intOf i).toNat)
  case atStart => exact ⟨[], 0, rfl, Nat.zero_le _, SOwn.nil_ w w (Reg.Ext.refl w), rfl⟩
  case round =>
    obtain ⟨xs, k, rfl, hk, HO, HE⟩ := hrel
    have HX : Hid (Reg.Ext w wr) := HO.out.ext
    by_cases hks : k < fs.length
    · obtain ⟨g, o, rfl, -, q1, q2⟩ := (HF.out.ext HX.out) k hks
      have hkl : fs[k]? = some fs[k] := List.getElem?_eq_getElem hks
      have hmem : fs[k] ∈ fs := List.getElem_mem hks
      generalize fs[k] = f at *
      obtain ⟨z1, z2⟩ := HS.out.2 f hmem
      clear hmem
      have HT := Lib.hid (elems_take N.data.toList hkl)
      clear hkl
      go_upto_region 3 with (fail)
      refine wp_region_lit ?_
      iterate 3 go_step
      refine wpList_fld rfl _ rfl g (o + k * 2) rfl f q1 q2 ?_
      simp only [Act.put, Act.eval, List.setIfInBounds_toArray, List.set_cons_zero, List.set_cons_succ, Nat.reduceAdd, Array.getD_eq_getD_getElem?, List.getElem?_toArray, List.getElem?_cons_succ, List.getElem?_cons_zero, Option.getD_some]
      iterate 3 go_step
      have hbf := Blk.new wr 35 #[.string ⟨#[]⟩, .string ⟨#[]⟩]
      refine wpList_stf rfl _ _ rfl wr.heap.size f rfl rfl [.string ⟨#[]⟩, .string ⟨#[]⟩] rfl (Lib.hid hbf) ?_
      simp only [Act.put, Act.eval, List.setIfInBounds_toArray, List.set_cons_zero, List.set_cons_succ, Nat.reduceAdd, Array.getD_eq_getD_getElem?, List.getElem?_toArray, List.getElem?_cons_succ, List.getElem?_cons_zero, Option.getD_some]
      clear hbf
      obtain ⟨hb8, hx8⟩ := newf wr f #[.string ⟨#[]⟩, .string ⟨#[]⟩] rfl
      generalize ((wr.alloc (Obj.cells #[.string ⟨#[]⟩, .string ⟨#[]⟩] 35)).setCells wr.heap.size 0 [.string f.1, .string f.2]) = w8 at *
      generalize wr.heap.size = g8 at *
      have H8 := Lib.hid hb8
      have X8 := Lib.hid hx8
      clear hb8 hx8 q1 q2
      have c0 : w8.cell? ⟨g8, 0, none⟩ = some (.string f.1) := H8.out.cell 0
      have t0 := named_test N f
      have L1 := fun w => Lib.hid (low_any f.1 w (by omega))
      have L2 := fun w => Lib.hid (low_any N w (by omega))
      generalize lowB f.1 = X at *
      generalize lowB N = Y at *
      obtain ⟨b, hb⟩ : ∃ b, named N.data.toList f = b := ⟨_, rfl⟩
      rw [hb] at t0
      have t1 : (X.toList != Y.toList) = !b := by rw [bne, t0]
      go_wp2_with fail
      refine (L1 w8).out.mono ?_
      rintro e w9 ⟨rfl, x9⟩
      have X9 := Lib.hid x9
      clear x9
      go_wp2_with fail
      refine (L2 w9).out.mono ?_
      rintro e wa ⟨rfl, xa⟩
      have XA := Lib.hid (X8.out.trans (X9.out.trans xa))
      have HA := Lib.hid (H8.out.ext (X9.out.trans xa))
      clear xa X9 L1 L2 c0 H8 X8
      have ht := HT.out
      rw [hb] at ht
      have HO2 := Lib.hid (HO.out.later XA.out)
      clear hb HT HX XA HO
      cases b with
      | false =>
        have HE2 : Hid (xs.map dl = elemsP N.data.toList (fs.take (k + 1))) := by
          show _ = _
          rw [ht, HE.out]; simp
        clear ht HE
        go_wp2_with fail
        go_roundw
        case rel => exact ⟨xs, k + 1, by go_num, by omega, HO2, HE2⟩
        case measure => simp [intOf]; omega
      | true =>
        have HTT : Hid (elemsP N.data.toList (fs.take (k + 1)) = elemsP N.data.toList (fs.take k) ++ elemsOf f) := ht
        have HXL : Hid (xs.length ≤ 536870913000) := by
          show _ ≤ _
          have h1 := elems_len N.data.toList 536870912 (fs.take k) fun g hg => (HS.out.2 g (List.mem_of_mem_take hg)).2
          rw [← HE.out, List.length_map, List.length_take] at h1
          omega
        have c1 : wa.cell? ⟨g8, 1, none⟩ = some (.string f.2) := HA.out.cell 1
        have CC := fun w => Lib.hid (cut_any f.2 44 w (by omega))
        rw [show ((44 : UInt8).toNat : Int) = 44 from rfl] at CC
        have ZL : Hid (f.2.data.toList.length ≤ 536870912) := by show _ ≤ _; rw [len_data]; exact z2
        clear ht
        go_wp2_with fail
        refine (CC wa).out.mono ?_
        rintro e wb ⟨v2, ps, rfl, hso, hps⟩
        obtain ⟨B, cap2, rfl, hrd, hB⟩ := hso.rd
        have HO3 := Lib.hid (HO2.out.later hso.ext)
        have HR := Lib.hid (RdA.of (v := u4) hrd hB (fun g hg => own_lt HO2.out.1 hg))
        have HP : Hid (elemsOf f = full ps) := by
          show _ = _
          unfold elemsOf full
          rw [hps]
        have HPL : Hid (ps.length ≤ 536870913) := by
          show _ ≤ _
          have := cutP_len 44 f.2.data.toList
          rw [← hps, List.length_map] at this
          have := ZL.out
          omega
        clear hso hps hrd hB HO2 c1 CC ZL HA
        go_wp2_with fail
        go_loopw [4, 8, 25] (fun v _ i wr => ∃ (ys : List ByteArray) (j : Nat), i = .int .i64 (j : Int) ∧ j ≤ ps.length ∧ Hid (SOwn w wr v ys) ∧ Hid (RdA wr v B (scells ps)) ∧ Hid (ys.map dl = xs.map dl ++ full (ps.take j))) (fun _ _ i _ => ps.length - (intOf i).toNat)
        case atStart => exact ⟨xs, 0, rfl, Nat.zero_le _, HO3, HR, Lib.hid (by simp [full])⟩
        case round =>
          obtain ⟨ys, j, rfl, hj, HOy, HRy, HEy⟩ := hrel
          have hpl := HPL.out
          by_cases hjs : j < ps.length
          · obtain ⟨ad, rfl, hcell⟩ := Rd.text HRy.out.1 hjs
            have hjl : ps[j]? = some ps[j] := List.getElem?_eq_getElem hjs
            generalize ps[j] = x at *
            have HFT := Lib.hid (full_take hjl)
            clear hjl
            by_cases h0 : x.size = 0
            · obtain ⟨e1, e2, e3⟩ := empty_of x h0
              have HE2 : Hid (ys.map dl = xs.map dl ++ full (ps.take (j + 1))) := by
                show _ = _
                rw [HFT.out, if_pos h0, List.append_nil]; exact HEy.out
              clear e1 h0 HFT HEy
              go_wp2_with fail
              go_roundw
              case rel => exact ⟨ys, j + 1, by go_num, by omega, HOy, HRy, HE2⟩
              case measure => simp [intOf]; omega
            · obtain ⟨e2, e3⟩ := full_of x (by omega)
              have HE2 : Hid ((ys ++ [x]).map dl = xs.map dl ++ full (ps.take (j + 1))) := by
                show _ = _
                rw [HFT.out, if_neg h0, List.map_append, HEy.out, List.append_assoc]; rfl
              have HYL : Hid (ys.length ≤ 537407783913) := by
                show _ ≤ _
                have h1 := congrArg List.length HEy.out
                rw [List.length_map, List.length_append, List.length_map] at h1
                have h2 := full_le (ps.take j)
                rw [List.length_take] at h2
                have := HXL.out
                omega
              clear h0 HFT HEy
              go_upto_region 9 with (fail)
              refine wp_region_lit ?_
              iterate 9 go_step
              have ha := Reg.Ext.alloc wr (.cells #[.string x] 9)
              have hc0 := (Blk.new wr 9 #[.string x]).cell 0
              have HO4 := Lib.hid (HOy.out.later ha)
              have HR4 := Lib.hid (HRy.out.ext ha)
              clear ha HOy HRy
              generalize wr.alloc (.cells #[.string x] 9) = w2 at *
              generalize wr.heap.size = g2 at *
              refine SOwn.push rfl _ _ rfl u4 ys x rfl w w2 g2 HO4.out rfl hc0 (by have := HYL.out; omega) fun v' w3 h3 hg hat => ?_
              have HO5 := Lib.hid h3
              have HR5 := Lib.hid (HR4.out.step hg hat)
              clear h3 hg hat HO4 HR4 hc0 HYL
              simp only [Act.put, Act.eval, List.setIfInBounds_toArray, List.set_cons_zero, List.set_cons_succ, Nat.reduceAdd, Array.getD_eq_getD_getElem?, List.getElem?_toArray, List.getElem?_cons_succ, List.getElem?_cons_zero, Option.getD_some]
              go_wp2_with fail
              go_roundw
              case rel => exact ⟨ys ++ [x], j + 1, by go_num, by omega, HO5, HR5, HE2⟩
              case measure => simp [intOf]; omega
          · have hje : j = ps.length := by omega
            subst hje
            have HE2 : Hid (ys.map dl = elemsP N.data.toList (fs.take (k + 1))) := by
              show _ = _
              rw [HTT.out, HEy.out, List.take_length, HE.out, HP.out]
            clear HEy HE HTT HP HXL HPL HRy HR
            go_wp2_with fail
            go_roundw
            case rel => exact ⟨ys, k + 1, by go_num, by omega, HOy, HE2⟩
            case measure => simp [intOf]; omega
    · have hke : k = fs.length := by omega
      subst hke
      have HE2 := HE.out
      rw [List.take_length] at HE2
      have HE3 := Lib.hid HE2
      clear HE HE2
      go_wp2_with fail
      go_ret
      exact ⟨_, xs, rfl, HO.out, HE3.out⟩
end Tst
end Go.Proofs.YtglnefmaphajaaaDoor

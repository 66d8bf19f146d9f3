/- The walk of slip.All: the slips of a text, one behind the other. -/
import Derived.Test.YtbeghdoffiidoaaDoorSlipRead
import Derived.Test.YtbeghdoffiidoaaDoorSlipRows
set_option linter.unusedSimpArgs false
set_option linter.unusedVariables false
set_option linter.unusedSectionVars false
namespace Go.Proofs.YtbeghdoffiidoaaDoor
open Go.RowKit
namespace Slp
set_option maxRecDepth 100000 in
set_option maxHeartbeats 4000000 in
theorem all_any (s : ByteArray) (w : World) (hs : s.size ≤ 1048576) (hT : Crc.Tab w) :
    Calls Tryd.prog 15 #[.string s] w fun e w' => ∃ v, e = .returned (.tuple #[v, .int .i64 ((allP s.data.toList).2 : Int)]) ∧ Row w.heap.size v (allP s.data.toList).1 w' ∧ Reg.Ext w w' := by
  have HT := Lib.hid hT
  clear hT
  have hlen := len_data s
  obtain ⟨i0, hi, hz0, hz1, hz2, hz3⟩ := slipInfo_of
  go_enter Tryd.func15, Tryd.ntmps15
  go_wp2_with fail
  go_loopw [2, 3, 4, 5, 6] (fun v n _ _ _ wr => ∃ (xs : List S) (k : Nat), Hid (Got s.data.toList xs k ∧ 7 * xs.length ≤ k) ∧ n = .int .i64 (k : Int) ∧ Hid (Row w.heap.size v xs wr) ∧ Hid (Reg.Ext w wr)) (fun _ n _ _ _ _ => s.size - (intOf n).toNat)
  case atStart => exact ⟨[], 0, ⟨Got.zero _, by simp⟩, rfl, ⟨World.ownsRow_nil _ _ _ _, by simp⟩, Reg.Ext.refl w⟩
  case round =>
    obtain ⟨xs, k, HG, rfl, HR, HX⟩ := hrel
    have hkl := HG.out.1.1
    rw [len_data] at hkl
    obtain ⟨t, ht⟩ : ∃ t, t = s.extract k s.size := ⟨_, rfl⟩
    have HTL : Hid (t.data.toList = s.data.toList.drop k) := by show _ = _; rw [ht, ext_from]
    have hts : t.size ≤ 1048576 := by rw [ht]; exact ext_le _ _ _ hs
    have CR := Lib.hid (read_any t wr hts (HT.out.below HX.out))
    have HRT := Lib.hid ht
    clear ht hts
    obtain ⟨x, n, er, hp⟩ : ∃ x n er, readP (s.data.toList.drop k) = (x, n, er) := ⟨_, _, _, rfl⟩
    have hx := readP_dig (s.data.toList.drop k)
    rw [hp] at hx
    have hrv : readV t.data.toList = .tuple #[.agg x.cells.toArray, .int .i64 (n : Int), .int .i64 (er : Int)] := by unfold readV; rw [HTL.out, hp]
    rw [hrv] at CR
    have HN : Hid (er = 0 → (Got s.data.toList (xs ++ [x]) (k + n) ∧ 7 * (xs ++ [x]).length ≤ k + n) ∧ 7 ≤ n ∧ k + n ≤ s.size) := fun he => by
      have h0 : (readP (s.data.toList.drop k)).2.2 = 0 := by rw [hp]; exact he
      have h1 := HG.out.1.next h0
      have h2 := (readP_ok h0).2.2
      have h3 := h1.1
      have h4 := HG.out.2
      rw [hp] at h1 h2 h3
      rw [len_data] at h3
      simp only at h2 h3
      exact ⟨⟨h1, by rw [List.length_append]; simp only [List.length_cons, List.length_nil]; omega⟩, h2.1, h3⟩
    have HE : Hid (er ≠ 0 → allP s.data.toList = (xs, k)) := fun he => HG.out.1.done (by rw [hp]; exact he)
    have hx7 := HG.out.2
    clear hp hrv HG HTL
    go_wp2_with fail
    rw [← HRT.out]
    refine (CR.out).mono ?_
    rintro e wj ⟨rfl, xj⟩
    rename_i hK
    refine hK _ _ ?_
    have HR1 := Lib.hid (HR.out.ext xj)
    have HX1 := Lib.hid (HX.out.trans xj)
    clear CR HR HX xj HRT
    iterate 15 go_step
    rw [z38]
    have hb8 := boxS wj S.none
    have hx8 := Reg.Ext.alloc wj (Obj.cells S.none.cells.toArray 25)
    have hsx := HX1.out.size
    generalize wj.alloc (Obj.cells S.none.cells.toArray 25) = w8 at *
    obtain ⟨g8, hg8⟩ : ∃ g8, wj.heap.size = g8 := ⟨_, rfl⟩
    rw [hg8] at hb8 ⊢
    refine wpList_store_mid rfl 25 _ _ rfl g8 0 ((x).cells).toArray rfl ?_ (hb8.there _ (by have e1 := cells_length _ hx; have e2 := cells_length _ none_dig; rw [List.size_toArray]; omega)) (by rw [List.size_toArray, cells_length _ hx]; exact size38) (all_oneCell_toArray (oneS _)) ?_
    · rfl
    simp only [List.toList_toArray]
    simp only [Act.put, Act.eval, List.setIfInBounds_toArray, List.set_cons_zero, List.set_cons_succ, Nat.reduceAdd, Array.getD_eq_getD_getElem?, List.getElem?_toArray, List.getElem?_cons_succ, List.getElem?_cons_zero, Option.getD_some]
    have hbx := But.setCells g8 x.cells 0 w8
    have H8 := Lib.hid (hb8.setAll x.cells ((cells_length _ hx).trans (cells_length _ none_dig).symm))
    have HR2 := Lib.hid (HR1.out.fresh hx8 hbx (by omega))
    have HX2 := Lib.hid ((HX1.out.trans hx8).trans_but hbx (by omega))
    clear HR1 HX1 hx8 hb8 hbx hg8 hsx
    generalize w8.setCells g8 0 x.cells = wi at *
    clear w8
    by_cases he : er = 0
    · have hn := HN.out he
      have HG2 := Lib.hid hn.1
      have hn7 := hn.2
      have de : ((er : Int) != 0) = false := by rw [he]; rfl
      clear HN HE hn he
      go_upto_region 4 with (fail)
      refine wp_region_lit ?_
      iterate 3 go_step
      refine wpList_load_row rfl 25 _ rfl g8 rfl 25 (x.cells).toArray (0, 0) _ H8.out undS rfl (by rw [List.size_toArray, cells_length x hx]; exact size38) ?_
      simp only [Act.put, Act.eval, List.setIfInBounds_toArray, List.set_cons_zero, List.set_cons_succ, Nat.reduceAdd, Array.getD_eq_getD_getElem?, List.getElem?_toArray, List.getElem?_cons_succ, List.getElem?_cons_zero, Option.getD_some]
      refine wpList_valw rfl _ (exec_one_row wi _ _ (.tmp 20) 34 25 x.cells.toArray rfl rfl i0 (.agg S.none.cells.toArray) Tryd.underlying34 hi hz0 (by rw [hz1, List.size_toArray, cells_length x hx]) (by rw [List.size_toArray, cells_length x hx]; decide) (by rw [List.size_toArray, cells_length x hx]; decide)) ?_
      simp only [Act.put, Act.eval, List.setIfInBounds_toArray, List.set_cons_zero, List.set_cons_succ, Nat.reduceAdd, Array.getD_eq_getD_getElem?, List.getElem?_toArray, List.getElem?_cons_succ, List.getElem?_cons_zero, Option.getD_some]
      have hb9 := boxS wi x
      have hx9 := Reg.Ext.alloc wi (Obj.cells x.cells.toArray 25)
      have HR3 := Lib.hid (HR2.out.ext hx9)
      have HX3 := Lib.hid (HX2.out.trans hx9)
      clear HR2 HX2 hx9
      generalize wi.alloc (Obj.cells x.cells.toArray 25) = w9 at *
      generalize wi.heap.size = g9 at *
      refine wpList_append_own _ rfl _ _ 34 rfl w.heap.size 25 i0 (.agg S.none.cells.toArray) 38 104 Tryd.underlying34 hi hz0 hz1 hz2 hz3 (by decide) u2 xs.length (flat xs) rfl HR3.out.1 ⟨g9, 0, none⟩ 1 1 x.cells rfl (cells_length x hx) ?c1 ?c2 ?c3 ?c4 ?c5 ?_
      case c1 =>
        intro j u hj
        rw [Addr.add_mid, Nat.zero_add, hb9.cell]
        exact hj
      case c2 => exact oneS x
      case c3 => unfold maxLen; omega
      case c4 => omega
      case c5 => exact HX3.out.size
      intro v' w2 hown' hgrow _
      have HR4 : Hid (Row w.heap.size v' (xs ++ [x]) w2) := ⟨by rw [flat_snoc, List.length_append]; exact hown', fun y hy => (List.mem_append.1 hy).elim (HR3.out.2 y) fun h => by rw [List.mem_singleton.1 h]; exact hx⟩
      have HX4 : Hid (Reg.Ext w w2) := Below.grown HX3.out hgrow HX3.out.size (fun k hk => (HR3.out.1.lt k hk).1)
      clear hown' hgrow HR3 HX3 H8 hb9
      simp only [Act.put, Act.eval, List.setIfInBounds_toArray, List.set_cons_zero, List.set_cons_succ, Nat.reduceAdd, Array.getD_eq_getD_getElem?, List.getElem?_toArray, List.getElem?_cons_succ, List.getElem?_cons_zero, Option.getD_some]
      go_wp2_with fail
      go_roundw
      case rel => exact ⟨xs ++ [x], k + n, HG2, by go_num, HR4, HX4⟩
      case measure => simp [intOf]; omega
    · have HA := Lib.hid (HE.out he)
      have de : ((er : Int) != 0) = true := by rw [bne_iff_ne]; omega
      clear HN HE he H8
      go_wp2_with fail
      go_ret2
      exact ⟨u2, by rw [HA.out]; rfl, by rw [HA.out]; exact HR2.out, HX2.out⟩
end Slp
end Go.Proofs.YtbeghdoffiidoaaDoor

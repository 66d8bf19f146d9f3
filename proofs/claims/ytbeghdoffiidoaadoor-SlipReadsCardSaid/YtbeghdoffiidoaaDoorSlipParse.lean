/- The walk of slip.parse. -/
import Derived.Test.YtbeghdoffiidoaaDoorSlipScan
import Derived.Test.YtbeghdoffiidoaaDoorSlipParsed
import Derived.Test.YtbeghdoffiidoaaDoorSlipOnly
import Derived.Test.YtbeghdoffiidoaaDoorCopyStr
import Derived.Test.YtbeghdoffiidoaaDoorDrawn
set_option linter.unusedSimpArgs false
set_option linter.unusedVariables false
set_option linter.unusedSectionVars false
namespace Go.Proofs.YtbeghdoffiidoaaDoor
open Go.RowKit
namespace Slp
theorem At.but {b g : Nat} {s : Sc} {w w' : World} (h : At b s w) (hx : But g w w') (hne : b ≠ g) : At b s w' := by
  obtain ⟨r, bad, h1, h2, h3⟩ := h
  exact ⟨r, bad, h1.but hx hne, h2, h3⟩
set_option maxRecDepth 100000 in
set_option maxHeartbeats 4000000 in
theorem parse_any (s : ByteArray) (w : World) (hs : s.size ≤ 1048576) :
    Calls Tryd.prog 34 #[.string s] w fun e w' => e = .returned (parseV s.data.toList) ∧ Reg.Ext w w' := by
  go_enter Tryd.func34, Tryd.ntmps34
  go_upto_region 1 with (fail)
  rw [z38]
  have hb2 := boxS w S.none
  have hx2 := Reg.Ext.alloc w (Obj.cells S.none.cells.toArray 25)
  have hs2 : (w.alloc (Obj.cells S.none.cells.toArray 25)).heap.size = w.heap.size + 1 := Array.size_push _
  generalize w.alloc (Obj.cells S.none.cells.toArray 25) = w2 at *
  generalize hg2 : w.heap.size = g2 at *
  go_wp2_with fail
  have hb3 : Blk (w2.alloc (Obj.cells #[Value.string s, Value.bool false] 81)) w2.heap.size 81 [.string s, .bool false] := Blk.new w2 81 #[Value.string s, Value.bool false]
  have hx3 := Reg.Ext.alloc w2 (Obj.cells #[Value.string s, Value.bool false] 81)
  have hs3 : (w2.alloc (Obj.cells #[Value.string s, Value.bool false] 81)).heap.size = w2.heap.size + 1 := Array.size_push _
  generalize w2.alloc (Obj.cells #[Value.string s, Value.bool false] 81) = w3 at *
  generalize hg4 : w2.heap.size = g4 at *
  have H2 := Lib.hid (hb2.ext hx3)
  have X := Lib.hid (hx2.trans hx3)
  have hA : At g4 (some s.data.toList) w3 := ⟨s, false, hb3, hs, rfl⟩
  clear hb2 hx2 hx3 hb3 hg4
  have l2 : w.heap.size ≤ g2 := by omega
  have l4 : w.heap.size ≤ g4 := by omega
  have l24 : g2 < g4 := by omega
  clear hg2
  rw [← hs2]
  refine (byte_any g4 _ w3 hA).mono ?_
  rintro e w4 ⟨rfl, h4, x4⟩
  rename_i hK
  have H2 := Lib.hid (H2.out.but x4 (by omega))
  have X := Lib.hid (X.out.trans_but x4 l4)
  have HS := Lib.hid h4
  have hs4 := x4.size
  obtain ⟨n, hn⟩ : ∃ n, n = (nextB (some s.data.toList)).1 := ⟨_, rfl⟩
  have HN := Lib.hid hn
  rw [← hn]
  clear h4 x4 hA hn
  refine hK _ _ ?_
  refine wpList_val rfl (.agg ({ S.none with k := (n : Int) } : S).cells.toArray) (by as_aux_lemma => kernel_rfl) ?_
  simp only [Act.put, Act.eval, List.setIfInBounds_toArray, List.set_cons_zero, List.set_cons_succ, Nat.reduceAdd, Array.getD_eq_getD_getElem?, List.getElem?_toArray, List.getElem?_cons_succ, List.getElem?_cons_zero, Option.getD_some]
  iterate 3 go_step
  rw [z38]
  have hb5 := boxS w4 S.none
  have hx5 := Reg.Ext.alloc w4 (Obj.cells S.none.cells.toArray 25)
  generalize w4.alloc (Obj.cells S.none.cells.toArray 25) = w5 at *
  have l45 : g4 < w4.heap.size := by omega
  generalize w4.heap.size = g5 at *
  clear hs4 hs3 hs2
  have hyl : ({ S.none with k := (n : Int) } : S).dig.length = 32 := none_dig
  refine wpList_store_mid rfl 25 _ _ rfl g5 0 ((({ S.none with k := (n : Int) } : S)).cells).toArray rfl ?_ (hb5.there _ (by have e1 := cells_length _ hyl; have e2 := cells_length _ none_dig; rw [List.size_toArray]; omega)) (by rw [List.size_toArray, cells_length _ hyl]; exact size38) (all_oneCell_toArray (oneS _)) ?_
  · rfl
  simp only [List.toList_toArray]
  simp only [Act.put, Act.eval, List.setIfInBounds_toArray, List.set_cons_zero, List.set_cons_succ, Nat.reduceAdd, Array.getD_eq_getD_getElem?, List.getElem?_toArray, List.getElem?_cons_succ, List.getElem?_cons_zero, Option.getD_some]
  have l5 : w.heap.size ≤ g5 := by omega
  have hbx := But.setCells g5 ({ S.none with k := (n : Int) } : S).cells 0 w5
  have HY := Lib.hid (hb5.setAll ({ S.none with k := (n : Int) } : S).cells (by rw [cells_length _ hyl, cells_length _ none_dig]))
  have H2 := Lib.hid ((H2.out.ext hx5).but hbx (by omega))
  have HS := Lib.hid (At.but (HS.out.ext hx5) hbx (by omega))
  have X := Lib.hid ((X.out.trans hx5).trans_but hbx l5)
  generalize w5.setCells g5 0 ({ S.none with k := (n : Int) } : S).cells = wi at *
  have c0 : wi.cell? ⟨g5, 0, none⟩ = some (.int .i64 n) := HY.out.cell 0
  clear hb5 hx5 hbx
  go_wp2_with fail
  refine (of_any (n : Int) wi).mono ?_
  rintro e w6 ⟨rfl, x6⟩
  have HYn := Lib.hid (HY.out.ext x6)
  have H2n := Lib.hid (H2.out.ext x6)
  have HSn := Lib.hid (HS.out.ext x6)
  have Xn := Lib.hid (X.out.trans x6)
  clear x6 c0 HY H2 HS X
  have HY := HYn
  have H2 := H2n
  have HS := HSn
  have X := Xn
  clear HYn H2n HSn Xn
  obtain ⟨f, hf⟩ : ∃ f, f = flds (n : Int) := ⟨_, rfl⟩
  have hfk := flds_any (n : Int)
  obtain ⟨p, hp⟩ : ∃ p, p = first s.data.toList := ⟨_, rfl⟩
  have HR : Hid (parsed s.data.toList = parseF f p) := by
    show parsed _ = _
    unfold parsed
    rw [← hp, ← HN.out, ← hf]
  have hp1 : ({ S.none with k := (n : Int) } : S) = p.1 := by rw [hp, HN.out]; rfl
  have hp2 : (nextB (some s.data.toList)).2 = p.2 := by rw [hp]; rfl
  rw [hp1] at HY
  have HD : p.1.dig.length = 32 := by rw [← hp1]; exact none_dig
  rw [hp2] at HS
  rw [← hf] at hfk ⊢
  clear hp hp1 hp2 hf HN hyl
  rcases hfk with rfl | rfl | rfl | rfl | rfl | rfl
  ·
    -- {A
    have HR : Hid (parsed s.data.toList = pAt (pThing (pDig (pNames p)))) := HR
    rw [show (F.cells ⟨true, true, true, true⟩) = [.bool true, .bool true, .bool true, .bool true] from rfl]
    go_upto_region 4 with (fail)
    have hb6 : Blk (w6.alloc (Obj.cells #[Value.bool true, Value.bool true, Value.bool true, Value.bool true] 47)) w6.heap.size 47 [.bool true, .bool true, .bool true, .bool true] := Blk.new w6 47 #[Value.bool true, Value.bool true, Value.bool true, Value.bool true]
    have hx6 := Reg.Ext.alloc w6 (Obj.cells #[Value.bool true, Value.bool true, Value.bool true, Value.bool true] 47)
    have lt5 := HY.out.lt
    have ltx := X.out.size
    have HYn := Lib.hid (HY.out.ext hx6)
    have H2n := Lib.hid (H2.out.ext hx6)
    have HSn := Lib.hid (HS.out.ext hx6)
    have Xn := Lib.hid (X.out.trans hx6)
    clear HY H2 HS X hx6
    have HY := HYn
    have H2 := H2n
    have HS := HSn
    have X := Xn
    clear HYn H2n HSn Xn
    generalize w6.alloc (Obj.cells #[Value.bool true, Value.bool true, Value.bool true, Value.bool true] 47) = wi at *
    generalize hg6 : w6.heap.size = g6 at *
    have H6 := Lib.hid hb6
    clear hb6
    have l6 : g5 < g6 := lt5
    clear lt5 ltx hg6
    have p0 : wi.cell? ⟨g6, 0, none⟩ = some (.bool true) := H6.out.cell 0
    have p1 : wi.cell? ⟨g6, 1, none⟩ = some (.bool true) := H6.out.cell 1
    have p2 : wi.cell? ⟨g6, 2, none⟩ = some (.bool true) := H6.out.cell 2
    have p3 : wi.cell? ⟨g6, 3, none⟩ = some (.bool true) := H6.out.cell 3
    go_wp2_with fail
    refine (text_any g4 _ wi HS.out).mono ?_
    rintro e wj ⟨rfl, hj, xj⟩
    clear p0 p1 p2 p3
    have HYn := Lib.hid (HY.out.but xj (by omega))
    have H6n := Lib.hid (H6.out.but xj (by omega))
    have H2n := Lib.hid (H2.out.but xj (by omega))
    have Xn := Lib.hid (X.out.trans_but xj l4)
    have HSn := Lib.hid hj
    clear hj xj HS HY H6 H2 X
    clear wi
    have HS := HSn
    have HY := HYn
    have H6 := H6n
    have H2 := H2n
    have X := Xn
    clear HSn HYn H6n H2n Xn
    generalize wj = wi at *
    go_wp2_with fail
    refine (text_any g4 _ wi HS.out).mono ?_
    rintro e wj ⟨rfl, hj, xj⟩
    skip
    have HYn := Lib.hid (HY.out.but xj (by omega))
    have H6n := Lib.hid (H6.out.but xj (by omega))
    have H2n := Lib.hid (H2.out.but xj (by omega))
    have Xn := Lib.hid (X.out.trans_but xj l4)
    have HSn := Lib.hid hj
    clear hj xj HS HY H6 H2 X
    clear wi
    have HS := HSn
    have HY := HYn
    have H6 := H6n
    have H2 := H2n
    have X := Xn
    clear HSn HYn H6n H2n Xn
    generalize wj = wi at *
    have r1 : wi.cell? ⟨g5, 1, none⟩ = some (.string p.1.repo) := HY.out.cell 1
    have r2 : wi.cell? ⟨g5, 2, none⟩ = some (.string p.1.tag) := HY.out.cell 2
    have f1 := HY.out.frozen 1
    have f2 := HY.out.frozen 2
    have hs := (HY.out.set_ 1 (.string ⟨(textS p.2).1.toArray⟩)).set_ 2 (.string ⟨(textS (textS p.2).2).1.toArray⟩)
    rw [set1, set2] at hs
    have hbx := (But.set_ g5 wi 1 (.string ⟨(textS p.2).1.toArray⟩)).trans (But.set_ g5 _ 2 (.string ⟨(textS (textS p.2).2).1.toArray⟩))
    have HSn : Hid (At g4 (pNames p).2 wi) := HS.out
    have HYn : Hid (Blk ((wi.setCell ⟨g5, 1, none⟩ (.string ⟨(textS p.2).1.toArray⟩)).setCell ⟨g5, 2, none⟩ (.string ⟨(textS (textS p.2).2).1.toArray⟩)) g5 25 (pNames p).1.cells) := hs
    have HDn : (pNames p).1.dig.length = 32 := HD
    have HSn := Lib.hid (At.but HSn.out hbx (by omega))
    have H6n := Lib.hid (H6.out.but hbx (by omega))
    have H2n := Lib.hid (H2.out.but hbx (by omega))
    have Xn := Lib.hid (X.out.trans_but hbx l5)
    go_upto_region 6 with (fail)
    clear r1 r2 f1 f2
    clear hs hbx HS HY HD H6 H2 X
    generalize ((wi.setCell ⟨g5, 1, none⟩ (.string ⟨(textS p.2).1.toArray⟩)).setCell ⟨g5, 2, none⟩ (.string ⟨(textS (textS p.2).2).1.toArray⟩)) = wi at *
    generalize pNames p = p at *
    have HS := HSn
    have HY := HYn
    have HD := HDn
    have H6 := H6n
    have H2 := H2n
    have X := Xn
    clear HSn HYn HDn H6n H2n Xn
    have p0 : wi.cell? ⟨g6, 0, none⟩ = some (.bool true) := H6.out.cell 0
    have p1 : wi.cell? ⟨g6, 1, none⟩ = some (.bool true) := H6.out.cell 1
    have p2 : wi.cell? ⟨g6, 2, none⟩ = some (.bool true) := H6.out.cell 2
    have p3 : wi.cell? ⟨g6, 3, none⟩ = some (.bool true) := H6.out.cell 3
    go_wp2_with fail
    refine wp_region_held (S := Drawn.One) (by kernel_rfl) ?_
    refine wpAnyH_take (i := 0) rfl (by kernel_rfl) (by kernel_rfl) (by kernel_rfl) (fun _ _ _ h => h) (v := .pointer (some ⟨g5, 3, none⟩)) (.inl ⟨rfl, fun w _ => by as_aux_lemma => kernel_rfl⟩) trivial ?_
    simp only [Act.put, Act.eval, List.setIfInBounds_toArray, List.set_cons_zero, List.set_cons_succ, Nat.reduceAdd, Array.getD_eq_getD_getElem?, List.getElem?_toArray, List.getElem?_cons_succ, List.getElem?_cons_zero, Option.getD_some]
    refine wpAnyH_take (i := 1) rfl (by kernel_rfl) (by kernel_rfl) (by kernel_rfl) (fun _ _ _ h => h) (v := .slice (some ⟨g5, 3, none⟩) 32 32) (.inl ⟨rfl, fun w _ => by as_aux_lemma => kernel_rfl⟩) trivial ?_
    simp only [Act.put, Act.eval, List.setIfInBounds_toArray, List.set_cons_zero, List.set_cons_succ, Nat.reduceAdd, Array.getD_eq_getD_getElem?, List.getElem?_toArray, List.getElem?_cons_succ, List.getElem?_cons_zero, Option.getD_some]
    refine wpAnyH_take (i := 2) rfl (by kernel_rfl) (by kernel_rfl) (by kernel_rfl) (fun _ _ _ h => h) (v := .pointer (some ⟨g4, 0, none⟩)) (.inl ⟨rfl, fun w _ => by as_aux_lemma => kernel_rfl⟩) trivial ?_
    simp only [Act.put, Act.eval, List.setIfInBounds_toArray, List.set_cons_zero, List.set_cons_succ, Nat.reduceAdd, Array.getD_eq_getD_getElem?, List.getElem?_toArray, List.getElem?_cons_succ, List.getElem?_cons_zero, Option.getD_some]
    refine Drawn.of_list [3, 4] [_, _] _ _ _ _ rfl (by kernel_rfl) (by decide) ?_
    change wpList _ _ _ _ _ wi.drew
    repeat go_step
    have HTL := Lib.hid (take_len 32 p.2)
    refine (take_any g4 p.2 32 wi.drew (HS.out.ext (Reg.Ext.drew _)) (by decide)).mono ?_
    rintro e wj ⟨rfl, hj, xj'⟩
    rename_i hK
    refine hK _ _ ?_
    have xj := (But.of_ext (g := g4) (Reg.Ext.drew wi)).trans xj'
    clear xj' p0 p1 p2 p3
    have HYn := Lib.hid (HY.out.but xj (by omega))
    have H6n := Lib.hid (H6.out.but xj (by omega))
    have H2n := Lib.hid (H2.out.but xj (by omega))
    have Xn := Lib.hid (X.out.trans_but xj l4)
    have HSn := Lib.hid hj
    clear hj xj HS HY H6 H2 X
    clear wi
    have HS := HSn
    have HY := HYn
    have H6 := H6n
    have H2 := H2n
    have X := Xn
    clear HSn HYn H6n H2n Xn
    generalize wj = wi at *
    have hyo := HY.out
    obtain ⟨t, ht⟩ : ∃ t : ByteArray, t = ⟨(take 32 p.2).1.toArray⟩ := ⟨_, rfl⟩
    have htl : t.data.toList = (take 32 p.2).1 := by rw [ht]
    have hts : t.size = (take 32 p.2).1.length := by rw [← htl, len_data]
    rw [← ht]
    refine wpList_copy_str rfl _ _ 42 9 rfl 5 Tryd.underlying42 (fun _ => by as_aux_lemma => kernel_rfl) g5 3 32 32 rfl t rfl (fun j hj => (there_dig hyo HD j (by omega)).1) (fun j hj => hyo.frozen _) ?_
    have hs : Blk (wi.setCells g5 3 ((t.data.toList.take (min t.size 32)).map byteV)) g5 25 (pDig p).1.cells := by
      rw [htl, hts]
      unfold pDig
      rcases HTL.out with h1 | h1
      · rw [h1, List.take_of_length_le (by rw [h1]; decide), if_neg (by intro e; rw [e] at h1; cases h1)]
        exact put_dig hyo _ (h1.trans HD.symm)
      · rw [h1, if_pos rfl]
        exact hyo
    have hbx := But.setCells g5 ((t.data.toList.take (min t.size 32)).map byteV) 3 wi
    clear htl hts ht hyo
    have HSn : Hid (At g4 (pDig p).2 wi) := HS.out
    have HYn : Hid (Blk (wi.setCells g5 3 ((t.data.toList.take (min t.size 32)).map byteV)) g5 25 (pDig p).1.cells) := hs
    have HDn : (pDig p).1.dig.length = 32 := pDig_len p HD
    have HSn := Lib.hid (At.but HSn.out hbx (by omega))
    have H6n := Lib.hid (H6.out.but hbx (by omega))
    have H2n := Lib.hid (H2.out.but hbx (by omega))
    have Xn := Lib.hid (X.out.trans_but hbx l5)
    simp only [Act.put, Act.eval, List.setIfInBounds_toArray, List.set_cons_zero, List.set_cons_succ, Nat.reduceAdd, Array.getD_eq_getD_getElem?, List.getElem?_toArray, List.getElem?_cons_succ, List.getElem?_cons_zero, Option.getD_some]
    clear hs hbx HS HY HD H6 H2 X
    generalize (wi.setCells g5 3 ((t.data.toList.take (min t.size 32)).map byteV)) = wi at *
    generalize pDig p = p at *
    have HS := HSn
    have HY := HYn
    have HD := HDn
    have H6 := H6n
    have H2 := H2n
    have X := Xn
    clear HSn HYn HDn H6n H2n Xn
    clear HTL
    have p0 : wi.cell? ⟨g6, 0, none⟩ = some (.bool true) := H6.out.cell 0
    have p1 : wi.cell? ⟨g6, 1, none⟩ = some (.bool true) := H6.out.cell 1
    have p2 : wi.cell? ⟨g6, 2, none⟩ = some (.bool true) := H6.out.cell 2
    have p3 : wi.cell? ⟨g6, 3, none⟩ = some (.bool true) := H6.out.cell 3
    go_wp2_with fail
    refine (text_any g4 _ wi HS.out).mono ?_
    rintro e wj ⟨rfl, hj, xj⟩
    clear p0 p1 p2 p3
    have HYn := Lib.hid (HY.out.but xj (by omega))
    have H6n := Lib.hid (H6.out.but xj (by omega))
    have H2n := Lib.hid (H2.out.but xj (by omega))
    have Xn := Lib.hid (X.out.trans_but xj l4)
    have HSn := Lib.hid hj
    clear hj xj HS HY H6 H2 X
    clear wi
    have HS := HSn
    have HY := HYn
    have H6 := H6n
    have H2 := H2n
    have X := Xn
    clear HSn HYn H6n H2n Xn
    generalize wj = wi at *
    go_wp2_with fail
    refine (number_any g4 _ wi HS.out).mono ?_
    rintro e wj ⟨rfl, hj, xj⟩
    skip
    have HYn := Lib.hid (HY.out.but xj (by omega))
    have H6n := Lib.hid (H6.out.but xj (by omega))
    have H2n := Lib.hid (H2.out.but xj (by omega))
    have Xn := Lib.hid (X.out.trans_but xj l4)
    have HSn := Lib.hid hj
    clear hj xj HS HY H6 H2 X
    clear wi
    have HS := HSn
    have HY := HYn
    have H6 := H6n
    have H2 := H2n
    have X := Xn
    clear HSn HYn H6n H2n Xn
    generalize wj = wi at *
    have r1 : wi.cell? ⟨g5, 35, none⟩ = some (.string p.1.typ) := by rw [HY.out.cell, at35 p.1 HD]
    have r2 : wi.cell? ⟨g5, 36, none⟩ = some (.int .i64 p.1.size) := by rw [HY.out.cell, at36 p.1 HD]
    have f1 := HY.out.frozen 35
    have f2 := HY.out.frozen 36
    have hs0 := HY.out.set_ 35 (.string ⟨(textS p.2).1.toArray⟩)
    rw [set35 p.1 HD] at hs0
    have hs := hs0.set_ 36 (.int .i64 ((numS (textS p.2).2).1 : Int))
    rw [set36 ({ p.1 with typ := ⟨(textS p.2).1.toArray⟩ } : S) HD] at hs
    clear hs0
    have hbx := (But.set_ g5 wi 35 (.string ⟨(textS p.2).1.toArray⟩)).trans (But.set_ g5 _ 36 (.int .i64 ((numS (textS p.2).2).1 : Int)))
    have HSn : Hid (At g4 (pThing p).2 wi) := HS.out
    have HYn : Hid (Blk ((wi.setCell ⟨g5, 35, none⟩ (.string ⟨(textS p.2).1.toArray⟩)).setCell ⟨g5, 36, none⟩ (.int .i64 ((numS (textS p.2).2).1 : Int))) g5 25 (pThing p).1.cells) := hs
    have HDn : (pThing p).1.dig.length = 32 := HD
    have HSn := Lib.hid (At.but HSn.out hbx (by omega))
    have H6n := Lib.hid (H6.out.but hbx (by omega))
    have H2n := Lib.hid (H2.out.but hbx (by omega))
    have Xn := Lib.hid (X.out.trans_but hbx l5)
    go_upto_region 10 with (fail)
    clear r1 r2 f1 f2
    clear hs hbx HS HY HD H6 H2 X
    generalize ((wi.setCell ⟨g5, 35, none⟩ (.string ⟨(textS p.2).1.toArray⟩)).setCell ⟨g5, 36, none⟩ (.int .i64 ((numS (textS p.2).2).1 : Int))) = wi at *
    generalize pThing p = p at *
    have HS := HSn
    have HY := HYn
    have HD := HDn
    have H6 := H6n
    have H2 := H2n
    have X := Xn
    clear HSn HYn HDn H6n H2n Xn
    have p0 : wi.cell? ⟨g6, 0, none⟩ = some (.bool true) := H6.out.cell 0
    have p1 : wi.cell? ⟨g6, 1, none⟩ = some (.bool true) := H6.out.cell 1
    have p2 : wi.cell? ⟨g6, 2, none⟩ = some (.bool true) := H6.out.cell 2
    have p3 : wi.cell? ⟨g6, 3, none⟩ = some (.bool true) := H6.out.cell 3
    go_wp2_with fail
    refine (number_any g4 _ wi HS.out).mono ?_
    rintro e wj ⟨rfl, hj, xj⟩
    clear p0 p1 p2 p3
    have HYn := Lib.hid (HY.out.but xj (by omega))
    have H6n := Lib.hid (H6.out.but xj (by omega))
    have H2n := Lib.hid (H2.out.but xj (by omega))
    have Xn := Lib.hid (X.out.trans_but xj l4)
    have HSn := Lib.hid hj
    clear hj xj HS HY H6 H2 X
    clear wi
    have HS := HSn
    have HY := HYn
    have H6 := H6n
    have H2 := H2n
    have X := Xn
    clear HSn HYn H6n H2n Xn
    generalize wj = wi at *
    have r1 : wi.cell? ⟨g5, 37, none⟩ = some (.int .i64 p.1.at_) := by rw [HY.out.cell, at37 p.1 HD]
    have f1 := HY.out.frozen 37
    have hs := HY.out.set_ 37 (.int .i64 ((numS p.2).1 : Int))
    rw [set37 p.1 HD] at hs
    have hbx := But.set_ g5 wi 37 (.int .i64 ((numS p.2).1 : Int))
    have HSn : Hid (At g4 (pAt p).2 wi) := HS.out
    have HYn : Hid (Blk (wi.setCell ⟨g5, 37, none⟩ (.int .i64 ((numS p.2).1 : Int))) g5 25 (pAt p).1.cells) := hs
    have HDn : (pAt p).1.dig.length = 32 := HD
    have HSn := Lib.hid (At.but HSn.out hbx (by omega))
    have H6n := Lib.hid (H6.out.but hbx (by omega))
    have H2n := Lib.hid (H2.out.but hbx (by omega))
    have Xn := Lib.hid (X.out.trans_but hbx l5)
    go_upto_region 12 with (fail)
    clear r1 f1
    clear hs hbx HS HY HD H6 H2 X
    generalize (wi.setCell ⟨g5, 37, none⟩ (.int .i64 ((numS p.2).1 : Int))) = wi at *
    generalize pAt p = p at *
    have HS := HSn
    have HY := HYn
    have HD := HDn
    have H6 := H6n
    have H2 := H2n
    have X := Xn
    clear HSn HYn HDn H6n H2n Xn
    have p0 : wi.cell? ⟨g6, 0, none⟩ = some (.bool true) := H6.out.cell 0
    have p1 : wi.cell? ⟨g6, 1, none⟩ = some (.bool true) := H6.out.cell 1
    have p2 : wi.cell? ⟨g6, 2, none⟩ = some (.bool true) := H6.out.cell 2
    have p3 : wi.cell? ⟨g6, 3, none⟩ = some (.bool true) := H6.out.cell 3
    obtain ⟨r, bad, hb, hr, hst⟩ := HS.out
    have c0 : wi.cell? ⟨g4, 0, none⟩ = some (.string r) := hb.cell 0
    have c1 : wi.cell? ⟨g4, 1, none⟩ = some (.bool bad) := hb.cell 1
    have HST := Lib.hid hst
    clear hb hr hst
    cases bad with
    | true =>
      have HV : Hid (parseV s.data.toList = .tuple #[.agg S.none.cells.toArray, .bool false]) := by
        show parseV _ = _
        unfold parseV parse
        rw [HR.out, if_neg (by rw [HST.out]; simp)]
      clear HR HST HS
      go_upto_region 13 with (fail)
      refine wp_region_lit ?_
      refine wpList_val rfl (.agg S.none.cells.toArray) (by as_aux_lemma => kernel_rfl) ?_
      simp only [Act.put, Act.eval, List.setIfInBounds_toArray, List.set_cons_zero, List.set_cons_succ, Nat.reduceAdd, Array.getD_eq_getD_getElem?, List.getElem?_toArray, List.getElem?_cons_succ, List.getElem?_cons_zero, Option.getD_some]
      have h2 := H2.out
      refine wpList_store_mid rfl 25 _ _ rfl g2 0 ((S.none).cells).toArray rfl ?_ (h2.there _ (by have e1 := cells_length _ none_dig; have e2 := cells_length _ none_dig; rw [List.size_toArray]; omega)) (by rw [List.size_toArray, cells_length _ none_dig]; exact size38) (all_oneCell_toArray (oneS _)) ?_
      · rfl
      simp only [List.toList_toArray]
      simp only [Act.put, Act.eval, List.setIfInBounds_toArray, List.set_cons_zero, List.set_cons_succ, Nat.reduceAdd, Array.getD_eq_getD_getElem?, List.getElem?_toArray, List.getElem?_cons_succ, List.getElem?_cons_zero, Option.getD_some]
      have HN := Lib.hid (h2.setAll S.none.cells rfl)
      have XN := Lib.hid (X.out.trans_but (But.setCells g2 S.none.cells 0 wi) l2)
      generalize wi.setCells g2 0 S.none.cells = wn at *
      clear h2 H2 X
      go_wp2_with fail
      exact bodyPost_ret (results_row2 rfl _ _ g2 25 (S.none.cells).toArray (0, 0) _ rfl HN.out undS rfl (by rw [List.size_toArray, cells_length _ none_dig]; exact size38)) rfl ⟨by rw [HV.out]; rfl, XN.out⟩
    | false =>
      by_cases hr0 : r = ⟨#[]⟩
      · subst hr0
        have CG := Lib.hid (good_any p.1 HD wi)
        cases hg : good p.1 with
        | true =>
          have HV : Hid (parseV s.data.toList = .tuple #[.agg p.1.cells.toArray, .bool true]) := by
            show parseV _ = _
            unfold parseV parse
            rw [HR.out, if_pos ⟨by rw [HST.out]; simp, hg⟩]
          rw [hg] at CG
          clear HR HST HS hg
          go_upto_region 12 with (fail)
          refine wp_region_lit ?_
          repeat (first | refine wpList_ldr rfl _ _ rfl g5 rfl _ _ _ HY undS (by rw [cells_length p.1 HD]; exact size38) ?_ | go_step)
          refine (CG.out).mono ?_
          rintro e wj ⟨rfl, xg⟩
          have xj := But.of_ext (g := g4) xg
          have hj : True := trivial
          clear xg c0 c1 p0 p1 p2 p3 CG
          have HYn := Lib.hid (HY.out.but xj (by omega))
          have H6n := Lib.hid (H6.out.but xj (by omega))
          have H2n := Lib.hid (H2.out.but xj (by omega))
          have Xn := Lib.hid (X.out.trans_but xj l4)
          have HSn := Lib.hid hj
          clear hj xj HS HY H6 H2 X
          clear wi
          have HS := HSn
          have HY := HYn
          have H6 := H6n
          have H2 := H2n
          have X := Xn
          clear HSn HYn H6n H2n Xn
          generalize wj = wi at *
          clear HS
          rename_i hK
          refine hK _ _ ?_
          go_upto_region 14 with (fail)
          refine wp_region_lit ?_
          have hyo := HY.out
          have h2 := H2.out
          refine wpList_load_row rfl 25 _ rfl g5 rfl 25 (p.1.cells).toArray (0, 0) _ hyo undS rfl (by rw [List.size_toArray, cells_length p.1 HD]; exact size38) ?_
          simp only [Act.put, Act.eval, List.setIfInBounds_toArray, List.set_cons_zero, List.set_cons_succ, Nat.reduceAdd, Array.getD_eq_getD_getElem?, List.getElem?_toArray, List.getElem?_cons_succ, List.getElem?_cons_zero, Option.getD_some]
          refine wpList_store_mid rfl 25 _ _ rfl g2 0 ((p.1).cells).toArray rfl ?_ (h2.there _ (by have e1 := cells_length _ HD; have e2 := cells_length _ none_dig; rw [List.size_toArray]; omega)) (by rw [List.size_toArray, cells_length _ HD]; exact size38) (all_oneCell_toArray (oneS _)) ?_
          · rfl
          simp only [List.toList_toArray]
          simp only [Act.put, Act.eval, List.setIfInBounds_toArray, List.set_cons_zero, List.set_cons_succ, Nat.reduceAdd, Array.getD_eq_getD_getElem?, List.getElem?_toArray, List.getElem?_cons_succ, List.getElem?_cons_zero, Option.getD_some]
          have HN := Lib.hid (h2.setAll p.1.cells (by rw [cells_length p.1 HD, cells_length _ none_dig]))
          have XN := Lib.hid (X.out.trans_but (But.setCells g2 p.1.cells 0 wi) l2)
          generalize wi.setCells g2 0 p.1.cells = wn at *
          clear h2 hyo H2 X HY
          go_wp2_with fail
          exact bodyPost_ret (results_row2 rfl _ _ g2 25 (p.1.cells).toArray (0, 0) _ rfl HN.out undS rfl (by rw [List.size_toArray, cells_length _ HD]; exact size38)) rfl ⟨by rw [HV.out]; rfl, XN.out⟩
        | false =>
          have HV : Hid (parseV s.data.toList = .tuple #[.agg S.none.cells.toArray, .bool false]) := by
            show parseV _ = _
            unfold parseV parse
            rw [HR.out, if_neg (by rw [hg]; simp)]
          rw [hg] at CG
          clear HR HST HS hg
          go_upto_region 12 with (fail)
          refine wp_region_lit ?_
          repeat (first | refine wpList_ldr rfl _ _ rfl g5 rfl _ _ _ HY undS (by rw [cells_length p.1 HD]; exact size38) ?_ | go_step)
          refine (CG.out).mono ?_
          rintro e wj ⟨rfl, xg⟩
          have xj := But.of_ext (g := g4) xg
          have hj : True := trivial
          clear xg c0 c1 p0 p1 p2 p3 CG
          have HYn := Lib.hid (HY.out.but xj (by omega))
          have H6n := Lib.hid (H6.out.but xj (by omega))
          have H2n := Lib.hid (H2.out.but xj (by omega))
          have Xn := Lib.hid (X.out.trans_but xj l4)
          have HSn := Lib.hid hj
          clear hj xj HS HY H6 H2 X
          clear wi
          have HS := HSn
          have HY := HYn
          have H6 := H6n
          have H2 := H2n
          have X := Xn
          clear HSn HYn H6n H2n Xn
          generalize wj = wi at *
          clear HS
          rename_i hK
          refine hK _ _ ?_
          go_upto_region 13 with (fail)
          refine wp_region_lit ?_
          refine wpList_val rfl (.agg S.none.cells.toArray) (by as_aux_lemma => kernel_rfl) ?_
          simp only [Act.put, Act.eval, List.setIfInBounds_toArray, List.set_cons_zero, List.set_cons_succ, Nat.reduceAdd, Array.getD_eq_getD_getElem?, List.getElem?_toArray, List.getElem?_cons_succ, List.getElem?_cons_zero, Option.getD_some]
          have h2 := H2.out
          refine wpList_store_mid rfl 25 _ _ rfl g2 0 ((S.none).cells).toArray rfl ?_ (h2.there _ (by have e1 := cells_length _ none_dig; have e2 := cells_length _ none_dig; rw [List.size_toArray]; omega)) (by rw [List.size_toArray, cells_length _ none_dig]; exact size38) (all_oneCell_toArray (oneS _)) ?_
          · rfl
          simp only [List.toList_toArray]
          simp only [Act.put, Act.eval, List.setIfInBounds_toArray, List.set_cons_zero, List.set_cons_succ, Nat.reduceAdd, Array.getD_eq_getD_getElem?, List.getElem?_toArray, List.getElem?_cons_succ, List.getElem?_cons_zero, Option.getD_some]
          have HN := Lib.hid (h2.setAll S.none.cells rfl)
          have XN := Lib.hid (X.out.trans_but (But.setCells g2 S.none.cells 0 wi) l2)
          generalize wi.setCells g2 0 S.none.cells = wn at *
          clear h2 H2 X
          go_wp2_with fail
          exact bodyPost_ret (results_row2 rfl _ _ g2 25 (S.none.cells).toArray (0, 0) _ rfl HN.out undS rfl (by rw [List.size_toArray, cells_length _ none_dig]; exact size38)) rfl ⟨by rw [HV.out]; rfl, XN.out⟩
      · have HV : Hid (parseV s.data.toList = .tuple #[.agg S.none.cells.toArray, .bool false]) := by
          show parseV _ = _
          unfold parseV parse
          rw [HR.out, if_neg (by
            rw [HST.out]
            simp only [Bool.false_eq_true, if_false, Option.some.injEq]
            intro hh
            exact hr0 (ba_ext (by rw [hh.1])))]
        have dne : (r.toList == []) = false := by
          rw [ByteArray.toList_eq, Bool.eq_false_iff, ne_eq, beq_iff_eq]
          intro e
          exact hr0 (ba_ext e)
        clear HR HST HS hr0
        go_upto_region 13 with (fail)
        refine wp_region_lit ?_
        refine wpList_val rfl (.agg S.none.cells.toArray) (by as_aux_lemma => kernel_rfl) ?_
        simp only [Act.put, Act.eval, List.setIfInBounds_toArray, List.set_cons_zero, List.set_cons_succ, Nat.reduceAdd, Array.getD_eq_getD_getElem?, List.getElem?_toArray, List.getElem?_cons_succ, List.getElem?_cons_zero, Option.getD_some]
        have h2 := H2.out
        refine wpList_store_mid rfl 25 _ _ rfl g2 0 ((S.none).cells).toArray rfl ?_ (h2.there _ (by have e1 := cells_length _ none_dig; have e2 := cells_length _ none_dig; rw [List.size_toArray]; omega)) (by rw [List.size_toArray, cells_length _ none_dig]; exact size38) (all_oneCell_toArray (oneS _)) ?_
        · rfl
        simp only [List.toList_toArray]
        simp only [Act.put, Act.eval, List.setIfInBounds_toArray, List.set_cons_zero, List.set_cons_succ, Nat.reduceAdd, Array.getD_eq_getD_getElem?, List.getElem?_toArray, List.getElem?_cons_succ, List.getElem?_cons_zero, Option.getD_some]
        have HN := Lib.hid (h2.setAll S.none.cells rfl)
        have XN := Lib.hid (X.out.trans_but (But.setCells g2 S.none.cells 0 wi) l2)
        generalize wi.setCells g2 0 S.none.cells = wn at *
        clear h2 H2 X
        go_wp2_with fail
        exact bodyPost_ret (results_row2 rfl _ _ g2 25 (S.none.cells).toArray (0, 0) _ rfl HN.out undS rfl (by rw [List.size_toArray, cells_length _ none_dig]; exact size38)) rfl ⟨by rw [HV.out]; rfl, XN.out⟩
    -- A}
  ·
    -- {B
    have HR : Hid (parsed s.data.toList = pAt (pNames p)) := HR
    rw [show (F.cells ⟨true, false, false, true⟩) = [.bool true, .bool false, .bool false, .bool true] from rfl]
    go_upto_region 4 with (fail)
    have hb6 : Blk (w6.alloc (Obj.cells #[Value.bool true, Value.bool false, Value.bool false, Value.bool true] 47)) w6.heap.size 47 [.bool true, .bool false, .bool false, .bool true] := Blk.new w6 47 #[Value.bool true, Value.bool false, Value.bool false, Value.bool true]
    have hx6 := Reg.Ext.alloc w6 (Obj.cells #[Value.bool true, Value.bool false, Value.bool false, Value.bool true] 47)
    have lt5 := HY.out.lt
    have ltx := X.out.size
    have HYn := Lib.hid (HY.out.ext hx6)
    have H2n := Lib.hid (H2.out.ext hx6)
    have HSn := Lib.hid (HS.out.ext hx6)
    have Xn := Lib.hid (X.out.trans hx6)
    clear HY H2 HS X hx6
    have HY := HYn
    have H2 := H2n
    have HS := HSn
    have X := Xn
    clear HYn H2n HSn Xn
    generalize w6.alloc (Obj.cells #[Value.bool true, Value.bool false, Value.bool false, Value.bool true] 47) = wi at *
    generalize hg6 : w6.heap.size = g6 at *
    have H6 := Lib.hid hb6
    clear hb6
    have l6 : g5 < g6 := lt5
    clear lt5 ltx hg6
    have p0 : wi.cell? ⟨g6, 0, none⟩ = some (.bool true) := H6.out.cell 0
    have p1 : wi.cell? ⟨g6, 1, none⟩ = some (.bool false) := H6.out.cell 1
    have p2 : wi.cell? ⟨g6, 2, none⟩ = some (.bool false) := H6.out.cell 2
    have p3 : wi.cell? ⟨g6, 3, none⟩ = some (.bool true) := H6.out.cell 3
    go_wp2_with fail
    refine (text_any g4 _ wi HS.out).mono ?_
    rintro e wj ⟨rfl, hj, xj⟩
    clear p0 p1 p2 p3
    have HYn := Lib.hid (HY.out.but xj (by omega))
    have H6n := Lib.hid (H6.out.but xj (by omega))
    have H2n := Lib.hid (H2.out.but xj (by omega))
    have Xn := Lib.hid (X.out.trans_but xj l4)
    have HSn := Lib.hid hj
    clear hj xj HS HY H6 H2 X
    clear wi
    have HS := HSn
    have HY := HYn
    have H6 := H6n
    have H2 := H2n
    have X := Xn
    clear HSn HYn H6n H2n Xn
    generalize wj = wi at *
    go_wp2_with fail
    refine (text_any g4 _ wi HS.out).mono ?_
    rintro e wj ⟨rfl, hj, xj⟩
    skip
    have HYn := Lib.hid (HY.out.but xj (by omega))
    have H6n := Lib.hid (H6.out.but xj (by omega))
    have H2n := Lib.hid (H2.out.but xj (by omega))
    have Xn := Lib.hid (X.out.trans_but xj l4)
    have HSn := Lib.hid hj
    clear hj xj HS HY H6 H2 X
    clear wi
    have HS := HSn
    have HY := HYn
    have H6 := H6n
    have H2 := H2n
    have X := Xn
    clear HSn HYn H6n H2n Xn
    generalize wj = wi at *
    have r1 : wi.cell? ⟨g5, 1, none⟩ = some (.string p.1.repo) := HY.out.cell 1
    have r2 : wi.cell? ⟨g5, 2, none⟩ = some (.string p.1.tag) := HY.out.cell 2
    have f1 := HY.out.frozen 1
    have f2 := HY.out.frozen 2
    have hs := (HY.out.set_ 1 (.string ⟨(textS p.2).1.toArray⟩)).set_ 2 (.string ⟨(textS (textS p.2).2).1.toArray⟩)
    rw [set1, set2] at hs
    have hbx := (But.set_ g5 wi 1 (.string ⟨(textS p.2).1.toArray⟩)).trans (But.set_ g5 _ 2 (.string ⟨(textS (textS p.2).2).1.toArray⟩))
    have HSn : Hid (At g4 (pNames p).2 wi) := HS.out
    have HYn : Hid (Blk ((wi.setCell ⟨g5, 1, none⟩ (.string ⟨(textS p.2).1.toArray⟩)).setCell ⟨g5, 2, none⟩ (.string ⟨(textS (textS p.2).2).1.toArray⟩)) g5 25 (pNames p).1.cells) := hs
    have HDn : (pNames p).1.dig.length = 32 := HD
    have HSn := Lib.hid (At.but HSn.out hbx (by omega))
    have H6n := Lib.hid (H6.out.but hbx (by omega))
    have H2n := Lib.hid (H2.out.but hbx (by omega))
    have Xn := Lib.hid (X.out.trans_but hbx l5)
    go_upto_region 6 with (fail)
    clear r1 r2 f1 f2
    clear hs hbx HS HY HD H6 H2 X
    generalize ((wi.setCell ⟨g5, 1, none⟩ (.string ⟨(textS p.2).1.toArray⟩)).setCell ⟨g5, 2, none⟩ (.string ⟨(textS (textS p.2).2).1.toArray⟩)) = wi at *
    generalize pNames p = p at *
    have HS := HSn
    have HY := HYn
    have HD := HDn
    have H6 := H6n
    have H2 := H2n
    have X := Xn
    clear HSn HYn HDn H6n H2n Xn
    have p0 : wi.cell? ⟨g6, 0, none⟩ = some (.bool true) := H6.out.cell 0
    have p1 : wi.cell? ⟨g6, 1, none⟩ = some (.bool false) := H6.out.cell 1
    have p2 : wi.cell? ⟨g6, 2, none⟩ = some (.bool false) := H6.out.cell 2
    have p3 : wi.cell? ⟨g6, 3, none⟩ = some (.bool true) := H6.out.cell 3
    go_wp2_with fail
    refine (number_any g4 _ wi HS.out).mono ?_
    rintro e wj ⟨rfl, hj, xj⟩
    clear p0 p1 p2 p3
    have HYn := Lib.hid (HY.out.but xj (by omega))
    have H6n := Lib.hid (H6.out.but xj (by omega))
    have H2n := Lib.hid (H2.out.but xj (by omega))
    have Xn := Lib.hid (X.out.trans_but xj l4)
    have HSn := Lib.hid hj
    clear hj xj HS HY H6 H2 X
    clear wi
    have HS := HSn
    have HY := HYn
    have H6 := H6n
    have H2 := H2n
    have X := Xn
    clear HSn HYn H6n H2n Xn
    generalize wj = wi at *
    have r1 : wi.cell? ⟨g5, 37, none⟩ = some (.int .i64 p.1.at_) := by rw [HY.out.cell, at37 p.1 HD]
    have f1 := HY.out.frozen 37
    have hs := HY.out.set_ 37 (.int .i64 ((numS p.2).1 : Int))
    rw [set37 p.1 HD] at hs
    have hbx := But.set_ g5 wi 37 (.int .i64 ((numS p.2).1 : Int))
    have HSn : Hid (At g4 (pAt p).2 wi) := HS.out
    have HYn : Hid (Blk (wi.setCell ⟨g5, 37, none⟩ (.int .i64 ((numS p.2).1 : Int))) g5 25 (pAt p).1.cells) := hs
    have HDn : (pAt p).1.dig.length = 32 := HD
    have HSn := Lib.hid (At.but HSn.out hbx (by omega))
    have H6n := Lib.hid (H6.out.but hbx (by omega))
    have H2n := Lib.hid (H2.out.but hbx (by omega))
    have Xn := Lib.hid (X.out.trans_but hbx l5)
    go_upto_region 12 with (fail)
    clear r1 f1
    clear hs hbx HS HY HD H6 H2 X
    generalize (wi.setCell ⟨g5, 37, none⟩ (.int .i64 ((numS p.2).1 : Int))) = wi at *
    generalize pAt p = p at *
    have HS := HSn
    have HY := HYn
    have HD := HDn
    have H6 := H6n
    have H2 := H2n
    have X := Xn
    clear HSn HYn HDn H6n H2n Xn
    have p0 : wi.cell? ⟨g6, 0, none⟩ = some (.bool true) := H6.out.cell 0
    have p1 : wi.cell? ⟨g6, 1, none⟩ = some (.bool false) := H6.out.cell 1
    have p2 : wi.cell? ⟨g6, 2, none⟩ = some (.bool false) := H6.out.cell 2
    have p3 : wi.cell? ⟨g6, 3, none⟩ = some (.bool true) := H6.out.cell 3
    obtain ⟨r, bad, hb, hr, hst⟩ := HS.out
    have c0 : wi.cell? ⟨g4, 0, none⟩ = some (.string r) := hb.cell 0
    have c1 : wi.cell? ⟨g4, 1, none⟩ = some (.bool bad) := hb.cell 1
    have HST := Lib.hid hst
    clear hb hr hst
    cases bad with
    | true =>
      have HV : Hid (parseV s.data.toList = .tuple #[.agg S.none.cells.toArray, .bool false]) := by
        show parseV _ = _
        unfold parseV parse
        rw [HR.out, if_neg (by rw [HST.out]; simp)]
      clear HR HST HS
      go_upto_region 13 with (fail)
      refine wp_region_lit ?_
      refine wpList_val rfl (.agg S.none.cells.toArray) (by as_aux_lemma => kernel_rfl) ?_
      simp only [Act.put, Act.eval, List.setIfInBounds_toArray, List.set_cons_zero, List.set_cons_succ, Nat.reduceAdd, Array.getD_eq_getD_getElem?, List.getElem?_toArray, List.getElem?_cons_succ, List.getElem?_cons_zero, Option.getD_some]
      have h2 := H2.out
      refine wpList_store_mid rfl 25 _ _ rfl g2 0 ((S.none).cells).toArray rfl ?_ (h2.there _ (by have e1 := cells_length _ none_dig; have e2 := cells_length _ none_dig; rw [List.size_toArray]; omega)) (by rw [List.size_toArray, cells_length _ none_dig]; exact size38) (all_oneCell_toArray (oneS _)) ?_
      · rfl
      simp only [List.toList_toArray]
      simp only [Act.put, Act.eval, List.setIfInBounds_toArray, List.set_cons_zero, List.set_cons_succ, Nat.reduceAdd, Array.getD_eq_getD_getElem?, List.getElem?_toArray, List.getElem?_cons_succ, List.getElem?_cons_zero, Option.getD_some]
      have HN := Lib.hid (h2.setAll S.none.cells rfl)
      have XN := Lib.hid (X.out.trans_but (But.setCells g2 S.none.cells 0 wi) l2)
      generalize wi.setCells g2 0 S.none.cells = wn at *
      clear h2 H2 X
      go_wp2_with fail
      exact bodyPost_ret (results_row2 rfl _ _ g2 25 (S.none.cells).toArray (0, 0) _ rfl HN.out undS rfl (by rw [List.size_toArray, cells_length _ none_dig]; exact size38)) rfl ⟨by rw [HV.out]; rfl, XN.out⟩
    | false =>
      by_cases hr0 : r = ⟨#[]⟩
      · subst hr0
        have CG := Lib.hid (good_any p.1 HD wi)
        cases hg : good p.1 with
        | true =>
          have HV : Hid (parseV s.data.toList = .tuple #[.agg p.1.cells.toArray, .bool true]) := by
            show parseV _ = _
            unfold parseV parse
            rw [HR.out, if_pos ⟨by rw [HST.out]; simp, hg⟩]
          rw [hg] at CG
          clear HR HST HS hg
          go_upto_region 12 with (fail)
          refine wp_region_lit ?_
          repeat (first | refine wpList_ldr rfl _ _ rfl g5 rfl _ _ _ HY undS (by rw [cells_length p.1 HD]; exact size38) ?_ | go_step)
          refine (CG.out).mono ?_
          rintro e wj ⟨rfl, xg⟩
          have xj := But.of_ext (g := g4) xg
          have hj : True := trivial
          clear xg c0 c1 p0 p1 p2 p3 CG
          have HYn := Lib.hid (HY.out.but xj (by omega))
          have H6n := Lib.hid (H6.out.but xj (by omega))
          have H2n := Lib.hid (H2.out.but xj (by omega))
          have Xn := Lib.hid (X.out.trans_but xj l4)
          have HSn := Lib.hid hj
          clear hj xj HS HY H6 H2 X
          clear wi
          have HS := HSn
          have HY := HYn
          have H6 := H6n
          have H2 := H2n
          have X := Xn
          clear HSn HYn H6n H2n Xn
          generalize wj = wi at *
          clear HS
          rename_i hK
          refine hK _ _ ?_
          go_upto_region 14 with (fail)
          refine wp_region_lit ?_
          have hyo := HY.out
          have h2 := H2.out
          refine wpList_load_row rfl 25 _ rfl g5 rfl 25 (p.1.cells).toArray (0, 0) _ hyo undS rfl (by rw [List.size_toArray, cells_length p.1 HD]; exact size38) ?_
          simp only [Act.put, Act.eval, List.setIfInBounds_toArray, List.set_cons_zero, List.set_cons_succ, Nat.reduceAdd, Array.getD_eq_getD_getElem?, List.getElem?_toArray, List.getElem?_cons_succ, List.getElem?_cons_zero, Option.getD_some]
          refine wpList_store_mid rfl 25 _ _ rfl g2 0 ((p.1).cells).toArray rfl ?_ (h2.there _ (by have e1 := cells_length _ HD; have e2 := cells_length _ none_dig; rw [List.size_toArray]; omega)) (by rw [List.size_toArray, cells_length _ HD]; exact size38) (all_oneCell_toArray (oneS _)) ?_
          · rfl
          simp only [List.toList_toArray]
          simp only [Act.put, Act.eval, List.setIfInBounds_toArray, List.set_cons_zero, List.set_cons_succ, Nat.reduceAdd, Array.getD_eq_getD_getElem?, List.getElem?_toArray, List.getElem?_cons_succ, List.getElem?_cons_zero, Option.getD_some]
          have HN := Lib.hid (h2.setAll p.1.cells (by rw [cells_length p.1 HD, cells_length _ none_dig]))
          have XN := Lib.hid (X.out.trans_but (But.setCells g2 p.1.cells 0 wi) l2)
          generalize wi.setCells g2 0 p.1.cells = wn at *
          clear h2 hyo H2 X HY
          go_wp2_with fail
          exact bodyPost_ret (results_row2 rfl _ _ g2 25 (p.1.cells).toArray (0, 0) _ rfl HN.out undS rfl (by rw [List.size_toArray, cells_length _ HD]; exact size38)) rfl ⟨by rw [HV.out]; rfl, XN.out⟩
        | false =>
          have HV : Hid (parseV s.data.toList = .tuple #[.agg S.none.cells.toArray, .bool false]) := by
            show parseV _ = _
            unfold parseV parse
            rw [HR.out, if_neg (by rw [hg]; simp)]
          rw [hg] at CG
          clear HR HST HS hg
          go_upto_region 12 with (fail)
          refine wp_region_lit ?_
          repeat (first | refine wpList_ldr rfl _ _ rfl g5 rfl _ _ _ HY undS (by rw [cells_length p.1 HD]; exact size38) ?_ | go_step)
          refine (CG.out).mono ?_
          rintro e wj ⟨rfl, xg⟩
          have xj := But.of_ext (g := g4) xg
          have hj : True := trivial
          clear xg c0 c1 p0 p1 p2 p3 CG
          have HYn := Lib.hid (HY.out.but xj (by omega))
          have H6n := Lib.hid (H6.out.but xj (by omega))
          have H2n := Lib.hid (H2.out.but xj (by omega))
          have Xn := Lib.hid (X.out.trans_but xj l4)
          have HSn := Lib.hid hj
          clear hj xj HS HY H6 H2 X
          clear wi
          have HS := HSn
          have HY := HYn
          have H6 := H6n
          have H2 := H2n
          have X := Xn
          clear HSn HYn H6n H2n Xn
          generalize wj = wi at *
          clear HS
          rename_i hK
          refine hK _ _ ?_
          go_upto_region 13 with (fail)
          refine wp_region_lit ?_
          refine wpList_val rfl (.agg S.none.cells.toArray) (by as_aux_lemma => kernel_rfl) ?_
          simp only [Act.put, Act.eval, List.setIfInBounds_toArray, List.set_cons_zero, List.set_cons_succ, Nat.reduceAdd, Array.getD_eq_getD_getElem?, List.getElem?_toArray, List.getElem?_cons_succ, List.getElem?_cons_zero, Option.getD_some]
          have h2 := H2.out
          refine wpList_store_mid rfl 25 _ _ rfl g2 0 ((S.none).cells).toArray rfl ?_ (h2.there _ (by have e1 := cells_length _ none_dig; have e2 := cells_length _ none_dig; rw [List.size_toArray]; omega)) (by rw [List.size_toArray, cells_length _ none_dig]; exact size38) (all_oneCell_toArray (oneS _)) ?_
          · rfl
          simp only [List.toList_toArray]
          simp only [Act.put, Act.eval, List.setIfInBounds_toArray, List.set_cons_zero, List.set_cons_succ, Nat.reduceAdd, Array.getD_eq_getD_getElem?, List.getElem?_toArray, List.getElem?_cons_succ, List.getElem?_cons_zero, Option.getD_some]
          have HN := Lib.hid (h2.setAll S.none.cells rfl)
          have XN := Lib.hid (X.out.trans_but (But.setCells g2 S.none.cells 0 wi) l2)
          generalize wi.setCells g2 0 S.none.cells = wn at *
          clear h2 H2 X
          go_wp2_with fail
          exact bodyPost_ret (results_row2 rfl _ _ g2 25 (S.none.cells).toArray (0, 0) _ rfl HN.out undS rfl (by rw [List.size_toArray, cells_length _ none_dig]; exact size38)) rfl ⟨by rw [HV.out]; rfl, XN.out⟩
      · have HV : Hid (parseV s.data.toList = .tuple #[.agg S.none.cells.toArray, .bool false]) := by
          show parseV _ = _
          unfold parseV parse
          rw [HR.out, if_neg (by
            rw [HST.out]
            simp only [Bool.false_eq_true, if_false, Option.some.injEq]
            intro hh
            exact hr0 (ba_ext (by rw [hh.1])))]
        have dne : (r.toList == []) = false := by
          rw [ByteArray.toList_eq, Bool.eq_false_iff, ne_eq, beq_iff_eq]
          intro e
          exact hr0 (ba_ext e)
        clear HR HST HS hr0
        go_upto_region 13 with (fail)
        refine wp_region_lit ?_
        refine wpList_val rfl (.agg S.none.cells.toArray) (by as_aux_lemma => kernel_rfl) ?_
        simp only [Act.put, Act.eval, List.setIfInBounds_toArray, List.set_cons_zero, List.set_cons_succ, Nat.reduceAdd, Array.getD_eq_getD_getElem?, List.getElem?_toArray, List.getElem?_cons_succ, List.getElem?_cons_zero, Option.getD_some]
        have h2 := H2.out
        refine wpList_store_mid rfl 25 _ _ rfl g2 0 ((S.none).cells).toArray rfl ?_ (h2.there _ (by have e1 := cells_length _ none_dig; have e2 := cells_length _ none_dig; rw [List.size_toArray]; omega)) (by rw [List.size_toArray, cells_length _ none_dig]; exact size38) (all_oneCell_toArray (oneS _)) ?_
        · rfl
        simp only [List.toList_toArray]
        simp only [Act.put, Act.eval, List.setIfInBounds_toArray, List.set_cons_zero, List.set_cons_succ, Nat.reduceAdd, Array.getD_eq_getD_getElem?, List.getElem?_toArray, List.getElem?_cons_succ, List.getElem?_cons_zero, Option.getD_some]
        have HN := Lib.hid (h2.setAll S.none.cells rfl)
        have XN := Lib.hid (X.out.trans_but (But.setCells g2 S.none.cells 0 wi) l2)
        generalize wi.setCells g2 0 S.none.cells = wn at *
        clear h2 H2 X
        go_wp2_with fail
        exact bodyPost_ret (results_row2 rfl _ _ g2 25 (S.none.cells).toArray (0, 0) _ rfl HN.out undS rfl (by rw [List.size_toArray, cells_length _ none_dig]; exact size38)) rfl ⟨by rw [HV.out]; rfl, XN.out⟩
    -- B}
  ·
    -- {C
    have HR : Hid (parsed s.data.toList = pNames p) := HR
    rw [show (F.cells ⟨true, false, false, false⟩) = [.bool true, .bool false, .bool false, .bool false] from rfl]
    go_upto_region 4 with (fail)
    have hb6 : Blk (w6.alloc (Obj.cells #[Value.bool true, Value.bool false, Value.bool false, Value.bool false] 47)) w6.heap.size 47 [.bool true, .bool false, .bool false, .bool false] := Blk.new w6 47 #[Value.bool true, Value.bool false, Value.bool false, Value.bool false]
    have hx6 := Reg.Ext.alloc w6 (Obj.cells #[Value.bool true, Value.bool false, Value.bool false, Value.bool false] 47)
    have lt5 := HY.out.lt
    have ltx := X.out.size
    have HYn := Lib.hid (HY.out.ext hx6)
    have H2n := Lib.hid (H2.out.ext hx6)
    have HSn := Lib.hid (HS.out.ext hx6)
    have Xn := Lib.hid (X.out.trans hx6)
    clear HY H2 HS X hx6
    have HY := HYn
    have H2 := H2n
    have HS := HSn
    have X := Xn
    clear HYn H2n HSn Xn
    generalize w6.alloc (Obj.cells #[Value.bool true, Value.bool false, Value.bool false, Value.bool false] 47) = wi at *
    generalize hg6 : w6.heap.size = g6 at *
    have H6 := Lib.hid hb6
    clear hb6
    have l6 : g5 < g6 := lt5
    clear lt5 ltx hg6
    have p0 : wi.cell? ⟨g6, 0, none⟩ = some (.bool true) := H6.out.cell 0
    have p1 : wi.cell? ⟨g6, 1, none⟩ = some (.bool false) := H6.out.cell 1
    have p2 : wi.cell? ⟨g6, 2, none⟩ = some (.bool false) := H6.out.cell 2
    have p3 : wi.cell? ⟨g6, 3, none⟩ = some (.bool false) := H6.out.cell 3
    go_wp2_with fail
    refine (text_any g4 _ wi HS.out).mono ?_
    rintro e wj ⟨rfl, hj, xj⟩
    clear p0 p1 p2 p3
    have HYn := Lib.hid (HY.out.but xj (by omega))
    have H6n := Lib.hid (H6.out.but xj (by omega))
    have H2n := Lib.hid (H2.out.but xj (by omega))
    have Xn := Lib.hid (X.out.trans_but xj l4)
    have HSn := Lib.hid hj
    clear hj xj HS HY H6 H2 X
    clear wi
    have HS := HSn
    have HY := HYn
    have H6 := H6n
    have H2 := H2n
    have X := Xn
    clear HSn HYn H6n H2n Xn
    generalize wj = wi at *
    go_wp2_with fail
    refine (text_any g4 _ wi HS.out).mono ?_
    rintro e wj ⟨rfl, hj, xj⟩
    skip
    have HYn := Lib.hid (HY.out.but xj (by omega))
    have H6n := Lib.hid (H6.out.but xj (by omega))
    have H2n := Lib.hid (H2.out.but xj (by omega))
    have Xn := Lib.hid (X.out.trans_but xj l4)
    have HSn := Lib.hid hj
    clear hj xj HS HY H6 H2 X
    clear wi
    have HS := HSn
    have HY := HYn
    have H6 := H6n
    have H2 := H2n
    have X := Xn
    clear HSn HYn H6n H2n Xn
    generalize wj = wi at *
    have r1 : wi.cell? ⟨g5, 1, none⟩ = some (.string p.1.repo) := HY.out.cell 1
    have r2 : wi.cell? ⟨g5, 2, none⟩ = some (.string p.1.tag) := HY.out.cell 2
    have f1 := HY.out.frozen 1
    have f2 := HY.out.frozen 2
    have hs := (HY.out.set_ 1 (.string ⟨(textS p.2).1.toArray⟩)).set_ 2 (.string ⟨(textS (textS p.2).2).1.toArray⟩)
    rw [set1, set2] at hs
    have hbx := (But.set_ g5 wi 1 (.string ⟨(textS p.2).1.toArray⟩)).trans (But.set_ g5 _ 2 (.string ⟨(textS (textS p.2).2).1.toArray⟩))
    have HSn : Hid (At g4 (pNames p).2 wi) := HS.out
    have HYn : Hid (Blk ((wi.setCell ⟨g5, 1, none⟩ (.string ⟨(textS p.2).1.toArray⟩)).setCell ⟨g5, 2, none⟩ (.string ⟨(textS (textS p.2).2).1.toArray⟩)) g5 25 (pNames p).1.cells) := hs
    have HDn : (pNames p).1.dig.length = 32 := HD
    have HSn := Lib.hid (At.but HSn.out hbx (by omega))
    have H6n := Lib.hid (H6.out.but hbx (by omega))
    have H2n := Lib.hid (H2.out.but hbx (by omega))
    have Xn := Lib.hid (X.out.trans_but hbx l5)
    go_upto_region 6 with (fail)
    clear r1 r2 f1 f2
    clear hs hbx HS HY HD H6 H2 X
    generalize ((wi.setCell ⟨g5, 1, none⟩ (.string ⟨(textS p.2).1.toArray⟩)).setCell ⟨g5, 2, none⟩ (.string ⟨(textS (textS p.2).2).1.toArray⟩)) = wi at *
    generalize pNames p = p at *
    have HS := HSn
    have HY := HYn
    have HD := HDn
    have H6 := H6n
    have H2 := H2n
    have X := Xn
    clear HSn HYn HDn H6n H2n Xn
    have p0 : wi.cell? ⟨g6, 0, none⟩ = some (.bool true) := H6.out.cell 0
    have p1 : wi.cell? ⟨g6, 1, none⟩ = some (.bool false) := H6.out.cell 1
    have p2 : wi.cell? ⟨g6, 2, none⟩ = some (.bool false) := H6.out.cell 2
    have p3 : wi.cell? ⟨g6, 3, none⟩ = some (.bool false) := H6.out.cell 3
    obtain ⟨r, bad, hb, hr, hst⟩ := HS.out
    have c0 : wi.cell? ⟨g4, 0, none⟩ = some (.string r) := hb.cell 0
    have c1 : wi.cell? ⟨g4, 1, none⟩ = some (.bool bad) := hb.cell 1
    have HST := Lib.hid hst
    clear hb hr hst
    cases bad with
    | true =>
      have HV : Hid (parseV s.data.toList = .tuple #[.agg S.none.cells.toArray, .bool false]) := by
        show parseV _ = _
        unfold parseV parse
        rw [HR.out, if_neg (by rw [HST.out]; simp)]
      clear HR HST HS
      go_upto_region 13 with (fail)
      refine wp_region_lit ?_
      refine wpList_val rfl (.agg S.none.cells.toArray) (by as_aux_lemma => kernel_rfl) ?_
      simp only [Act.put, Act.eval, List.setIfInBounds_toArray, List.set_cons_zero, List.set_cons_succ, Nat.reduceAdd, Array.getD_eq_getD_getElem?, List.getElem?_toArray, List.getElem?_cons_succ, List.getElem?_cons_zero, Option.getD_some]
      have h2 := H2.out
      refine wpList_store_mid rfl 25 _ _ rfl g2 0 ((S.none).cells).toArray rfl ?_ (h2.there _ (by have e1 := cells_length _ none_dig; have e2 := cells_length _ none_dig; rw [List.size_toArray]; omega)) (by rw [List.size_toArray, cells_length _ none_dig]; exact size38) (all_oneCell_toArray (oneS _)) ?_
      · rfl
      simp only [List.toList_toArray]
      simp only [Act.put, Act.eval, List.setIfInBounds_toArray, List.set_cons_zero, List.set_cons_succ, Nat.reduceAdd, Array.getD_eq_getD_getElem?, List.getElem?_toArray, List.getElem?_cons_succ, List.getElem?_cons_zero, Option.getD_some]
      have HN := Lib.hid (h2.setAll S.none.cells rfl)
      have XN := Lib.hid (X.out.trans_but (But.setCells g2 S.none.cells 0 wi) l2)
      generalize wi.setCells g2 0 S.none.cells = wn at *
      clear h2 H2 X
      go_wp2_with fail
      exact bodyPost_ret (results_row2 rfl _ _ g2 25 (S.none.cells).toArray (0, 0) _ rfl HN.out undS rfl (by rw [List.size_toArray, cells_length _ none_dig]; exact size38)) rfl ⟨by rw [HV.out]; rfl, XN.out⟩
    | false =>
      by_cases hr0 : r = ⟨#[]⟩
      · subst hr0
        have CG := Lib.hid (good_any p.1 HD wi)
        cases hg : good p.1 with
        | true =>
          have HV : Hid (parseV s.data.toList = .tuple #[.agg p.1.cells.toArray, .bool true]) := by
            show parseV _ = _
            unfold parseV parse
            rw [HR.out, if_pos ⟨by rw [HST.out]; simp, hg⟩]
          rw [hg] at CG
          clear HR HST HS hg
          go_upto_region 12 with (fail)
          refine wp_region_lit ?_
          repeat (first | refine wpList_ldr rfl _ _ rfl g5 rfl _ _ _ HY undS (by rw [cells_length p.1 HD]; exact size38) ?_ | go_step)
          refine (CG.out).mono ?_
          rintro e wj ⟨rfl, xg⟩
          have xj := But.of_ext (g := g4) xg
          have hj : True := trivial
          clear xg c0 c1 p0 p1 p2 p3 CG
          have HYn := Lib.hid (HY.out.but xj (by omega))
          have H6n := Lib.hid (H6.out.but xj (by omega))
          have H2n := Lib.hid (H2.out.but xj (by omega))
          have Xn := Lib.hid (X.out.trans_but xj l4)
          have HSn := Lib.hid hj
          clear hj xj HS HY H6 H2 X
          clear wi
          have HS := HSn
          have HY := HYn
          have H6 := H6n
          have H2 := H2n
          have X := Xn
          clear HSn HYn H6n H2n Xn
          generalize wj = wi at *
          clear HS
          rename_i hK
          refine hK _ _ ?_
          go_upto_region 14 with (fail)
          refine wp_region_lit ?_
          have hyo := HY.out
          have h2 := H2.out
          refine wpList_load_row rfl 25 _ rfl g5 rfl 25 (p.1.cells).toArray (0, 0) _ hyo undS rfl (by rw [List.size_toArray, cells_length p.1 HD]; exact size38) ?_
          simp only [Act.put, Act.eval, List.setIfInBounds_toArray, List.set_cons_zero, List.set_cons_succ, Nat.reduceAdd, Array.getD_eq_getD_getElem?, List.getElem?_toArray, List.getElem?_cons_succ, List.getElem?_cons_zero, Option.getD_some]
          refine wpList_store_mid rfl 25 _ _ rfl g2 0 ((p.1).cells).toArray rfl ?_ (h2.there _ (by have e1 := cells_length _ HD; have e2 := cells_length _ none_dig; rw [List.size_toArray]; omega)) (by rw [List.size_toArray, cells_length _ HD]; exact size38) (all_oneCell_toArray (oneS _)) ?_
          · rfl
          simp only [List.toList_toArray]
          simp only [Act.put, Act.eval, List.setIfInBounds_toArray, List.set_cons_zero, List.set_cons_succ, Nat.reduceAdd, Array.getD_eq_getD_getElem?, List.getElem?_toArray, List.getElem?_cons_succ, List.getElem?_cons_zero, Option.getD_some]
          have HN := Lib.hid (h2.setAll p.1.cells (by rw [cells_length p.1 HD, cells_length _ none_dig]))
          have XN := Lib.hid (X.out.trans_but (But.setCells g2 p.1.cells 0 wi) l2)
          generalize wi.setCells g2 0 p.1.cells = wn at *
          clear h2 hyo H2 X HY
          go_wp2_with fail
          exact bodyPost_ret (results_row2 rfl _ _ g2 25 (p.1.cells).toArray (0, 0) _ rfl HN.out undS rfl (by rw [List.size_toArray, cells_length _ HD]; exact size38)) rfl ⟨by rw [HV.out]; rfl, XN.out⟩
        | false =>
          have HV : Hid (parseV s.data.toList = .tuple #[.agg S.none.cells.toArray, .bool false]) := by
            show parseV _ = _
            unfold parseV parse
            rw [HR.out, if_neg (by rw [hg]; simp)]
          rw [hg] at CG
          clear HR HST HS hg
          go_upto_region 12 with (fail)
          refine wp_region_lit ?_
          repeat (first | refine wpList_ldr rfl _ _ rfl g5 rfl _ _ _ HY undS (by rw [cells_length p.1 HD]; exact size38) ?_ | go_step)
          refine (CG.out).mono ?_
          rintro e wj ⟨rfl, xg⟩
          have xj := But.of_ext (g := g4) xg
          have hj : True := trivial
          clear xg c0 c1 p0 p1 p2 p3 CG
          have HYn := Lib.hid (HY.out.but xj (by omega))
          have H6n := Lib.hid (H6.out.but xj (by omega))
          have H2n := Lib.hid (H2.out.but xj (by omega))
          have Xn := Lib.hid (X.out.trans_but xj l4)
          have HSn := Lib.hid hj
          clear hj xj HS HY H6 H2 X
          clear wi
          have HS := HSn
          have HY := HYn
          have H6 := H6n
          have H2 := H2n
          have X := Xn
          clear HSn HYn H6n H2n Xn
          generalize wj = wi at *
          clear HS
          rename_i hK
          refine hK _ _ ?_
          go_upto_region 13 with (fail)
          refine wp_region_lit ?_
          refine wpList_val rfl (.agg S.none.cells.toArray) (by as_aux_lemma => kernel_rfl) ?_
          simp only [Act.put, Act.eval, List.setIfInBounds_toArray, List.set_cons_zero, List.set_cons_succ, Nat.reduceAdd, Array.getD_eq_getD_getElem?, List.getElem?_toArray, List.getElem?_cons_succ, List.getElem?_cons_zero, Option.getD_some]
          have h2 := H2.out
          refine wpList_store_mid rfl 25 _ _ rfl g2 0 ((S.none).cells).toArray rfl ?_ (h2.there _ (by have e1 := cells_length _ none_dig; have e2 := cells_length _ none_dig; rw [List.size_toArray]; omega)) (by rw [List.size_toArray, cells_length _ none_dig]; exact size38) (all_oneCell_toArray (oneS _)) ?_
          · rfl
          simp only [List.toList_toArray]
          simp only [Act.put, Act.eval, List.setIfInBounds_toArray, List.set_cons_zero, List.set_cons_succ, Nat.reduceAdd, Array.getD_eq_getD_getElem?, List.getElem?_toArray, List.getElem?_cons_succ, List.getElem?_cons_zero, Option.getD_some]
          have HN := Lib.hid (h2.setAll S.none.cells rfl)
          have XN := Lib.hid (X.out.trans_but (But.setCells g2 S.none.cells 0 wi) l2)
          generalize wi.setCells g2 0 S.none.cells = wn at *
          clear h2 H2 X
          go_wp2_with fail
          exact bodyPost_ret (results_row2 rfl _ _ g2 25 (S.none.cells).toArray (0, 0) _ rfl HN.out undS rfl (by rw [List.size_toArray, cells_length _ none_dig]; exact size38)) rfl ⟨by rw [HV.out]; rfl, XN.out⟩
      · have HV : Hid (parseV s.data.toList = .tuple #[.agg S.none.cells.toArray, .bool false]) := by
          show parseV _ = _
          unfold parseV parse
          rw [HR.out, if_neg (by
            rw [HST.out]
            simp only [Bool.false_eq_true, if_false, Option.some.injEq]
            intro hh
            exact hr0 (ba_ext (by rw [hh.1])))]
        have dne : (r.toList == []) = false := by
          rw [ByteArray.toList_eq, Bool.eq_false_iff, ne_eq, beq_iff_eq]
          intro e
          exact hr0 (ba_ext e)
        clear HR HST HS hr0
        go_upto_region 13 with (fail)
        refine wp_region_lit ?_
        refine wpList_val rfl (.agg S.none.cells.toArray) (by as_aux_lemma => kernel_rfl) ?_
        simp only [Act.put, Act.eval, List.setIfInBounds_toArray, List.set_cons_zero, List.set_cons_succ, Nat.reduceAdd, Array.getD_eq_getD_getElem?, List.getElem?_toArray, List.getElem?_cons_succ, List.getElem?_cons_zero, Option.getD_some]
        have h2 := H2.out
        refine wpList_store_mid rfl 25 _ _ rfl g2 0 ((S.none).cells).toArray rfl ?_ (h2.there _ (by have e1 := cells_length _ none_dig; have e2 := cells_length _ none_dig; rw [List.size_toArray]; omega)) (by rw [List.size_toArray, cells_length _ none_dig]; exact size38) (all_oneCell_toArray (oneS _)) ?_
        · rfl
        simp only [List.toList_toArray]
        simp only [Act.put, Act.eval, List.setIfInBounds_toArray, List.set_cons_zero, List.set_cons_succ, Nat.reduceAdd, Array.getD_eq_getD_getElem?, List.getElem?_toArray, List.getElem?_cons_succ, List.getElem?_cons_zero, Option.getD_some]
        have HN := Lib.hid (h2.setAll S.none.cells rfl)
        have XN := Lib.hid (X.out.trans_but (But.setCells g2 S.none.cells 0 wi) l2)
        generalize wi.setCells g2 0 S.none.cells = wn at *
        clear h2 H2 X
        go_wp2_with fail
        exact bodyPost_ret (results_row2 rfl _ _ g2 25 (S.none.cells).toArray (0, 0) _ rfl HN.out undS rfl (by rw [List.size_toArray, cells_length _ none_dig]; exact size38)) rfl ⟨by rw [HV.out]; rfl, XN.out⟩
    -- C}
  ·
    -- {D
    have HR : Hid (parsed s.data.toList = pThing (pDig p)) := HR
    rw [show (F.cells ⟨false, true, true, false⟩) = [.bool false, .bool true, .bool true, .bool false] from rfl]
    go_upto_region 4 with (fail)
    have hb6 : Blk (w6.alloc (Obj.cells #[Value.bool false, Value.bool true, Value.bool true, Value.bool false] 47)) w6.heap.size 47 [.bool false, .bool true, .bool true, .bool false] := Blk.new w6 47 #[Value.bool false, Value.bool true, Value.bool true, Value.bool false]
    have hx6 := Reg.Ext.alloc w6 (Obj.cells #[Value.bool false, Value.bool true, Value.bool true, Value.bool false] 47)
    have lt5 := HY.out.lt
    have ltx := X.out.size
    have HYn := Lib.hid (HY.out.ext hx6)
    have H2n := Lib.hid (H2.out.ext hx6)
    have HSn := Lib.hid (HS.out.ext hx6)
    have Xn := Lib.hid (X.out.trans hx6)
    clear HY H2 HS X hx6
    have HY := HYn
    have H2 := H2n
    have HS := HSn
    have X := Xn
    clear HYn H2n HSn Xn
    generalize w6.alloc (Obj.cells #[Value.bool false, Value.bool true, Value.bool true, Value.bool false] 47) = wi at *
    generalize hg6 : w6.heap.size = g6 at *
    have H6 := Lib.hid hb6
    clear hb6
    have l6 : g5 < g6 := lt5
    clear lt5 ltx hg6
    have p0 : wi.cell? ⟨g6, 0, none⟩ = some (.bool false) := H6.out.cell 0
    have p1 : wi.cell? ⟨g6, 1, none⟩ = some (.bool true) := H6.out.cell 1
    have p2 : wi.cell? ⟨g6, 2, none⟩ = some (.bool true) := H6.out.cell 2
    have p3 : wi.cell? ⟨g6, 3, none⟩ = some (.bool false) := H6.out.cell 3
    go_wp2_with fail
    refine wp_region_held (S := Drawn.One) (by kernel_rfl) ?_
    refine wpAnyH_take (i := 0) rfl (by kernel_rfl) (by kernel_rfl) (by kernel_rfl) (fun _ _ _ h => h) (v := .pointer (some ⟨g5, 3, none⟩)) (.inl ⟨rfl, fun w _ => by as_aux_lemma => kernel_rfl⟩) trivial ?_
    simp only [Act.put, Act.eval, List.setIfInBounds_toArray, List.set_cons_zero, List.set_cons_succ, Nat.reduceAdd, Array.getD_eq_getD_getElem?, List.getElem?_toArray, List.getElem?_cons_succ, List.getElem?_cons_zero, Option.getD_some]
    refine wpAnyH_take (i := 1) rfl (by kernel_rfl) (by kernel_rfl) (by kernel_rfl) (fun _ _ _ h => h) (v := .slice (some ⟨g5, 3, none⟩) 32 32) (.inl ⟨rfl, fun w _ => by as_aux_lemma => kernel_rfl⟩) trivial ?_
    simp only [Act.put, Act.eval, List.setIfInBounds_toArray, List.set_cons_zero, List.set_cons_succ, Nat.reduceAdd, Array.getD_eq_getD_getElem?, List.getElem?_toArray, List.getElem?_cons_succ, List.getElem?_cons_zero, Option.getD_some]
    refine wpAnyH_take (i := 2) rfl (by kernel_rfl) (by kernel_rfl) (by kernel_rfl) (fun _ _ _ h => h) (v := .pointer (some ⟨g4, 0, none⟩)) (.inl ⟨rfl, fun w _ => by as_aux_lemma => kernel_rfl⟩) trivial ?_
    simp only [Act.put, Act.eval, List.setIfInBounds_toArray, List.set_cons_zero, List.set_cons_succ, Nat.reduceAdd, Array.getD_eq_getD_getElem?, List.getElem?_toArray, List.getElem?_cons_succ, List.getElem?_cons_zero, Option.getD_some]
    refine Drawn.of_list [3, 4] [_, _] _ _ _ _ rfl (by kernel_rfl) (by decide) ?_
    change wpList _ _ _ _ _ wi.drew
    repeat go_step
    have HTL := Lib.hid (take_len 32 p.2)
    refine (take_any g4 p.2 32 wi.drew (HS.out.ext (Reg.Ext.drew _)) (by decide)).mono ?_
    rintro e wj ⟨rfl, hj, xj'⟩
    rename_i hK
    refine hK _ _ ?_
    have xj := (But.of_ext (g := g4) (Reg.Ext.drew wi)).trans xj'
    clear xj' p0 p1 p2 p3
    have HYn := Lib.hid (HY.out.but xj (by omega))
    have H6n := Lib.hid (H6.out.but xj (by omega))
    have H2n := Lib.hid (H2.out.but xj (by omega))
    have Xn := Lib.hid (X.out.trans_but xj l4)
    have HSn := Lib.hid hj
    clear hj xj HS HY H6 H2 X
    clear wi
    have HS := HSn
    have HY := HYn
    have H6 := H6n
    have H2 := H2n
    have X := Xn
    clear HSn HYn H6n H2n Xn
    generalize wj = wi at *
    have hyo := HY.out
    obtain ⟨t, ht⟩ : ∃ t : ByteArray, t = ⟨(take 32 p.2).1.toArray⟩ := ⟨_, rfl⟩
    have htl : t.data.toList = (take 32 p.2).1 := by rw [ht]
    have hts : t.size = (take 32 p.2).1.length := by rw [← htl, len_data]
    rw [← ht]
    refine wpList_copy_str rfl _ _ 42 9 rfl 5 Tryd.underlying42 (fun _ => by as_aux_lemma => kernel_rfl) g5 3 32 32 rfl t rfl (fun j hj => (there_dig hyo HD j (by omega)).1) (fun j hj => hyo.frozen _) ?_
    have hs : Blk (wi.setCells g5 3 ((t.data.toList.take (min t.size 32)).map byteV)) g5 25 (pDig p).1.cells := by
      rw [htl, hts]
      unfold pDig
      rcases HTL.out with h1 | h1
      · rw [h1, List.take_of_length_le (by rw [h1]; decide), if_neg (by intro e; rw [e] at h1; cases h1)]
        exact put_dig hyo _ (h1.trans HD.symm)
      · rw [h1, if_pos rfl]
        exact hyo
    have hbx := But.setCells g5 ((t.data.toList.take (min t.size 32)).map byteV) 3 wi
    clear htl hts ht hyo
    have HSn : Hid (At g4 (pDig p).2 wi) := HS.out
    have HYn : Hid (Blk (wi.setCells g5 3 ((t.data.toList.take (min t.size 32)).map byteV)) g5 25 (pDig p).1.cells) := hs
    have HDn : (pDig p).1.dig.length = 32 := pDig_len p HD
    have HSn := Lib.hid (At.but HSn.out hbx (by omega))
    have H6n := Lib.hid (H6.out.but hbx (by omega))
    have H2n := Lib.hid (H2.out.but hbx (by omega))
    have Xn := Lib.hid (X.out.trans_but hbx l5)
    simp only [Act.put, Act.eval, List.setIfInBounds_toArray, List.set_cons_zero, List.set_cons_succ, Nat.reduceAdd, Array.getD_eq_getD_getElem?, List.getElem?_toArray, List.getElem?_cons_succ, List.getElem?_cons_zero, Option.getD_some]
    clear hs hbx HS HY HD H6 H2 X
    generalize (wi.setCells g5 3 ((t.data.toList.take (min t.size 32)).map byteV)) = wi at *
    generalize pDig p = p at *
    have HS := HSn
    have HY := HYn
    have HD := HDn
    have H6 := H6n
    have H2 := H2n
    have X := Xn
    clear HSn HYn HDn H6n H2n Xn
    clear HTL
    have p0 : wi.cell? ⟨g6, 0, none⟩ = some (.bool false) := H6.out.cell 0
    have p1 : wi.cell? ⟨g6, 1, none⟩ = some (.bool true) := H6.out.cell 1
    have p2 : wi.cell? ⟨g6, 2, none⟩ = some (.bool true) := H6.out.cell 2
    have p3 : wi.cell? ⟨g6, 3, none⟩ = some (.bool false) := H6.out.cell 3
    go_wp2_with fail
    refine (text_any g4 _ wi HS.out).mono ?_
    rintro e wj ⟨rfl, hj, xj⟩
    clear p0 p1 p2 p3
    have HYn := Lib.hid (HY.out.but xj (by omega))
    have H6n := Lib.hid (H6.out.but xj (by omega))
    have H2n := Lib.hid (H2.out.but xj (by omega))
    have Xn := Lib.hid (X.out.trans_but xj l4)
    have HSn := Lib.hid hj
    clear hj xj HS HY H6 H2 X
    clear wi
    have HS := HSn
    have HY := HYn
    have H6 := H6n
    have H2 := H2n
    have X := Xn
    clear HSn HYn H6n H2n Xn
    generalize wj = wi at *
    go_wp2_with fail
    refine (number_any g4 _ wi HS.out).mono ?_
    rintro e wj ⟨rfl, hj, xj⟩
    skip
    have HYn := Lib.hid (HY.out.but xj (by omega))
    have H6n := Lib.hid (H6.out.but xj (by omega))
    have H2n := Lib.hid (H2.out.but xj (by omega))
    have Xn := Lib.hid (X.out.trans_but xj l4)
    have HSn := Lib.hid hj
    clear hj xj HS HY H6 H2 X
    clear wi
    have HS := HSn
    have HY := HYn
    have H6 := H6n
    have H2 := H2n
    have X := Xn
    clear HSn HYn H6n H2n Xn
    generalize wj = wi at *
    have r1 : wi.cell? ⟨g5, 35, none⟩ = some (.string p.1.typ) := by rw [HY.out.cell, at35 p.1 HD]
    have r2 : wi.cell? ⟨g5, 36, none⟩ = some (.int .i64 p.1.size) := by rw [HY.out.cell, at36 p.1 HD]
    have f1 := HY.out.frozen 35
    have f2 := HY.out.frozen 36
    have hs0 := HY.out.set_ 35 (.string ⟨(textS p.2).1.toArray⟩)
    rw [set35 p.1 HD] at hs0
    have hs := hs0.set_ 36 (.int .i64 ((numS (textS p.2).2).1 : Int))
    rw [set36 ({ p.1 with typ := ⟨(textS p.2).1.toArray⟩ } : S) HD] at hs
    clear hs0
    have hbx := (But.set_ g5 wi 35 (.string ⟨(textS p.2).1.toArray⟩)).trans (But.set_ g5 _ 36 (.int .i64 ((numS (textS p.2).2).1 : Int)))
    have HSn : Hid (At g4 (pThing p).2 wi) := HS.out
    have HYn : Hid (Blk ((wi.setCell ⟨g5, 35, none⟩ (.string ⟨(textS p.2).1.toArray⟩)).setCell ⟨g5, 36, none⟩ (.int .i64 ((numS (textS p.2).2).1 : Int))) g5 25 (pThing p).1.cells) := hs
    have HDn : (pThing p).1.dig.length = 32 := HD
    have HSn := Lib.hid (At.but HSn.out hbx (by omega))
    have H6n := Lib.hid (H6.out.but hbx (by omega))
    have H2n := Lib.hid (H2.out.but hbx (by omega))
    have Xn := Lib.hid (X.out.trans_but hbx l5)
    go_upto_region 10 with (fail)
    clear r1 r2 f1 f2
    clear hs hbx HS HY HD H6 H2 X
    generalize ((wi.setCell ⟨g5, 35, none⟩ (.string ⟨(textS p.2).1.toArray⟩)).setCell ⟨g5, 36, none⟩ (.int .i64 ((numS (textS p.2).2).1 : Int))) = wi at *
    generalize pThing p = p at *
    have HS := HSn
    have HY := HYn
    have HD := HDn
    have H6 := H6n
    have H2 := H2n
    have X := Xn
    clear HSn HYn HDn H6n H2n Xn
    have p0 : wi.cell? ⟨g6, 0, none⟩ = some (.bool false) := H6.out.cell 0
    have p1 : wi.cell? ⟨g6, 1, none⟩ = some (.bool true) := H6.out.cell 1
    have p2 : wi.cell? ⟨g6, 2, none⟩ = some (.bool true) := H6.out.cell 2
    have p3 : wi.cell? ⟨g6, 3, none⟩ = some (.bool false) := H6.out.cell 3
    obtain ⟨r, bad, hb, hr, hst⟩ := HS.out
    have c0 : wi.cell? ⟨g4, 0, none⟩ = some (.string r) := hb.cell 0
    have c1 : wi.cell? ⟨g4, 1, none⟩ = some (.bool bad) := hb.cell 1
    have HST := Lib.hid hst
    clear hb hr hst
    cases bad with
    | true =>
      have HV : Hid (parseV s.data.toList = .tuple #[.agg S.none.cells.toArray, .bool false]) := by
        show parseV _ = _
        unfold parseV parse
        rw [HR.out, if_neg (by rw [HST.out]; simp)]
      clear HR HST HS
      go_upto_region 13 with (fail)
      refine wp_region_lit ?_
      refine wpList_val rfl (.agg S.none.cells.toArray) (by as_aux_lemma => kernel_rfl) ?_
      simp only [Act.put, Act.eval, List.setIfInBounds_toArray, List.set_cons_zero, List.set_cons_succ, Nat.reduceAdd, Array.getD_eq_getD_getElem?, List.getElem?_toArray, List.getElem?_cons_succ, List.getElem?_cons_zero, Option.getD_some]
      have h2 := H2.out
      refine wpList_store_mid rfl 25 _ _ rfl g2 0 ((S.none).cells).toArray rfl ?_ (h2.there _ (by have e1 := cells_length _ none_dig; have e2 := cells_length _ none_dig; rw [List.size_toArray]; omega)) (by rw [List.size_toArray, cells_length _ none_dig]; exact size38) (all_oneCell_toArray (oneS _)) ?_
      · rfl
      simp only [List.toList_toArray]
      simp only [Act.put, Act.eval, List.setIfInBounds_toArray, List.set_cons_zero, List.set_cons_succ, Nat.reduceAdd, Array.getD_eq_getD_getElem?, List.getElem?_toArray, List.getElem?_cons_succ, List.getElem?_cons_zero, Option.getD_some]
      have HN := Lib.hid (h2.setAll S.none.cells rfl)
      have XN := Lib.hid (X.out.trans_but (But.setCells g2 S.none.cells 0 wi) l2)
      generalize wi.setCells g2 0 S.none.cells = wn at *
      clear h2 H2 X
      go_wp2_with fail
      exact bodyPost_ret (results_row2 rfl _ _ g2 25 (S.none.cells).toArray (0, 0) _ rfl HN.out undS rfl (by rw [List.size_toArray, cells_length _ none_dig]; exact size38)) rfl ⟨by rw [HV.out]; rfl, XN.out⟩
    | false =>
      by_cases hr0 : r = ⟨#[]⟩
      · subst hr0
        have CG := Lib.hid (good_any p.1 HD wi)
        cases hg : good p.1 with
        | true =>
          have HV : Hid (parseV s.data.toList = .tuple #[.agg p.1.cells.toArray, .bool true]) := by
            show parseV _ = _
            unfold parseV parse
            rw [HR.out, if_pos ⟨by rw [HST.out]; simp, hg⟩]
          rw [hg] at CG
          clear HR HST HS hg
          go_upto_region 12 with (fail)
          refine wp_region_lit ?_
          repeat (first | refine wpList_ldr rfl _ _ rfl g5 rfl _ _ _ HY undS (by rw [cells_length p.1 HD]; exact size38) ?_ | go_step)
          refine (CG.out).mono ?_
          rintro e wj ⟨rfl, xg⟩
          have xj := But.of_ext (g := g4) xg
          have hj : True := trivial
          clear xg c0 c1 p0 p1 p2 p3 CG
          have HYn := Lib.hid (HY.out.but xj (by omega))
          have H6n := Lib.hid (H6.out.but xj (by omega))
          have H2n := Lib.hid (H2.out.but xj (by omega))
          have Xn := Lib.hid (X.out.trans_but xj l4)
          have HSn := Lib.hid hj
          clear hj xj HS HY H6 H2 X
          clear wi
          have HS := HSn
          have HY := HYn
          have H6 := H6n
          have H2 := H2n
          have X := Xn
          clear HSn HYn H6n H2n Xn
          generalize wj = wi at *
          clear HS
          rename_i hK
          refine hK _ _ ?_
          go_upto_region 14 with (fail)
          refine wp_region_lit ?_
          have hyo := HY.out
          have h2 := H2.out
          refine wpList_load_row rfl 25 _ rfl g5 rfl 25 (p.1.cells).toArray (0, 0) _ hyo undS rfl (by rw [List.size_toArray, cells_length p.1 HD]; exact size38) ?_
          simp only [Act.put, Act.eval, List.setIfInBounds_toArray, List.set_cons_zero, List.set_cons_succ, Nat.reduceAdd, Array.getD_eq_getD_getElem?, List.getElem?_toArray, List.getElem?_cons_succ, List.getElem?_cons_zero, Option.getD_some]
          refine wpList_store_mid rfl 25 _ _ rfl g2 0 ((p.1).cells).toArray rfl ?_ (h2.there _ (by have e1 := cells_length _ HD; have e2 := cells_length _ none_dig; rw [List.size_toArray]; omega)) (by rw [List.size_toArray, cells_length _ HD]; exact size38) (all_oneCell_toArray (oneS _)) ?_
          · rfl
          simp only [List.toList_toArray]
          simp only [Act.put, Act.eval, List.setIfInBounds_toArray, List.set_cons_zero, List.set_cons_succ, Nat.reduceAdd, Array.getD_eq_getD_getElem?, List.getElem?_toArray, List.getElem?_cons_succ, List.getElem?_cons_zero, Option.getD_some]
          have HN := Lib.hid (h2.setAll p.1.cells (by rw [cells_length p.1 HD, cells_length _ none_dig]))
          have XN := Lib.hid (X.out.trans_but (But.setCells g2 p.1.cells 0 wi) l2)
          generalize wi.setCells g2 0 p.1.cells = wn at *
          clear h2 hyo H2 X HY
          go_wp2_with fail
          exact bodyPost_ret (results_row2 rfl _ _ g2 25 (p.1.cells).toArray (0, 0) _ rfl HN.out undS rfl (by rw [List.size_toArray, cells_length _ HD]; exact size38)) rfl ⟨by rw [HV.out]; rfl, XN.out⟩
        | false =>
          have HV : Hid (parseV s.data.toList = .tuple #[.agg S.none.cells.toArray, .bool false]) := by
            show parseV _ = _
            unfold parseV parse
            rw [HR.out, if_neg (by rw [hg]; simp)]
          rw [hg] at CG
          clear HR HST HS hg
          go_upto_region 12 with (fail)
          refine wp_region_lit ?_
          repeat (first | refine wpList_ldr rfl _ _ rfl g5 rfl _ _ _ HY undS (by rw [cells_length p.1 HD]; exact size38) ?_ | go_step)
          refine (CG.out).mono ?_
          rintro e wj ⟨rfl, xg⟩
          have xj := But.of_ext (g := g4) xg
          have hj : True := trivial
          clear xg c0 c1 p0 p1 p2 p3 CG
          have HYn := Lib.hid (HY.out.but xj (by omega))
          have H6n := Lib.hid (H6.out.but xj (by omega))
          have H2n := Lib.hid (H2.out.but xj (by omega))
          have Xn := Lib.hid (X.out.trans_but xj l4)
          have HSn := Lib.hid hj
          clear hj xj HS HY H6 H2 X
          clear wi
          have HS := HSn
          have HY := HYn
          have H6 := H6n
          have H2 := H2n
          have X := Xn
          clear HSn HYn H6n H2n Xn
          generalize wj = wi at *
          clear HS
          rename_i hK
          refine hK _ _ ?_
          go_upto_region 13 with (fail)
          refine wp_region_lit ?_
          refine wpList_val rfl (.agg S.none.cells.toArray) (by as_aux_lemma => kernel_rfl) ?_
          simp only [Act.put, Act.eval, List.setIfInBounds_toArray, List.set_cons_zero, List.set_cons_succ, Nat.reduceAdd, Array.getD_eq_getD_getElem?, List.getElem?_toArray, List.getElem?_cons_succ, List.getElem?_cons_zero, Option.getD_some]
          have h2 := H2.out
          refine wpList_store_mid rfl 25 _ _ rfl g2 0 ((S.none).cells).toArray rfl ?_ (h2.there _ (by have e1 := cells_length _ none_dig; have e2 := cells_length _ none_dig; rw [List.size_toArray]; omega)) (by rw [List.size_toArray, cells_length _ none_dig]; exact size38) (all_oneCell_toArray (oneS _)) ?_
          · rfl
          simp only [List.toList_toArray]
          simp only [Act.put, Act.eval, List.setIfInBounds_toArray, List.set_cons_zero, List.set_cons_succ, Nat.reduceAdd, Array.getD_eq_getD_getElem?, List.getElem?_toArray, List.getElem?_cons_succ, List.getElem?_cons_zero, Option.getD_some]
          have HN := Lib.hid (h2.setAll S.none.cells rfl)
          have XN := Lib.hid (X.out.trans_but (But.setCells g2 S.none.cells 0 wi) l2)
          generalize wi.setCells g2 0 S.none.cells = wn at *
          clear h2 H2 X
          go_wp2_with fail
          exact bodyPost_ret (results_row2 rfl _ _ g2 25 (S.none.cells).toArray (0, 0) _ rfl HN.out undS rfl (by rw [List.size_toArray, cells_length _ none_dig]; exact size38)) rfl ⟨by rw [HV.out]; rfl, XN.out⟩
      · have HV : Hid (parseV s.data.toList = .tuple #[.agg S.none.cells.toArray, .bool false]) := by
          show parseV _ = _
          unfold parseV parse
          rw [HR.out, if_neg (by
            rw [HST.out]
            simp only [Bool.false_eq_true, if_false, Option.some.injEq]
            intro hh
            exact hr0 (ba_ext (by rw [hh.1])))]
        have dne : (r.toList == []) = false := by
          rw [ByteArray.toList_eq, Bool.eq_false_iff, ne_eq, beq_iff_eq]
          intro e
          exact hr0 (ba_ext e)
        clear HR HST HS hr0
        go_upto_region 13 with (fail)
        refine wp_region_lit ?_
        refine wpList_val rfl (.agg S.none.cells.toArray) (by as_aux_lemma => kernel_rfl) ?_
        simp only [Act.put, Act.eval, List.setIfInBounds_toArray, List.set_cons_zero, List.set_cons_succ, Nat.reduceAdd, Array.getD_eq_getD_getElem?, List.getElem?_toArray, List.getElem?_cons_succ, List.getElem?_cons_zero, Option.getD_some]
        have h2 := H2.out
        refine wpList_store_mid rfl 25 _ _ rfl g2 0 ((S.none).cells).toArray rfl ?_ (h2.there _ (by have e1 := cells_length _ none_dig; have e2 := cells_length _ none_dig; rw [List.size_toArray]; omega)) (by rw [List.size_toArray, cells_length _ none_dig]; exact size38) (all_oneCell_toArray (oneS _)) ?_
        · rfl
        simp only [List.toList_toArray]
        simp only [Act.put, Act.eval, List.setIfInBounds_toArray, List.set_cons_zero, List.set_cons_succ, Nat.reduceAdd, Array.getD_eq_getD_getElem?, List.getElem?_toArray, List.getElem?_cons_succ, List.getElem?_cons_zero, Option.getD_some]
        have HN := Lib.hid (h2.setAll S.none.cells rfl)
        have XN := Lib.hid (X.out.trans_but (But.setCells g2 S.none.cells 0 wi) l2)
        generalize wi.setCells g2 0 S.none.cells = wn at *
        clear h2 H2 X
        go_wp2_with fail
        exact bodyPost_ret (results_row2 rfl _ _ g2 25 (S.none.cells).toArray (0, 0) _ rfl HN.out undS rfl (by rw [List.size_toArray, cells_length _ none_dig]; exact size38)) rfl ⟨by rw [HV.out]; rfl, XN.out⟩
    -- D}
  ·
    -- {E
    have HR : Hid (parsed s.data.toList = pDig p) := HR
    rw [show (F.cells ⟨false, true, false, false⟩) = [.bool false, .bool true, .bool false, .bool false] from rfl]
    go_upto_region 4 with (fail)
    have hb6 : Blk (w6.alloc (Obj.cells #[Value.bool false, Value.bool true, Value.bool false, Value.bool false] 47)) w6.heap.size 47 [.bool false, .bool true, .bool false, .bool false] := Blk.new w6 47 #[Value.bool false, Value.bool true, Value.bool false, Value.bool false]
    have hx6 := Reg.Ext.alloc w6 (Obj.cells #[Value.bool false, Value.bool true, Value.bool false, Value.bool false] 47)
    have lt5 := HY.out.lt
    have ltx := X.out.size
    have HYn := Lib.hid (HY.out.ext hx6)
    have H2n := Lib.hid (H2.out.ext hx6)
    have HSn := Lib.hid (HS.out.ext hx6)
    have Xn := Lib.hid (X.out.trans hx6)
    clear HY H2 HS X hx6
    have HY := HYn
    have H2 := H2n
    have HS := HSn
    have X := Xn
    clear HYn H2n HSn Xn
    generalize w6.alloc (Obj.cells #[Value.bool false, Value.bool true, Value.bool false, Value.bool false] 47) = wi at *
    generalize hg6 : w6.heap.size = g6 at *
    have H6 := Lib.hid hb6
    clear hb6
    have l6 : g5 < g6 := lt5
    clear lt5 ltx hg6
    have p0 : wi.cell? ⟨g6, 0, none⟩ = some (.bool false) := H6.out.cell 0
    have p1 : wi.cell? ⟨g6, 1, none⟩ = some (.bool true) := H6.out.cell 1
    have p2 : wi.cell? ⟨g6, 2, none⟩ = some (.bool false) := H6.out.cell 2
    have p3 : wi.cell? ⟨g6, 3, none⟩ = some (.bool false) := H6.out.cell 3
    go_wp2_with fail
    refine wp_region_held (S := Drawn.One) (by kernel_rfl) ?_
    refine wpAnyH_take (i := 0) rfl (by kernel_rfl) (by kernel_rfl) (by kernel_rfl) (fun _ _ _ h => h) (v := .pointer (some ⟨g5, 3, none⟩)) (.inl ⟨rfl, fun w _ => by as_aux_lemma => kernel_rfl⟩) trivial ?_
    simp only [Act.put, Act.eval, List.setIfInBounds_toArray, List.set_cons_zero, List.set_cons_succ, Nat.reduceAdd, Array.getD_eq_getD_getElem?, List.getElem?_toArray, List.getElem?_cons_succ, List.getElem?_cons_zero, Option.getD_some]
    refine wpAnyH_take (i := 1) rfl (by kernel_rfl) (by kernel_rfl) (by kernel_rfl) (fun _ _ _ h => h) (v := .slice (some ⟨g5, 3, none⟩) 32 32) (.inl ⟨rfl, fun w _ => by as_aux_lemma => kernel_rfl⟩) trivial ?_
    simp only [Act.put, Act.eval, List.setIfInBounds_toArray, List.set_cons_zero, List.set_cons_succ, Nat.reduceAdd, Array.getD_eq_getD_getElem?, List.getElem?_toArray, List.getElem?_cons_succ, List.getElem?_cons_zero, Option.getD_some]
    refine wpAnyH_take (i := 2) rfl (by kernel_rfl) (by kernel_rfl) (by kernel_rfl) (fun _ _ _ h => h) (v := .pointer (some ⟨g4, 0, none⟩)) (.inl ⟨rfl, fun w _ => by as_aux_lemma => kernel_rfl⟩) trivial ?_
    simp only [Act.put, Act.eval, List.setIfInBounds_toArray, List.set_cons_zero, List.set_cons_succ, Nat.reduceAdd, Array.getD_eq_getD_getElem?, List.getElem?_toArray, List.getElem?_cons_succ, List.getElem?_cons_zero, Option.getD_some]
    refine Drawn.of_list [3, 4] [_, _] _ _ _ _ rfl (by kernel_rfl) (by decide) ?_
    change wpList _ _ _ _ _ wi.drew
    repeat go_step
    have HTL := Lib.hid (take_len 32 p.2)
    refine (take_any g4 p.2 32 wi.drew (HS.out.ext (Reg.Ext.drew _)) (by decide)).mono ?_
    rintro e wj ⟨rfl, hj, xj'⟩
    rename_i hK
    refine hK _ _ ?_
    have xj := (But.of_ext (g := g4) (Reg.Ext.drew wi)).trans xj'
    clear xj' p0 p1 p2 p3
    have HYn := Lib.hid (HY.out.but xj (by omega))
    have H6n := Lib.hid (H6.out.but xj (by omega))
    have H2n := Lib.hid (H2.out.but xj (by omega))
    have Xn := Lib.hid (X.out.trans_but xj l4)
    have HSn := Lib.hid hj
    clear hj xj HS HY H6 H2 X
    clear wi
    have HS := HSn
    have HY := HYn
    have H6 := H6n
    have H2 := H2n
    have X := Xn
    clear HSn HYn H6n H2n Xn
    generalize wj = wi at *
    have hyo := HY.out
    obtain ⟨t, ht⟩ : ∃ t : ByteArray, t = ⟨(take 32 p.2).1.toArray⟩ := ⟨_, rfl⟩
    have htl : t.data.toList = (take 32 p.2).1 := by rw [ht]
    have hts : t.size = (take 32 p.2).1.length := by rw [← htl, len_data]
    rw [← ht]
    refine wpList_copy_str rfl _ _ 42 9 rfl 5 Tryd.underlying42 (fun _ => by as_aux_lemma => kernel_rfl) g5 3 32 32 rfl t rfl (fun j hj => (there_dig hyo HD j (by omega)).1) (fun j hj => hyo.frozen _) ?_
    have hs : Blk (wi.setCells g5 3 ((t.data.toList.take (min t.size 32)).map byteV)) g5 25 (pDig p).1.cells := by
      rw [htl, hts]
      unfold pDig
      rcases HTL.out with h1 | h1
      · rw [h1, List.take_of_length_le (by rw [h1]; decide), if_neg (by intro e; rw [e] at h1; cases h1)]
        exact put_dig hyo _ (h1.trans HD.symm)
      · rw [h1, if_pos rfl]
        exact hyo
    have hbx := But.setCells g5 ((t.data.toList.take (min t.size 32)).map byteV) 3 wi
    clear htl hts ht hyo
    have HSn : Hid (At g4 (pDig p).2 wi) := HS.out
    have HYn : Hid (Blk (wi.setCells g5 3 ((t.data.toList.take (min t.size 32)).map byteV)) g5 25 (pDig p).1.cells) := hs
    have HDn : (pDig p).1.dig.length = 32 := pDig_len p HD
    have HSn := Lib.hid (At.but HSn.out hbx (by omega))
    have H6n := Lib.hid (H6.out.but hbx (by omega))
    have H2n := Lib.hid (H2.out.but hbx (by omega))
    have Xn := Lib.hid (X.out.trans_but hbx l5)
    simp only [Act.put, Act.eval, List.setIfInBounds_toArray, List.set_cons_zero, List.set_cons_succ, Nat.reduceAdd, Array.getD_eq_getD_getElem?, List.getElem?_toArray, List.getElem?_cons_succ, List.getElem?_cons_zero, Option.getD_some]
    clear hs hbx HS HY HD H6 H2 X
    generalize (wi.setCells g5 3 ((t.data.toList.take (min t.size 32)).map byteV)) = wi at *
    generalize pDig p = p at *
    have HS := HSn
    have HY := HYn
    have HD := HDn
    have H6 := H6n
    have H2 := H2n
    have X := Xn
    clear HSn HYn HDn H6n H2n Xn
    clear HTL
    have p0 : wi.cell? ⟨g6, 0, none⟩ = some (.bool false) := H6.out.cell 0
    have p1 : wi.cell? ⟨g6, 1, none⟩ = some (.bool true) := H6.out.cell 1
    have p2 : wi.cell? ⟨g6, 2, none⟩ = some (.bool false) := H6.out.cell 2
    have p3 : wi.cell? ⟨g6, 3, none⟩ = some (.bool false) := H6.out.cell 3
    obtain ⟨r, bad, hb, hr, hst⟩ := HS.out
    have c0 : wi.cell? ⟨g4, 0, none⟩ = some (.string r) := hb.cell 0
    have c1 : wi.cell? ⟨g4, 1, none⟩ = some (.bool bad) := hb.cell 1
    have HST := Lib.hid hst
    clear hb hr hst
    cases bad with
    | true =>
      have HV : Hid (parseV s.data.toList = .tuple #[.agg S.none.cells.toArray, .bool false]) := by
        show parseV _ = _
        unfold parseV parse
        rw [HR.out, if_neg (by rw [HST.out]; simp)]
      clear HR HST HS
      go_upto_region 13 with (fail)
      refine wp_region_lit ?_
      refine wpList_val rfl (.agg S.none.cells.toArray) (by as_aux_lemma => kernel_rfl) ?_
      simp only [Act.put, Act.eval, List.setIfInBounds_toArray, List.set_cons_zero, List.set_cons_succ, Nat.reduceAdd, Array.getD_eq_getD_getElem?, List.getElem?_toArray, List.getElem?_cons_succ, List.getElem?_cons_zero, Option.getD_some]
      have h2 := H2.out
      refine wpList_store_mid rfl 25 _ _ rfl g2 0 ((S.none).cells).toArray rfl ?_ (h2.there _ (by have e1 := cells_length _ none_dig; have e2 := cells_length _ none_dig; rw [List.size_toArray]; omega)) (by rw [List.size_toArray, cells_length _ none_dig]; exact size38) (all_oneCell_toArray (oneS _)) ?_
      · rfl
      simp only [List.toList_toArray]
      simp only [Act.put, Act.eval, List.setIfInBounds_toArray, List.set_cons_zero, List.set_cons_succ, Nat.reduceAdd, Array.getD_eq_getD_getElem?, List.getElem?_toArray, List.getElem?_cons_succ, List.getElem?_cons_zero, Option.getD_some]
      have HN := Lib.hid (h2.setAll S.none.cells rfl)
      have XN := Lib.hid (X.out.trans_but (But.setCells g2 S.none.cells 0 wi) l2)
      generalize wi.setCells g2 0 S.none.cells = wn at *
      clear h2 H2 X
      go_wp2_with fail
      exact bodyPost_ret (results_row2 rfl _ _ g2 25 (S.none.cells).toArray (0, 0) _ rfl HN.out undS rfl (by rw [List.size_toArray, cells_length _ none_dig]; exact size38)) rfl ⟨by rw [HV.out]; rfl, XN.out⟩
    | false =>
      by_cases hr0 : r = ⟨#[]⟩
      · subst hr0
        have CG := Lib.hid (good_any p.1 HD wi)
        cases hg : good p.1 with
        | true =>
          have HV : Hid (parseV s.data.toList = .tuple #[.agg p.1.cells.toArray, .bool true]) := by
            show parseV _ = _
            unfold parseV parse
            rw [HR.out, if_pos ⟨by rw [HST.out]; simp, hg⟩]
          rw [hg] at CG
          clear HR HST HS hg
          go_upto_region 12 with (fail)
          refine wp_region_lit ?_
          repeat (first | refine wpList_ldr rfl _ _ rfl g5 rfl _ _ _ HY undS (by rw [cells_length p.1 HD]; exact size38) ?_ | go_step)
          refine (CG.out).mono ?_
          rintro e wj ⟨rfl, xg⟩
          have xj := But.of_ext (g := g4) xg
          have hj : True := trivial
          clear xg c0 c1 p0 p1 p2 p3 CG
          have HYn := Lib.hid (HY.out.but xj (by omega))
          have H6n := Lib.hid (H6.out.but xj (by omega))
          have H2n := Lib.hid (H2.out.but xj (by omega))
          have Xn := Lib.hid (X.out.trans_but xj l4)
          have HSn := Lib.hid hj
          clear hj xj HS HY H6 H2 X
          clear wi
          have HS := HSn
          have HY := HYn
          have H6 := H6n
          have H2 := H2n
          have X := Xn
          clear HSn HYn H6n H2n Xn
          generalize wj = wi at *
          clear HS
          rename_i hK
          refine hK _ _ ?_
          go_upto_region 14 with (fail)
          refine wp_region_lit ?_
          have hyo := HY.out
          have h2 := H2.out
          refine wpList_load_row rfl 25 _ rfl g5 rfl 25 (p.1.cells).toArray (0, 0) _ hyo undS rfl (by rw [List.size_toArray, cells_length p.1 HD]; exact size38) ?_
          simp only [Act.put, Act.eval, List.setIfInBounds_toArray, List.set_cons_zero, List.set_cons_succ, Nat.reduceAdd, Array.getD_eq_getD_getElem?, List.getElem?_toArray, List.getElem?_cons_succ, List.getElem?_cons_zero, Option.getD_some]
          refine wpList_store_mid rfl 25 _ _ rfl g2 0 ((p.1).cells).toArray rfl ?_ (h2.there _ (by have e1 := cells_length _ HD; have e2 := cells_length _ none_dig; rw [List.size_toArray]; omega)) (by rw [List.size_toArray, cells_length _ HD]; exact size38) (all_oneCell_toArray (oneS _)) ?_
          · rfl
          simp only [List.toList_toArray]
          simp only [Act.put, Act.eval, List.setIfInBounds_toArray, List.set_cons_zero, List.set_cons_succ, Nat.reduceAdd, Array.getD_eq_getD_getElem?, List.getElem?_toArray, List.getElem?_cons_succ, List.getElem?_cons_zero, Option.getD_some]
          have HN := Lib.hid (h2.setAll p.1.cells (by rw [cells_length p.1 HD, cells_length _ none_dig]))
          have XN := Lib.hid (X.out.trans_but (But.setCells g2 p.1.cells 0 wi) l2)
          generalize wi.setCells g2 0 p.1.cells = wn at *
          clear h2 hyo H2 X HY
          go_wp2_with fail
          exact bodyPost_ret (results_row2 rfl _ _ g2 25 (p.1.cells).toArray (0, 0) _ rfl HN.out undS rfl (by rw [List.size_toArray, cells_length _ HD]; exact size38)) rfl ⟨by rw [HV.out]; rfl, XN.out⟩
        | false =>
          have HV : Hid (parseV s.data.toList = .tuple #[.agg S.none.cells.toArray, .bool false]) := by
            show parseV _ = _
            unfold parseV parse
            rw [HR.out, if_neg (by rw [hg]; simp)]
          rw [hg] at CG
          clear HR HST HS hg
          go_upto_region 12 with (fail)
          refine wp_region_lit ?_
          repeat (first | refine wpList_ldr rfl _ _ rfl g5 rfl _ _ _ HY undS (by rw [cells_length p.1 HD]; exact size38) ?_ | go_step)
          refine (CG.out).mono ?_
          rintro e wj ⟨rfl, xg⟩
          have xj := But.of_ext (g := g4) xg
          have hj : True := trivial
          clear xg c0 c1 p0 p1 p2 p3 CG
          have HYn := Lib.hid (HY.out.but xj (by omega))
          have H6n := Lib.hid (H6.out.but xj (by omega))
          have H2n := Lib.hid (H2.out.but xj (by omega))
          have Xn := Lib.hid (X.out.trans_but xj l4)
          have HSn := Lib.hid hj
          clear hj xj HS HY H6 H2 X
          clear wi
          have HS := HSn
          have HY := HYn
          have H6 := H6n
          have H2 := H2n
          have X := Xn
          clear HSn HYn H6n H2n Xn
          generalize wj = wi at *
          clear HS
          rename_i hK
          refine hK _ _ ?_
          go_upto_region 13 with (fail)
          refine wp_region_lit ?_
          refine wpList_val rfl (.agg S.none.cells.toArray) (by as_aux_lemma => kernel_rfl) ?_
          simp only [Act.put, Act.eval, List.setIfInBounds_toArray, List.set_cons_zero, List.set_cons_succ, Nat.reduceAdd, Array.getD_eq_getD_getElem?, List.getElem?_toArray, List.getElem?_cons_succ, List.getElem?_cons_zero, Option.getD_some]
          have h2 := H2.out
          refine wpList_store_mid rfl 25 _ _ rfl g2 0 ((S.none).cells).toArray rfl ?_ (h2.there _ (by have e1 := cells_length _ none_dig; have e2 := cells_length _ none_dig; rw [List.size_toArray]; omega)) (by rw [List.size_toArray, cells_length _ none_dig]; exact size38) (all_oneCell_toArray (oneS _)) ?_
          · rfl
          simp only [List.toList_toArray]
          simp only [Act.put, Act.eval, List.setIfInBounds_toArray, List.set_cons_zero, List.set_cons_succ, Nat.reduceAdd, Array.getD_eq_getD_getElem?, List.getElem?_toArray, List.getElem?_cons_succ, List.getElem?_cons_zero, Option.getD_some]
          have HN := Lib.hid (h2.setAll S.none.cells rfl)
          have XN := Lib.hid (X.out.trans_but (But.setCells g2 S.none.cells 0 wi) l2)
          generalize wi.setCells g2 0 S.none.cells = wn at *
          clear h2 H2 X
          go_wp2_with fail
          exact bodyPost_ret (results_row2 rfl _ _ g2 25 (S.none.cells).toArray (0, 0) _ rfl HN.out undS rfl (by rw [List.size_toArray, cells_length _ none_dig]; exact size38)) rfl ⟨by rw [HV.out]; rfl, XN.out⟩
      · have HV : Hid (parseV s.data.toList = .tuple #[.agg S.none.cells.toArray, .bool false]) := by
          show parseV _ = _
          unfold parseV parse
          rw [HR.out, if_neg (by
            rw [HST.out]
            simp only [Bool.false_eq_true, if_false, Option.some.injEq]
            intro hh
            exact hr0 (ba_ext (by rw [hh.1])))]
        have dne : (r.toList == []) = false := by
          rw [ByteArray.toList_eq, Bool.eq_false_iff, ne_eq, beq_iff_eq]
          intro e
          exact hr0 (ba_ext e)
        clear HR HST HS hr0
        go_upto_region 13 with (fail)
        refine wp_region_lit ?_
        refine wpList_val rfl (.agg S.none.cells.toArray) (by as_aux_lemma => kernel_rfl) ?_
        simp only [Act.put, Act.eval, List.setIfInBounds_toArray, List.set_cons_zero, List.set_cons_succ, Nat.reduceAdd, Array.getD_eq_getD_getElem?, List.getElem?_toArray, List.getElem?_cons_succ, List.getElem?_cons_zero, Option.getD_some]
        have h2 := H2.out
        refine wpList_store_mid rfl 25 _ _ rfl g2 0 ((S.none).cells).toArray rfl ?_ (h2.there _ (by have e1 := cells_length _ none_dig; have e2 := cells_length _ none_dig; rw [List.size_toArray]; omega)) (by rw [List.size_toArray, cells_length _ none_dig]; exact size38) (all_oneCell_toArray (oneS _)) ?_
        · rfl
        simp only [List.toList_toArray]
        simp only [Act.put, Act.eval, List.setIfInBounds_toArray, List.set_cons_zero, List.set_cons_succ, Nat.reduceAdd, Array.getD_eq_getD_getElem?, List.getElem?_toArray, List.getElem?_cons_succ, List.getElem?_cons_zero, Option.getD_some]
        have HN := Lib.hid (h2.setAll S.none.cells rfl)
        have XN := Lib.hid (X.out.trans_but (But.setCells g2 S.none.cells 0 wi) l2)
        generalize wi.setCells g2 0 S.none.cells = wn at *
        clear h2 H2 X
        go_wp2_with fail
        exact bodyPost_ret (results_row2 rfl _ _ g2 25 (S.none.cells).toArray (0, 0) _ rfl HN.out undS rfl (by rw [List.size_toArray, cells_length _ none_dig]; exact size38)) rfl ⟨by rw [HV.out]; rfl, XN.out⟩
    -- E}
  ·
    -- {F
    have HR : Hid (parsed s.data.toList = p) := HR
    rw [show (F.cells ⟨false, false, false, false⟩) = [.bool false, .bool false, .bool false, .bool false] from rfl]
    go_upto_region 4 with (fail)
    have hb6 : Blk (w6.alloc (Obj.cells #[Value.bool false, Value.bool false, Value.bool false, Value.bool false] 47)) w6.heap.size 47 [.bool false, .bool false, .bool false, .bool false] := Blk.new w6 47 #[Value.bool false, Value.bool false, Value.bool false, Value.bool false]
    have hx6 := Reg.Ext.alloc w6 (Obj.cells #[Value.bool false, Value.bool false, Value.bool false, Value.bool false] 47)
    have lt5 := HY.out.lt
    have ltx := X.out.size
    have HYn := Lib.hid (HY.out.ext hx6)
    have H2n := Lib.hid (H2.out.ext hx6)
    have HSn := Lib.hid (HS.out.ext hx6)
    have Xn := Lib.hid (X.out.trans hx6)
    clear HY H2 HS X hx6
    have HY := HYn
    have H2 := H2n
    have HS := HSn
    have X := Xn
    clear HYn H2n HSn Xn
    generalize w6.alloc (Obj.cells #[Value.bool false, Value.bool false, Value.bool false, Value.bool false] 47) = wi at *
    generalize hg6 : w6.heap.size = g6 at *
    have H6 := Lib.hid hb6
    clear hb6
    have l6 : g5 < g6 := lt5
    clear lt5 ltx hg6
    have p0 : wi.cell? ⟨g6, 0, none⟩ = some (.bool false) := H6.out.cell 0
    have p1 : wi.cell? ⟨g6, 1, none⟩ = some (.bool false) := H6.out.cell 1
    have p2 : wi.cell? ⟨g6, 2, none⟩ = some (.bool false) := H6.out.cell 2
    have p3 : wi.cell? ⟨g6, 3, none⟩ = some (.bool false) := H6.out.cell 3
    obtain ⟨r, bad, hb, hr, hst⟩ := HS.out
    have c0 : wi.cell? ⟨g4, 0, none⟩ = some (.string r) := hb.cell 0
    have c1 : wi.cell? ⟨g4, 1, none⟩ = some (.bool bad) := hb.cell 1
    have HST := Lib.hid hst
    clear hb hr hst
    cases bad with
    | true =>
      have HV : Hid (parseV s.data.toList = .tuple #[.agg S.none.cells.toArray, .bool false]) := by
        show parseV _ = _
        unfold parseV parse
        rw [HR.out, if_neg (by rw [HST.out]; simp)]
      clear HR HST HS
      go_upto_region 13 with (fail)
      refine wp_region_lit ?_
      refine wpList_val rfl (.agg S.none.cells.toArray) (by as_aux_lemma => kernel_rfl) ?_
      simp only [Act.put, Act.eval, List.setIfInBounds_toArray, List.set_cons_zero, List.set_cons_succ, Nat.reduceAdd, Array.getD_eq_getD_getElem?, List.getElem?_toArray, List.getElem?_cons_succ, List.getElem?_cons_zero, Option.getD_some]
      have h2 := H2.out
      refine wpList_store_mid rfl 25 _ _ rfl g2 0 ((S.none).cells).toArray rfl ?_ (h2.there _ (by have e1 := cells_length _ none_dig; have e2 := cells_length _ none_dig; rw [List.size_toArray]; omega)) (by rw [List.size_toArray, cells_length _ none_dig]; exact size38) (all_oneCell_toArray (oneS _)) ?_
      · rfl
      simp only [List.toList_toArray]
      simp only [Act.put, Act.eval, List.setIfInBounds_toArray, List.set_cons_zero, List.set_cons_succ, Nat.reduceAdd, Array.getD_eq_getD_getElem?, List.getElem?_toArray, List.getElem?_cons_succ, List.getElem?_cons_zero, Option.getD_some]
      have HN := Lib.hid (h2.setAll S.none.cells rfl)
      have XN := Lib.hid (X.out.trans_but (But.setCells g2 S.none.cells 0 wi) l2)
      generalize wi.setCells g2 0 S.none.cells = wn at *
      clear h2 H2 X
      go_wp2_with fail
      exact bodyPost_ret (results_row2 rfl _ _ g2 25 (S.none.cells).toArray (0, 0) _ rfl HN.out undS rfl (by rw [List.size_toArray, cells_length _ none_dig]; exact size38)) rfl ⟨by rw [HV.out]; rfl, XN.out⟩
    | false =>
      by_cases hr0 : r = ⟨#[]⟩
      · subst hr0
        have CG := Lib.hid (good_any p.1 HD wi)
        cases hg : good p.1 with
        | true =>
          have HV : Hid (parseV s.data.toList = .tuple #[.agg p.1.cells.toArray, .bool true]) := by
            show parseV _ = _
            unfold parseV parse
            rw [HR.out, if_pos ⟨by rw [HST.out]; simp, hg⟩]
          rw [hg] at CG
          clear HR HST HS hg
          go_upto_region 12 with (fail)
          refine wp_region_lit ?_
          repeat (first | refine wpList_ldr rfl _ _ rfl g5 rfl _ _ _ HY undS (by rw [cells_length p.1 HD]; exact size38) ?_ | go_step)
          refine (CG.out).mono ?_
          rintro e wj ⟨rfl, xg⟩
          have xj := But.of_ext (g := g4) xg
          have hj : True := trivial
          clear xg c0 c1 p0 p1 p2 p3 CG
          have HYn := Lib.hid (HY.out.but xj (by omega))
          have H6n := Lib.hid (H6.out.but xj (by omega))
          have H2n := Lib.hid (H2.out.but xj (by omega))
          have Xn := Lib.hid (X.out.trans_but xj l4)
          have HSn := Lib.hid hj
          clear hj xj HS HY H6 H2 X
          clear wi
          have HS := HSn
          have HY := HYn
          have H6 := H6n
          have H2 := H2n
          have X := Xn
          clear HSn HYn H6n H2n Xn
          generalize wj = wi at *
          clear HS
          rename_i hK
          refine hK _ _ ?_
          go_upto_region 14 with (fail)
          refine wp_region_lit ?_
          have hyo := HY.out
          have h2 := H2.out
          refine wpList_load_row rfl 25 _ rfl g5 rfl 25 (p.1.cells).toArray (0, 0) _ hyo undS rfl (by rw [List.size_toArray, cells_length p.1 HD]; exact size38) ?_
          simp only [Act.put, Act.eval, List.setIfInBounds_toArray, List.set_cons_zero, List.set_cons_succ, Nat.reduceAdd, Array.getD_eq_getD_getElem?, List.getElem?_toArray, List.getElem?_cons_succ, List.getElem?_cons_zero, Option.getD_some]
          refine wpList_store_mid rfl 25 _ _ rfl g2 0 ((p.1).cells).toArray rfl ?_ (h2.there _ (by have e1 := cells_length _ HD; have e2 := cells_length _ none_dig; rw [List.size_toArray]; omega)) (by rw [List.size_toArray, cells_length _ HD]; exact size38) (all_oneCell_toArray (oneS _)) ?_
          · rfl
          simp only [List.toList_toArray]
          simp only [Act.put, Act.eval, List.setIfInBounds_toArray, List.set_cons_zero, List.set_cons_succ, Nat.reduceAdd, Array.getD_eq_getD_getElem?, List.getElem?_toArray, List.getElem?_cons_succ, List.getElem?_cons_zero, Option.getD_some]
          have HN := Lib.hid (h2.setAll p.1.cells (by rw [cells_length p.1 HD, cells_length _ none_dig]))
          have XN := Lib.hid (X.out.trans_but (But.setCells g2 p.1.cells 0 wi) l2)
          generalize wi.setCells g2 0 p.1.cells = wn at *
          clear h2 hyo H2 X HY
          go_wp2_with fail
          exact bodyPost_ret (results_row2 rfl _ _ g2 25 (p.1.cells).toArray (0, 0) _ rfl HN.out undS rfl (by rw [List.size_toArray, cells_length _ HD]; exact size38)) rfl ⟨by rw [HV.out]; rfl, XN.out⟩
        | false =>
          have HV : Hid (parseV s.data.toList = .tuple #[.agg S.none.cells.toArray, .bool false]) := by
            show parseV _ = _
            unfold parseV parse
            rw [HR.out, if_neg (by rw [hg]; simp)]
          rw [hg] at CG
          clear HR HST HS hg
          go_upto_region 12 with (fail)
          refine wp_region_lit ?_
          repeat (first | refine wpList_ldr rfl _ _ rfl g5 rfl _ _ _ HY undS (by rw [cells_length p.1 HD]; exact size38) ?_ | go_step)
          refine (CG.out).mono ?_
          rintro e wj ⟨rfl, xg⟩
          have xj := But.of_ext (g := g4) xg
          have hj : True := trivial
          clear xg c0 c1 p0 p1 p2 p3 CG
          have HYn := Lib.hid (HY.out.but xj (by omega))
          have H6n := Lib.hid (H6.out.but xj (by omega))
          have H2n := Lib.hid (H2.out.but xj (by omega))
          have Xn := Lib.hid (X.out.trans_but xj l4)
          have HSn := Lib.hid hj
          clear hj xj HS HY H6 H2 X
          clear wi
          have HS := HSn
          have HY := HYn
          have H6 := H6n
          have H2 := H2n
          have X := Xn
          clear HSn HYn H6n H2n Xn
          generalize wj = wi at *
          clear HS
          rename_i hK
          refine hK _ _ ?_
          go_upto_region 13 with (fail)
          refine wp_region_lit ?_
          refine wpList_val rfl (.agg S.none.cells.toArray) (by as_aux_lemma => kernel_rfl) ?_
          simp only [Act.put, Act.eval, List.setIfInBounds_toArray, List.set_cons_zero, List.set_cons_succ, Nat.reduceAdd, Array.getD_eq_getD_getElem?, List.getElem?_toArray, List.getElem?_cons_succ, List.getElem?_cons_zero, Option.getD_some]
          have h2 := H2.out
          refine wpList_store_mid rfl 25 _ _ rfl g2 0 ((S.none).cells).toArray rfl ?_ (h2.there _ (by have e1 := cells_length _ none_dig; have e2 := cells_length _ none_dig; rw [List.size_toArray]; omega)) (by rw [List.size_toArray, cells_length _ none_dig]; exact size38) (all_oneCell_toArray (oneS _)) ?_
          · rfl
          simp only [List.toList_toArray]
          simp only [Act.put, Act.eval, List.setIfInBounds_toArray, List.set_cons_zero, List.set_cons_succ, Nat.reduceAdd, Array.getD_eq_getD_getElem?, List.getElem?_toArray, List.getElem?_cons_succ, List.getElem?_cons_zero, Option.getD_some]
          have HN := Lib.hid (h2.setAll S.none.cells rfl)
          have XN := Lib.hid (X.out.trans_but (But.setCells g2 S.none.cells 0 wi) l2)
          generalize wi.setCells g2 0 S.none.cells = wn at *
          clear h2 H2 X
          go_wp2_with fail
          exact bodyPost_ret (results_row2 rfl _ _ g2 25 (S.none.cells).toArray (0, 0) _ rfl HN.out undS rfl (by rw [List.size_toArray, cells_length _ none_dig]; exact size38)) rfl ⟨by rw [HV.out]; rfl, XN.out⟩
      · have HV : Hid (parseV s.data.toList = .tuple #[.agg S.none.cells.toArray, .bool false]) := by
          show parseV _ = _
          unfold parseV parse
          rw [HR.out, if_neg (by
            rw [HST.out]
            simp only [Bool.false_eq_true, if_false, Option.some.injEq]
            intro hh
            exact hr0 (ba_ext (by rw [hh.1])))]
        have dne : (r.toList == []) = false := by
          rw [ByteArray.toList_eq, Bool.eq_false_iff, ne_eq, beq_iff_eq]
          intro e
          exact hr0 (ba_ext e)
        clear HR HST HS hr0
        go_upto_region 13 with (fail)
        refine wp_region_lit ?_
        refine wpList_val rfl (.agg S.none.cells.toArray) (by as_aux_lemma => kernel_rfl) ?_
        simp only [Act.put, Act.eval, List.setIfInBounds_toArray, List.set_cons_zero, List.set_cons_succ, Nat.reduceAdd, Array.getD_eq_getD_getElem?, List.getElem?_toArray, List.getElem?_cons_succ, List.getElem?_cons_zero, Option.getD_some]
        have h2 := H2.out
        refine wpList_store_mid rfl 25 _ _ rfl g2 0 ((S.none).cells).toArray rfl ?_ (h2.there _ (by have e1 := cells_length _ none_dig; have e2 := cells_length _ none_dig; rw [List.size_toArray]; omega)) (by rw [List.size_toArray, cells_length _ none_dig]; exact size38) (all_oneCell_toArray (oneS _)) ?_
        · rfl
        simp only [List.toList_toArray]
        simp only [Act.put, Act.eval, List.setIfInBounds_toArray, List.set_cons_zero, List.set_cons_succ, Nat.reduceAdd, Array.getD_eq_getD_getElem?, List.getElem?_toArray, List.getElem?_cons_succ, List.getElem?_cons_zero, Option.getD_some]
        have HN := Lib.hid (h2.setAll S.none.cells rfl)
        have XN := Lib.hid (X.out.trans_but (But.setCells g2 S.none.cells 0 wi) l2)
        generalize wi.setCells g2 0 S.none.cells = wn at *
        clear h2 H2 X
        go_wp2_with fail
        exact bodyPost_ret (results_row2 rfl _ _ g2 25 (S.none.cells).toArray (0, 0) _ rfl HN.out undS rfl (by rw [List.size_toArray, cells_length _ none_dig]; exact size38)) rfl ⟨by rw [HV.out]; rfl, XN.out⟩
    -- F}
end Slp
end Go.Proofs.YtbeghdoffiidoaaDoor

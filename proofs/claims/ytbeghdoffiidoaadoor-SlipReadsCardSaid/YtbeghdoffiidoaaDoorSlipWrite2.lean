/- The walk of slip.Write, of a slip that can be. -/
import Derived.Test.YtbeghdoffiidoaaDoorSlipWrite
set_option linter.unusedSimpArgs false
set_option linter.unusedVariables false
set_option linter.unusedSectionVars false
namespace Go.Proofs.YtbeghdoffiidoaaDoor
open Go.RowKit
namespace Slp
open Bld (Is be8 len1)
theorem Is_drew {B b : Nat} {l : List UInt8} {w : World} (h : Is B b l w) : Is B b l w.drew := h
theorem kind_byte {k : Int} (h : known k = true) : k % 256 = ((UInt8.ofNat k.toNat).toNat : Int) ∧ k % 256 = k := by
  unfold known at h
  rw [decide_eq_true_iff] at h
  rcases (by omega : k = 1 ∨ k = 2 ∨ k = 3 ∨ k = 4 ∨ k = 5 ∨ k = 6) with rfl | rfl | rfl | rfl | rfl | rfl <;> decide
theorem be8_len (n : Nat) : (be8 n).length = 8 := by simp [be8]
set_option maxRecDepth 100000 in
set_option maxHeartbeats 1000000 in
theorem write_ok (x : S) (hx : x.dig.length = 32) (hg : good x = true) (w : World) (hT : Crc.Tab w) :
    Calls Tryd.prog 9 #[.agg x.cells.toArray] w fun e w' => e = .returned (.tuple #[.string ⟨(frame (body x)).toArray⟩, .int .i64 0]) ∧ Reg.Ext w w' := by
  have HT := Lib.hid hT
  obtain ⟨hk, hnm, ht100, hs0, hs1, ha0, ha1⟩ := good_bounds hg
  have hb1 := boxS w x
  have hx1 := Reg.Ext.alloc w (Obj.cells x.cells.toArray 25)
  have CG := Lib.hid (good_any x hx)
  rw [hg] at CG
  have CO := Lib.hid (of_any x.k)
  rw [hk] at CO
  have hkb := kind_byte hk
  have hfk := flds_known hk
  have HBD := Lib.hid (show body x = body x from rfl)
  go_enter Tryd.func9, Tryd.ntmps9
  go_upto_region 1 with (fail)
  generalize w.alloc (Obj.cells x.cells.toArray 25) = w1 at *
  generalize hg1 : w.heap.size = g1 at *
  refine wp_region_lit ?_
  refine wpList_load_row rfl 25 _ rfl g1 rfl 25 x.cells.toArray (0, 0) _ hb1 undS rfl (by rw [List.size_toArray, cells_length x hx]; exact size38) ?_
  simp only [Act.put, Act.eval, List.setIfInBounds_toArray, List.set_cons_zero, List.set_cons_succ, Nat.reduceAdd, Array.getD_eq_getD_getElem?, List.getElem?_toArray, List.getElem?_cons_succ, List.getElem?_cons_zero, Option.getD_some]
  have H1 := Lib.hid hb1
  have X := Lib.hid hx1
  clear hb1 hx1 hT hg
  go_wp2_with fail
  refine (CG.out _).mono ?_
  rintro e w2 ⟨rfl, x2⟩
  have X := Lib.hid (X.out.trans x2)
  have H1 := Lib.hid (H1.out.ext x2)
  have c0 : w2.cell? ⟨g1, 0, none⟩ = some (.int .i64 x.k) := H1.out.cell 0
  clear x2 CG
  go_wp2_with fail
  refine (CO.out _).mono ?_
  rintro e w3 ⟨rfl, x3⟩
  have X := Lib.hid (X.out.trans x3)
  have H1 := Lib.hid (H1.out.ext x3)
  have c0 : w3.cell? ⟨g1, 0, none⟩ = some (.int .i64 x.k) := H1.out.cell 0
  clear x3 CO
  obtain ⟨f, hf⟩ : ∃ f, f = flds x.k := ⟨_, rfl⟩
  rw [← hf] at hfk hnm ⊢
  have HFL := Lib.hid hf
  clear hf
  rcases hfk with rfl | rfl | rfl | rfl | rfl
  · have hnm' := hnm rfl
    rw [show (F.cells ⟨true, true, true, true⟩) = [.bool true, .bool true, .bool true, .bool true] from rfl]
    go_wp2_with fail
    have hb4 : Blk (w3.alloc (Obj.cells #[Value.bool true, Value.bool true, Value.bool true, Value.bool true] 47)) w3.heap.size 47 [.bool true, .bool true, .bool true, .bool true] := Blk.new w3 47 #[Value.bool true, Value.bool true, Value.bool true, Value.bool true]
    have hx4 := Reg.Ext.alloc w3 (Obj.cells #[Value.bool true, Value.bool true, Value.bool true, Value.bool true] 47)
    have hs4 : (w3.alloc (Obj.cells #[Value.bool true, Value.bool true, Value.bool true, Value.bool true] 47)).heap.size = w3.heap.size + 1 := Array.size_push _
    have lt1 := H1.out.lt
    have ltx := X.out.size
    generalize w3.alloc (Obj.cells #[Value.bool true, Value.bool true, Value.bool true, Value.bool true] 47) = w4 at *
    have hp := Lib.fresh_isBuilder 55 5 w4
    have hx5 := Reg.Ext.alloc w4 (Obj.cells #[Value.pointer none, Value.slice none 0 0] 55)
    generalize w4.alloc (Obj.cells #[Value.pointer none, Value.slice none 0 0] 55) = w5 at *
    rw [hs4] at hp
    have hbw := hx5.size
    rw [hs4] at hbw
    have H1 := Lib.hid ((H1.out.ext hx4).ext hx5)
    have H4 := Lib.hid (hb4.ext hx5)
    have X := Lib.hid ((X.out.trans hx4).trans hx5)
    have c0 : w5.cell? ⟨g1, 0, none⟩ = some (.int .i64 x.k) := H1.out.cell 0
    clear hb4 hx4 hs4 hx5
    generalize hg4 : w3.heap.size = g4 at *
    generalize hg6 : g4 + 1 = g6 at *
    have l16 : g1 < g6 := by omega
    have l46 : g4 < g6 := by omega
    have lw6 : w.heap.size ≤ g6 := by omega
    clear hg4 hg6 lt1 ltx
    have hkm := hkb.2
    go_still_tail 6, (by kernel_rfl)
    change wpList _ _ _ _ _ w5.drew
    repeat go_step
    refine ((show Is g6 g6 [] w5.drew from hp).byte (UInt8.ofNat x.k.toNat) _ (by first | exact hkb.1 | (rw [hkb.2]; exact hkb.2.symm.trans hkb.1) | (rw [← hkb.1, hkb.2])) (by simp) hbw).mono ?_
    rintro e wi ⟨rfl, hj, bj⟩
    have HP := Lib.hid hj
    have HW : Hid (Below g6 w5 wi) := ((Below.refl g6 w5).drew).trans bj
    clear hj bj hp hkm c0
    rw [List.nil_append] at HP
    have hX := H1.out.below HW.out l16
    have hF := H4.out.below HW.out l46
    have p0 : wi.cell? ⟨g4, 0, none⟩ = some (.bool true) := hF.cell 0
    have p1 : wi.cell? ⟨g4, 1, none⟩ = some (.bool true) := hF.cell 1
    have p2 : wi.cell? ⟨g4, 2, none⟩ = some (.bool true) := hF.cell 2
    have p3 : wi.cell? ⟨g4, 3, none⟩ = some (.bool true) := hF.cell 3
    have q1 : wi.cell? ⟨g1, 1, none⟩ = some (.string x.repo) := hX.cell 1
    have q2 : wi.cell? ⟨g1, 2, none⟩ = some (.string x.tag) := hX.cell 2
    have q35 : wi.cell? ⟨g1, 35, none⟩ = some (.string x.typ) := by rw [hX.cell, at35 x hx]
    have q36 : wi.cell? ⟨g1, 36, none⟩ = some (.int .i64 x.size) := by rw [hX.cell, at36 x hx]
    have q37 : wi.cell? ⟨g1, 37, none⟩ = some (.int .i64 x.at_) := by rw [hX.cell, at37 x hx]
    have hB := HW.out.size
    clear hX hF
    go_wp2_with fail
    refine (Bld.text_any g6 g6 _ x.repo wi HP.out (by simp only [List.length_append, List.length_cons, List.length_nil, len_data, hx, be8_len]; omega) (Nat.le_trans hbw hB)).mono ?_
    rintro e wj ⟨rfl, hj, bj⟩
    have HPn := Lib.hid hj
    have HWn := Lib.hid (HW.out.trans bj)
    clear hj bj HP HW p0 p1 p2 p3 q1 q2 q35 q36 q37 hB
    clear wi
    have HP := HPn
    have HW := HWn
    clear HPn HWn
    generalize wj = wi at *
    have hX := H1.out.below HW.out l16
    have hF := H4.out.below HW.out l46
    have p0 : wi.cell? ⟨g4, 0, none⟩ = some (.bool true) := hF.cell 0
    have p1 : wi.cell? ⟨g4, 1, none⟩ = some (.bool true) := hF.cell 1
    have p2 : wi.cell? ⟨g4, 2, none⟩ = some (.bool true) := hF.cell 2
    have p3 : wi.cell? ⟨g4, 3, none⟩ = some (.bool true) := hF.cell 3
    have q1 : wi.cell? ⟨g1, 1, none⟩ = some (.string x.repo) := hX.cell 1
    have q2 : wi.cell? ⟨g1, 2, none⟩ = some (.string x.tag) := hX.cell 2
    have q35 : wi.cell? ⟨g1, 35, none⟩ = some (.string x.typ) := by rw [hX.cell, at35 x hx]
    have q36 : wi.cell? ⟨g1, 36, none⟩ = some (.int .i64 x.size) := by rw [hX.cell, at36 x hx]
    have q37 : wi.cell? ⟨g1, 37, none⟩ = some (.int .i64 x.at_) := by rw [hX.cell, at37 x hx]
    have hB := HW.out.size
    clear hX hF
    go_wp2_with fail
    refine (Bld.text_any g6 g6 _ x.tag wi HP.out (by simp only [List.length_append, List.length_cons, List.length_nil, len_data, hx, be8_len]; omega) (Nat.le_trans hbw hB)).mono ?_
    rintro e wj ⟨rfl, hj, bj⟩
    have HPn := Lib.hid hj
    have HWn := Lib.hid (HW.out.trans bj)
    clear hj bj HP HW p0 p1 p2 p3 q1 q2 q35 q36 q37 hB
    clear wi
    have HP := HPn
    have HW := HWn
    clear HPn HWn
    generalize wj = wi at *
    have hX := H1.out.below HW.out l16
    have hF := H4.out.below HW.out l46
    have p0 : wi.cell? ⟨g4, 0, none⟩ = some (.bool true) := hF.cell 0
    have p1 : wi.cell? ⟨g4, 1, none⟩ = some (.bool true) := hF.cell 1
    have p2 : wi.cell? ⟨g4, 2, none⟩ = some (.bool true) := hF.cell 2
    have p3 : wi.cell? ⟨g4, 3, none⟩ = some (.bool true) := hF.cell 3
    have q1 : wi.cell? ⟨g1, 1, none⟩ = some (.string x.repo) := hX.cell 1
    have q2 : wi.cell? ⟨g1, 2, none⟩ = some (.string x.tag) := hX.cell 2
    have q35 : wi.cell? ⟨g1, 35, none⟩ = some (.string x.typ) := by rw [hX.cell, at35 x hx]
    have q36 : wi.cell? ⟨g1, 36, none⟩ = some (.int .i64 x.size) := by rw [hX.cell, at36 x hx]
    have q37 : wi.cell? ⟨g1, 37, none⟩ = some (.int .i64 x.at_) := by rw [hX.cell, at37 x hx]
    have hB := HW.out.size
    clear hX hF
    have hcv : (convert 42 9 (.slice (some ⟨g1, 3, none⟩) 32 32)).run Tryd.prog wi.drew = .ok (.string ⟨x.dig.toArray⟩) wi.drew := by
      refine conv_bytes wi.drew 42 9 5 Tryd.underlying42 Tryd.underlying5 Tryd.underlying9 g1 3 32 32 x.dig hx ?_
      intro j hj
      exact range_dig (H1.out.below HW.out l16) j (byteV x.dig[j]) (by rw [List.getElem?_map, List.getElem?_eq_getElem hj]; rfl)
    go_wp2_with fail
    have hal : Tryd.prog.arrayLen 23 = 32 := by as_aux_lemma => kernel_rfl
    go_still_tail 6, (by kernel_rfl)
    change wpList _ _ _ _ _ wi.drew
    clear hcv hal
    repeat go_step
    refine ((Is_drew HP.out).str ⟨x.dig.toArray⟩ (by rw [siz]; simp only [List.length_append, List.length_cons, List.length_nil, len_data, hx, be8_len]; omega) (Nat.le_trans hbw hB)).mono ?_
    rintro e wj ⟨rfl, hj, bj⟩
    rw [lst x.dig] at hj
    have HPn := Lib.hid hj
    have HWn := Lib.hid ((HW.out.drew).trans bj)
    clear hj bj HP HW p0 p1 p2 p3 q1 q2 q35 q36 q37 hB
    clear wi
    have HP := HPn
    have HW := HWn
    clear HPn HWn
    generalize wj = wi at *
    have hX := H1.out.below HW.out l16
    have hF := H4.out.below HW.out l46
    have p0 : wi.cell? ⟨g4, 0, none⟩ = some (.bool true) := hF.cell 0
    have p1 : wi.cell? ⟨g4, 1, none⟩ = some (.bool true) := hF.cell 1
    have p2 : wi.cell? ⟨g4, 2, none⟩ = some (.bool true) := hF.cell 2
    have p3 : wi.cell? ⟨g4, 3, none⟩ = some (.bool true) := hF.cell 3
    have q1 : wi.cell? ⟨g1, 1, none⟩ = some (.string x.repo) := hX.cell 1
    have q2 : wi.cell? ⟨g1, 2, none⟩ = some (.string x.tag) := hX.cell 2
    have q35 : wi.cell? ⟨g1, 35, none⟩ = some (.string x.typ) := by rw [hX.cell, at35 x hx]
    have q36 : wi.cell? ⟨g1, 36, none⟩ = some (.int .i64 x.size) := by rw [hX.cell, at36 x hx]
    have q37 : wi.cell? ⟨g1, 37, none⟩ = some (.int .i64 x.at_) := by rw [hX.cell, at37 x hx]
    have hB := HW.out.size
    clear hX hF
    go_wp2_with fail
    refine (Bld.text_any g6 g6 _ x.typ wi HP.out (by simp only [List.length_append, List.length_cons, List.length_nil, len_data, hx, be8_len]; omega) (Nat.le_trans hbw hB)).mono ?_
    rintro e wj ⟨rfl, hj, bj⟩
    have HPn := Lib.hid hj
    have HWn := Lib.hid (HW.out.trans bj)
    clear hj bj HP HW p0 p1 p2 p3 q1 q2 q35 q36 q37 hB
    clear wi
    have HP := HPn
    have HW := HWn
    clear HPn HWn
    generalize wj = wi at *
    have hX := H1.out.below HW.out l16
    have hF := H4.out.below HW.out l46
    have p0 : wi.cell? ⟨g4, 0, none⟩ = some (.bool true) := hF.cell 0
    have p1 : wi.cell? ⟨g4, 1, none⟩ = some (.bool true) := hF.cell 1
    have p2 : wi.cell? ⟨g4, 2, none⟩ = some (.bool true) := hF.cell 2
    have p3 : wi.cell? ⟨g4, 3, none⟩ = some (.bool true) := hF.cell 3
    have q1 : wi.cell? ⟨g1, 1, none⟩ = some (.string x.repo) := hX.cell 1
    have q2 : wi.cell? ⟨g1, 2, none⟩ = some (.string x.tag) := hX.cell 2
    have q35 : wi.cell? ⟨g1, 35, none⟩ = some (.string x.typ) := by rw [hX.cell, at35 x hx]
    have q36 : wi.cell? ⟨g1, 36, none⟩ = some (.int .i64 x.size) := by rw [hX.cell, at36 x hx]
    have q37 : wi.cell? ⟨g1, 37, none⟩ = some (.int .i64 x.at_) := by rw [hX.cell, at37 x hx]
    have hB := HW.out.size
    clear hX hF
    obtain ⟨nn, hnn⟩ : ∃ nn : Nat, x.size = (nn : Int) := ⟨(x.size).toNat, by omega⟩
    rw [hnn] at q36
    go_wp2_with fail
    refine (Bld.number_any g6 g6 _ nn wi HP.out (by omega) (by simp only [List.length_append, List.length_cons, List.length_nil, len_data, hx, be8_len]; omega) (Nat.le_trans hbw hB)).mono ?_
    rintro e wj ⟨rfl, hj, bj⟩
    rw [show be8 nn = be8 (x.size).toNat by rw [hnn]; rfl] at hj
    have HPn := Lib.hid hj
    have HWn := Lib.hid (HW.out.trans bj)
    clear hj bj HP HW p0 p1 p2 p3 q1 q2 q35 q36 q37 hB hnn
    clear wi
    have HP := HPn
    have HW := HWn
    clear HPn HWn
    generalize wj = wi at *
    have hX := H1.out.below HW.out l16
    have hF := H4.out.below HW.out l46
    have p0 : wi.cell? ⟨g4, 0, none⟩ = some (.bool true) := hF.cell 0
    have p1 : wi.cell? ⟨g4, 1, none⟩ = some (.bool true) := hF.cell 1
    have p2 : wi.cell? ⟨g4, 2, none⟩ = some (.bool true) := hF.cell 2
    have p3 : wi.cell? ⟨g4, 3, none⟩ = some (.bool true) := hF.cell 3
    have q1 : wi.cell? ⟨g1, 1, none⟩ = some (.string x.repo) := hX.cell 1
    have q2 : wi.cell? ⟨g1, 2, none⟩ = some (.string x.tag) := hX.cell 2
    have q35 : wi.cell? ⟨g1, 35, none⟩ = some (.string x.typ) := by rw [hX.cell, at35 x hx]
    have q36 : wi.cell? ⟨g1, 36, none⟩ = some (.int .i64 x.size) := by rw [hX.cell, at36 x hx]
    have q37 : wi.cell? ⟨g1, 37, none⟩ = some (.int .i64 x.at_) := by rw [hX.cell, at37 x hx]
    have hB := HW.out.size
    clear hX hF
    obtain ⟨nn, hnn⟩ : ∃ nn : Nat, x.at_ = (nn : Int) := ⟨(x.at_).toNat, by omega⟩
    rw [hnn] at q37
    go_wp2_with fail
    refine (Bld.number_any g6 g6 _ nn wi HP.out (by omega) (by simp only [List.length_append, List.length_cons, List.length_nil, len_data, hx, be8_len]; omega) (Nat.le_trans hbw hB)).mono ?_
    rintro e wj ⟨rfl, hj, bj⟩
    rw [show be8 nn = be8 (x.at_).toNat by rw [hnn]; rfl] at hj
    have HPn := Lib.hid hj
    have HWn := Lib.hid (HW.out.trans bj)
    clear hj bj HP HW p0 p1 p2 p3 q1 q2 q35 q36 q37 hB hnn
    clear wi
    have HP := HPn
    have HW := HWn
    clear HPn HWn
    generalize wj = wi at *
    have hX := H1.out.below HW.out l16
    have hF := H4.out.below HW.out l46
    have p0 : wi.cell? ⟨g4, 0, none⟩ = some (.bool true) := hF.cell 0
    have p1 : wi.cell? ⟨g4, 1, none⟩ = some (.bool true) := hF.cell 1
    have p2 : wi.cell? ⟨g4, 2, none⟩ = some (.bool true) := hF.cell 2
    have p3 : wi.cell? ⟨g4, 3, none⟩ = some (.bool true) := hF.cell 3
    have q1 : wi.cell? ⟨g1, 1, none⟩ = some (.string x.repo) := hX.cell 1
    have q2 : wi.cell? ⟨g1, 2, none⟩ = some (.string x.tag) := hX.cell 2
    have q35 : wi.cell? ⟨g1, 35, none⟩ = some (.string x.typ) := by rw [hX.cell, at35 x hx]
    have q36 : wi.cell? ⟨g1, 36, none⟩ = some (.int .i64 x.size) := by rw [hX.cell, at36 x hx]
    have q37 : wi.cell? ⟨g1, 37, none⟩ = some (.int .i64 x.at_) := by rw [hX.cell, at37 x hx]
    have hB := HW.out.size
    clear hX hF
    go_wp2_with fail
    refine (HP.out.out (by simp)).mono ?_
    rintro e wj ⟨rfl, bj⟩
    have XJ := Lib.hid (Below.trans X.out (Below.mono (HW.out.trans bj) lw6))
    clear bj p0 p1 p2 p3 q1 q2 q35 q36 q37 hB HW HP H1 H4 X
    have hT := HT.out.below XJ.out
    have hbody : body x = (UInt8.ofNat x.k.toNat :: len1 x.repo :: (x.repo.data.toList ++ len1 x.tag :: (x.tag.data.toList ++ (x.dig ++ len1 x.typ :: (x.typ.data.toList ++ (be8 x.size.toNat ++ be8 x.at_.toNat)))))) := by unfold body; rw [← HFL.out]; simp
    have CF : Hid (Calls Tryd.prog 23 #[.string ⟨((UInt8.ofNat x.k.toNat :: len1 x.repo :: (x.repo.data.toList ++ len1 x.tag :: (x.tag.data.toList ++ (x.dig ++ len1 x.typ :: (x.typ.data.toList ++ (be8 x.size.toNat ++ be8 x.at_.toNat))))))).toArray⟩] wj fun e w' => e = .returned (.string ⟨(frame (body x)).toArray⟩) ∧ Reg.Ext wj w') := by
      have h := framed_any ⟨((UInt8.ofNat x.k.toNat :: len1 x.repo :: (x.repo.data.toList ++ len1 x.tag :: (x.tag.data.toList ++ (x.dig ++ len1 x.typ :: (x.typ.data.toList ++ (be8 x.size.toNat ++ be8 x.at_.toNat))))))).toArray⟩ wj (by rw [siz]; simp only [List.length_append, List.length_cons, List.length_nil, len_data, hx, be8_len]; omega) hT
      rw [lst] at h
      rw [hbody]
      exact h
    clear hbody hT
    go_wp2_with fail
    refine (CF.out).mono ?_
    rintro e wk ⟨rfl, xk⟩
    have XK := Lib.hid ((show Reg.Ext w wj from XJ.out).trans xk)
    clear xk CF XJ
    go_wp2_with fail
    go_ret2
    exact ⟨rfl, XK.out⟩
  · have hnm' := hnm rfl
    rw [show (F.cells ⟨true, false, false, true⟩) = [.bool true, .bool false, .bool false, .bool true] from rfl]
    go_wp2_with fail
    have hb4 : Blk (w3.alloc (Obj.cells #[Value.bool true, Value.bool false, Value.bool false, Value.bool true] 47)) w3.heap.size 47 [.bool true, .bool false, .bool false, .bool true] := Blk.new w3 47 #[Value.bool true, Value.bool false, Value.bool false, Value.bool true]
    have hx4 := Reg.Ext.alloc w3 (Obj.cells #[Value.bool true, Value.bool false, Value.bool false, Value.bool true] 47)
    have hs4 : (w3.alloc (Obj.cells #[Value.bool true, Value.bool false, Value.bool false, Value.bool true] 47)).heap.size = w3.heap.size + 1 := Array.size_push _
    have lt1 := H1.out.lt
    have ltx := X.out.size
    generalize w3.alloc (Obj.cells #[Value.bool true, Value.bool false, Value.bool false, Value.bool true] 47) = w4 at *
    have hp := Lib.fresh_isBuilder 55 5 w4
    have hx5 := Reg.Ext.alloc w4 (Obj.cells #[Value.pointer none, Value.slice none 0 0] 55)
    generalize w4.alloc (Obj.cells #[Value.pointer none, Value.slice none 0 0] 55) = w5 at *
    rw [hs4] at hp
    have hbw := hx5.size
    rw [hs4] at hbw
    have H1 := Lib.hid ((H1.out.ext hx4).ext hx5)
    have H4 := Lib.hid (hb4.ext hx5)
    have X := Lib.hid ((X.out.trans hx4).trans hx5)
    have c0 : w5.cell? ⟨g1, 0, none⟩ = some (.int .i64 x.k) := H1.out.cell 0
    clear hb4 hx4 hs4 hx5
    generalize hg4 : w3.heap.size = g4 at *
    generalize hg6 : g4 + 1 = g6 at *
    have l16 : g1 < g6 := by omega
    have l46 : g4 < g6 := by omega
    have lw6 : w.heap.size ≤ g6 := by omega
    clear hg4 hg6 lt1 ltx
    have hkm := hkb.2
    go_still_tail 6, (by kernel_rfl)
    change wpList _ _ _ _ _ w5.drew
    repeat go_step
    refine ((show Is g6 g6 [] w5.drew from hp).byte (UInt8.ofNat x.k.toNat) _ (by first | exact hkb.1 | (rw [hkb.2]; exact hkb.2.symm.trans hkb.1) | (rw [← hkb.1, hkb.2])) (by simp) hbw).mono ?_
    rintro e wi ⟨rfl, hj, bj⟩
    have HP := Lib.hid hj
    have HW : Hid (Below g6 w5 wi) := ((Below.refl g6 w5).drew).trans bj
    clear hj bj hp hkm c0
    rw [List.nil_append] at HP
    have hX := H1.out.below HW.out l16
    have hF := H4.out.below HW.out l46
    have p0 : wi.cell? ⟨g4, 0, none⟩ = some (.bool true) := hF.cell 0
    have p1 : wi.cell? ⟨g4, 1, none⟩ = some (.bool false) := hF.cell 1
    have p2 : wi.cell? ⟨g4, 2, none⟩ = some (.bool false) := hF.cell 2
    have p3 : wi.cell? ⟨g4, 3, none⟩ = some (.bool true) := hF.cell 3
    have q1 : wi.cell? ⟨g1, 1, none⟩ = some (.string x.repo) := hX.cell 1
    have q2 : wi.cell? ⟨g1, 2, none⟩ = some (.string x.tag) := hX.cell 2
    have q35 : wi.cell? ⟨g1, 35, none⟩ = some (.string x.typ) := by rw [hX.cell, at35 x hx]
    have q36 : wi.cell? ⟨g1, 36, none⟩ = some (.int .i64 x.size) := by rw [hX.cell, at36 x hx]
    have q37 : wi.cell? ⟨g1, 37, none⟩ = some (.int .i64 x.at_) := by rw [hX.cell, at37 x hx]
    have hB := HW.out.size
    clear hX hF
    go_wp2_with fail
    refine (Bld.text_any g6 g6 _ x.repo wi HP.out (by simp only [List.length_append, List.length_cons, List.length_nil, len_data, hx, be8_len]; omega) (Nat.le_trans hbw hB)).mono ?_
    rintro e wj ⟨rfl, hj, bj⟩
    have HPn := Lib.hid hj
    have HWn := Lib.hid (HW.out.trans bj)
    clear hj bj HP HW p0 p1 p2 p3 q1 q2 q35 q36 q37 hB
    clear wi
    have HP := HPn
    have HW := HWn
    clear HPn HWn
    generalize wj = wi at *
    have hX := H1.out.below HW.out l16
    have hF := H4.out.below HW.out l46
    have p0 : wi.cell? ⟨g4, 0, none⟩ = some (.bool true) := hF.cell 0
    have p1 : wi.cell? ⟨g4, 1, none⟩ = some (.bool false) := hF.cell 1
    have p2 : wi.cell? ⟨g4, 2, none⟩ = some (.bool false) := hF.cell 2
    have p3 : wi.cell? ⟨g4, 3, none⟩ = some (.bool true) := hF.cell 3
    have q1 : wi.cell? ⟨g1, 1, none⟩ = some (.string x.repo) := hX.cell 1
    have q2 : wi.cell? ⟨g1, 2, none⟩ = some (.string x.tag) := hX.cell 2
    have q35 : wi.cell? ⟨g1, 35, none⟩ = some (.string x.typ) := by rw [hX.cell, at35 x hx]
    have q36 : wi.cell? ⟨g1, 36, none⟩ = some (.int .i64 x.size) := by rw [hX.cell, at36 x hx]
    have q37 : wi.cell? ⟨g1, 37, none⟩ = some (.int .i64 x.at_) := by rw [hX.cell, at37 x hx]
    have hB := HW.out.size
    clear hX hF
    go_wp2_with fail
    refine (Bld.text_any g6 g6 _ x.tag wi HP.out (by simp only [List.length_append, List.length_cons, List.length_nil, len_data, hx, be8_len]; omega) (Nat.le_trans hbw hB)).mono ?_
    rintro e wj ⟨rfl, hj, bj⟩
    have HPn := Lib.hid hj
    have HWn := Lib.hid (HW.out.trans bj)
    clear hj bj HP HW p0 p1 p2 p3 q1 q2 q35 q36 q37 hB
    clear wi
    have HP := HPn
    have HW := HWn
    clear HPn HWn
    generalize wj = wi at *
    have hX := H1.out.below HW.out l16
    have hF := H4.out.below HW.out l46
    have p0 : wi.cell? ⟨g4, 0, none⟩ = some (.bool true) := hF.cell 0
    have p1 : wi.cell? ⟨g4, 1, none⟩ = some (.bool false) := hF.cell 1
    have p2 : wi.cell? ⟨g4, 2, none⟩ = some (.bool false) := hF.cell 2
    have p3 : wi.cell? ⟨g4, 3, none⟩ = some (.bool true) := hF.cell 3
    have q1 : wi.cell? ⟨g1, 1, none⟩ = some (.string x.repo) := hX.cell 1
    have q2 : wi.cell? ⟨g1, 2, none⟩ = some (.string x.tag) := hX.cell 2
    have q35 : wi.cell? ⟨g1, 35, none⟩ = some (.string x.typ) := by rw [hX.cell, at35 x hx]
    have q36 : wi.cell? ⟨g1, 36, none⟩ = some (.int .i64 x.size) := by rw [hX.cell, at36 x hx]
    have q37 : wi.cell? ⟨g1, 37, none⟩ = some (.int .i64 x.at_) := by rw [hX.cell, at37 x hx]
    have hB := HW.out.size
    clear hX hF
    obtain ⟨nn, hnn⟩ : ∃ nn : Nat, x.at_ = (nn : Int) := ⟨(x.at_).toNat, by omega⟩
    rw [hnn] at q37
    go_wp2_with fail
    refine (Bld.number_any g6 g6 _ nn wi HP.out (by omega) (by simp only [List.length_append, List.length_cons, List.length_nil, len_data, hx, be8_len]; omega) (Nat.le_trans hbw hB)).mono ?_
    rintro e wj ⟨rfl, hj, bj⟩
    rw [show be8 nn = be8 (x.at_).toNat by rw [hnn]; rfl] at hj
    have HPn := Lib.hid hj
    have HWn := Lib.hid (HW.out.trans bj)
    clear hj bj HP HW p0 p1 p2 p3 q1 q2 q35 q36 q37 hB hnn
    clear wi
    have HP := HPn
    have HW := HWn
    clear HPn HWn
    generalize wj = wi at *
    have hX := H1.out.below HW.out l16
    have hF := H4.out.below HW.out l46
    have p0 : wi.cell? ⟨g4, 0, none⟩ = some (.bool true) := hF.cell 0
    have p1 : wi.cell? ⟨g4, 1, none⟩ = some (.bool false) := hF.cell 1
    have p2 : wi.cell? ⟨g4, 2, none⟩ = some (.bool false) := hF.cell 2
    have p3 : wi.cell? ⟨g4, 3, none⟩ = some (.bool true) := hF.cell 3
    have q1 : wi.cell? ⟨g1, 1, none⟩ = some (.string x.repo) := hX.cell 1
    have q2 : wi.cell? ⟨g1, 2, none⟩ = some (.string x.tag) := hX.cell 2
    have q35 : wi.cell? ⟨g1, 35, none⟩ = some (.string x.typ) := by rw [hX.cell, at35 x hx]
    have q36 : wi.cell? ⟨g1, 36, none⟩ = some (.int .i64 x.size) := by rw [hX.cell, at36 x hx]
    have q37 : wi.cell? ⟨g1, 37, none⟩ = some (.int .i64 x.at_) := by rw [hX.cell, at37 x hx]
    have hB := HW.out.size
    clear hX hF
    go_wp2_with fail
    refine (HP.out.out (by simp)).mono ?_
    rintro e wj ⟨rfl, bj⟩
    have XJ := Lib.hid (Below.trans X.out (Below.mono (HW.out.trans bj) lw6))
    clear bj p0 p1 p2 p3 q1 q2 q35 q36 q37 hB HW HP H1 H4 X
    have hT := HT.out.below XJ.out
    have hbody : body x = (UInt8.ofNat x.k.toNat :: len1 x.repo :: (x.repo.data.toList ++ len1 x.tag :: (x.tag.data.toList ++ be8 x.at_.toNat))) := by unfold body; rw [← HFL.out]; simp
    have CF : Hid (Calls Tryd.prog 23 #[.string ⟨((UInt8.ofNat x.k.toNat :: len1 x.repo :: (x.repo.data.toList ++ len1 x.tag :: (x.tag.data.toList ++ be8 x.at_.toNat)))).toArray⟩] wj fun e w' => e = .returned (.string ⟨(frame (body x)).toArray⟩) ∧ Reg.Ext wj w') := by
      have h := framed_any ⟨((UInt8.ofNat x.k.toNat :: len1 x.repo :: (x.repo.data.toList ++ len1 x.tag :: (x.tag.data.toList ++ be8 x.at_.toNat)))).toArray⟩ wj (by rw [siz]; simp only [List.length_append, List.length_cons, List.length_nil, len_data, hx, be8_len]; omega) hT
      rw [lst] at h
      rw [hbody]
      exact h
    clear hbody hT
    go_wp2_with fail
    refine (CF.out).mono ?_
    rintro e wk ⟨rfl, xk⟩
    have XK := Lib.hid ((show Reg.Ext w wj from XJ.out).trans xk)
    clear xk CF XJ
    go_wp2_with fail
    go_ret2
    exact ⟨rfl, XK.out⟩
  · have hnm' := hnm rfl
    rw [show (F.cells ⟨true, false, false, false⟩) = [.bool true, .bool false, .bool false, .bool false] from rfl]
    go_wp2_with fail
    have hb4 : Blk (w3.alloc (Obj.cells #[Value.bool true, Value.bool false, Value.bool false, Value.bool false] 47)) w3.heap.size 47 [.bool true, .bool false, .bool false, .bool false] := Blk.new w3 47 #[Value.bool true, Value.bool false, Value.bool false, Value.bool false]
    have hx4 := Reg.Ext.alloc w3 (Obj.cells #[Value.bool true, Value.bool false, Value.bool false, Value.bool false] 47)
    have hs4 : (w3.alloc (Obj.cells #[Value.bool true, Value.bool false, Value.bool false, Value.bool false] 47)).heap.size = w3.heap.size + 1 := Array.size_push _
    have lt1 := H1.out.lt
    have ltx := X.out.size
    generalize w3.alloc (Obj.cells #[Value.bool true, Value.bool false, Value.bool false, Value.bool false] 47) = w4 at *
    have hp := Lib.fresh_isBuilder 55 5 w4
    have hx5 := Reg.Ext.alloc w4 (Obj.cells #[Value.pointer none, Value.slice none 0 0] 55)
    generalize w4.alloc (Obj.cells #[Value.pointer none, Value.slice none 0 0] 55) = w5 at *
    rw [hs4] at hp
    have hbw := hx5.size
    rw [hs4] at hbw
    have H1 := Lib.hid ((H1.out.ext hx4).ext hx5)
    have H4 := Lib.hid (hb4.ext hx5)
    have X := Lib.hid ((X.out.trans hx4).trans hx5)
    have c0 : w5.cell? ⟨g1, 0, none⟩ = some (.int .i64 x.k) := H1.out.cell 0
    clear hb4 hx4 hs4 hx5
    generalize hg4 : w3.heap.size = g4 at *
    generalize hg6 : g4 + 1 = g6 at *
    have l16 : g1 < g6 := by omega
    have l46 : g4 < g6 := by omega
    have lw6 : w.heap.size ≤ g6 := by omega
    clear hg4 hg6 lt1 ltx
    have hkm := hkb.2
    go_still_tail 6, (by kernel_rfl)
    change wpList _ _ _ _ _ w5.drew
    repeat go_step
    refine ((show Is g6 g6 [] w5.drew from hp).byte (UInt8.ofNat x.k.toNat) _ (by first | exact hkb.1 | (rw [hkb.2]; exact hkb.2.symm.trans hkb.1) | (rw [← hkb.1, hkb.2])) (by simp) hbw).mono ?_
    rintro e wi ⟨rfl, hj, bj⟩
    have HP := Lib.hid hj
    have HW : Hid (Below g6 w5 wi) := ((Below.refl g6 w5).drew).trans bj
    clear hj bj hp hkm c0
    rw [List.nil_append] at HP
    have hX := H1.out.below HW.out l16
    have hF := H4.out.below HW.out l46
    have p0 : wi.cell? ⟨g4, 0, none⟩ = some (.bool true) := hF.cell 0
    have p1 : wi.cell? ⟨g4, 1, none⟩ = some (.bool false) := hF.cell 1
    have p2 : wi.cell? ⟨g4, 2, none⟩ = some (.bool false) := hF.cell 2
    have p3 : wi.cell? ⟨g4, 3, none⟩ = some (.bool false) := hF.cell 3
    have q1 : wi.cell? ⟨g1, 1, none⟩ = some (.string x.repo) := hX.cell 1
    have q2 : wi.cell? ⟨g1, 2, none⟩ = some (.string x.tag) := hX.cell 2
    have q35 : wi.cell? ⟨g1, 35, none⟩ = some (.string x.typ) := by rw [hX.cell, at35 x hx]
    have q36 : wi.cell? ⟨g1, 36, none⟩ = some (.int .i64 x.size) := by rw [hX.cell, at36 x hx]
    have q37 : wi.cell? ⟨g1, 37, none⟩ = some (.int .i64 x.at_) := by rw [hX.cell, at37 x hx]
    have hB := HW.out.size
    clear hX hF
    go_wp2_with fail
    refine (Bld.text_any g6 g6 _ x.repo wi HP.out (by simp only [List.length_append, List.length_cons, List.length_nil, len_data, hx, be8_len]; omega) (Nat.le_trans hbw hB)).mono ?_
    rintro e wj ⟨rfl, hj, bj⟩
    have HPn := Lib.hid hj
    have HWn := Lib.hid (HW.out.trans bj)
    clear hj bj HP HW p0 p1 p2 p3 q1 q2 q35 q36 q37 hB
    clear wi
    have HP := HPn
    have HW := HWn
    clear HPn HWn
    generalize wj = wi at *
    have hX := H1.out.below HW.out l16
    have hF := H4.out.below HW.out l46
    have p0 : wi.cell? ⟨g4, 0, none⟩ = some (.bool true) := hF.cell 0
    have p1 : wi.cell? ⟨g4, 1, none⟩ = some (.bool false) := hF.cell 1
    have p2 : wi.cell? ⟨g4, 2, none⟩ = some (.bool false) := hF.cell 2
    have p3 : wi.cell? ⟨g4, 3, none⟩ = some (.bool false) := hF.cell 3
    have q1 : wi.cell? ⟨g1, 1, none⟩ = some (.string x.repo) := hX.cell 1
    have q2 : wi.cell? ⟨g1, 2, none⟩ = some (.string x.tag) := hX.cell 2
    have q35 : wi.cell? ⟨g1, 35, none⟩ = some (.string x.typ) := by rw [hX.cell, at35 x hx]
    have q36 : wi.cell? ⟨g1, 36, none⟩ = some (.int .i64 x.size) := by rw [hX.cell, at36 x hx]
    have q37 : wi.cell? ⟨g1, 37, none⟩ = some (.int .i64 x.at_) := by rw [hX.cell, at37 x hx]
    have hB := HW.out.size
    clear hX hF
    go_wp2_with fail
    refine (Bld.text_any g6 g6 _ x.tag wi HP.out (by simp only [List.length_append, List.length_cons, List.length_nil, len_data, hx, be8_len]; omega) (Nat.le_trans hbw hB)).mono ?_
    rintro e wj ⟨rfl, hj, bj⟩
    have HPn := Lib.hid hj
    have HWn := Lib.hid (HW.out.trans bj)
    clear hj bj HP HW p0 p1 p2 p3 q1 q2 q35 q36 q37 hB
    clear wi
    have HP := HPn
    have HW := HWn
    clear HPn HWn
    generalize wj = wi at *
    have hX := H1.out.below HW.out l16
    have hF := H4.out.below HW.out l46
    have p0 : wi.cell? ⟨g4, 0, none⟩ = some (.bool true) := hF.cell 0
    have p1 : wi.cell? ⟨g4, 1, none⟩ = some (.bool false) := hF.cell 1
    have p2 : wi.cell? ⟨g4, 2, none⟩ = some (.bool false) := hF.cell 2
    have p3 : wi.cell? ⟨g4, 3, none⟩ = some (.bool false) := hF.cell 3
    have q1 : wi.cell? ⟨g1, 1, none⟩ = some (.string x.repo) := hX.cell 1
    have q2 : wi.cell? ⟨g1, 2, none⟩ = some (.string x.tag) := hX.cell 2
    have q35 : wi.cell? ⟨g1, 35, none⟩ = some (.string x.typ) := by rw [hX.cell, at35 x hx]
    have q36 : wi.cell? ⟨g1, 36, none⟩ = some (.int .i64 x.size) := by rw [hX.cell, at36 x hx]
    have q37 : wi.cell? ⟨g1, 37, none⟩ = some (.int .i64 x.at_) := by rw [hX.cell, at37 x hx]
    have hB := HW.out.size
    clear hX hF
    go_wp2_with fail
    refine (HP.out.out (by simp)).mono ?_
    rintro e wj ⟨rfl, bj⟩
    have XJ := Lib.hid (Below.trans X.out (Below.mono (HW.out.trans bj) lw6))
    clear bj p0 p1 p2 p3 q1 q2 q35 q36 q37 hB HW HP H1 H4 X
    have hT := HT.out.below XJ.out
    have hbody : body x = (UInt8.ofNat x.k.toNat :: len1 x.repo :: (x.repo.data.toList ++ len1 x.tag :: x.tag.data.toList)) := by unfold body; rw [← HFL.out]; simp
    have CF : Hid (Calls Tryd.prog 23 #[.string ⟨((UInt8.ofNat x.k.toNat :: len1 x.repo :: (x.repo.data.toList ++ len1 x.tag :: x.tag.data.toList))).toArray⟩] wj fun e w' => e = .returned (.string ⟨(frame (body x)).toArray⟩) ∧ Reg.Ext wj w') := by
      have h := framed_any ⟨((UInt8.ofNat x.k.toNat :: len1 x.repo :: (x.repo.data.toList ++ len1 x.tag :: x.tag.data.toList))).toArray⟩ wj (by rw [siz]; simp only [List.length_append, List.length_cons, List.length_nil, len_data, hx, be8_len]; omega) hT
      rw [lst] at h
      rw [hbody]
      exact h
    clear hbody hT
    go_wp2_with fail
    refine (CF.out).mono ?_
    rintro e wk ⟨rfl, xk⟩
    have XK := Lib.hid ((show Reg.Ext w wj from XJ.out).trans xk)
    clear xk CF XJ
    go_wp2_with fail
    go_ret2
    exact ⟨rfl, XK.out⟩
  · rw [show (F.cells ⟨false, true, true, false⟩) = [.bool false, .bool true, .bool true, .bool false] from rfl]
    go_wp2_with fail
    have hb4 : Blk (w3.alloc (Obj.cells #[Value.bool false, Value.bool true, Value.bool true, Value.bool false] 47)) w3.heap.size 47 [.bool false, .bool true, .bool true, .bool false] := Blk.new w3 47 #[Value.bool false, Value.bool true, Value.bool true, Value.bool false]
    have hx4 := Reg.Ext.alloc w3 (Obj.cells #[Value.bool false, Value.bool true, Value.bool true, Value.bool false] 47)
    have hs4 : (w3.alloc (Obj.cells #[Value.bool false, Value.bool true, Value.bool true, Value.bool false] 47)).heap.size = w3.heap.size + 1 := Array.size_push _
    have lt1 := H1.out.lt
    have ltx := X.out.size
    generalize w3.alloc (Obj.cells #[Value.bool false, Value.bool true, Value.bool true, Value.bool false] 47) = w4 at *
    have hp := Lib.fresh_isBuilder 55 5 w4
    have hx5 := Reg.Ext.alloc w4 (Obj.cells #[Value.pointer none, Value.slice none 0 0] 55)
    generalize w4.alloc (Obj.cells #[Value.pointer none, Value.slice none 0 0] 55) = w5 at *
    rw [hs4] at hp
    have hbw := hx5.size
    rw [hs4] at hbw
    have H1 := Lib.hid ((H1.out.ext hx4).ext hx5)
    have H4 := Lib.hid (hb4.ext hx5)
    have X := Lib.hid ((X.out.trans hx4).trans hx5)
    have c0 : w5.cell? ⟨g1, 0, none⟩ = some (.int .i64 x.k) := H1.out.cell 0
    clear hb4 hx4 hs4 hx5
    generalize hg4 : w3.heap.size = g4 at *
    generalize hg6 : g4 + 1 = g6 at *
    have l16 : g1 < g6 := by omega
    have l46 : g4 < g6 := by omega
    have lw6 : w.heap.size ≤ g6 := by omega
    clear hg4 hg6 lt1 ltx
    have hkm := hkb.2
    go_still_tail 6, (by kernel_rfl)
    change wpList _ _ _ _ _ w5.drew
    repeat go_step
    refine ((show Is g6 g6 [] w5.drew from hp).byte (UInt8.ofNat x.k.toNat) _ (by first | exact hkb.1 | (rw [hkb.2]; exact hkb.2.symm.trans hkb.1) | (rw [← hkb.1, hkb.2])) (by simp) hbw).mono ?_
    rintro e wi ⟨rfl, hj, bj⟩
    have HP := Lib.hid hj
    have HW : Hid (Below g6 w5 wi) := ((Below.refl g6 w5).drew).trans bj
    clear hj bj hp hkm c0
    rw [List.nil_append] at HP
    have hX := H1.out.below HW.out l16
    have hF := H4.out.below HW.out l46
    have p0 : wi.cell? ⟨g4, 0, none⟩ = some (.bool false) := hF.cell 0
    have p1 : wi.cell? ⟨g4, 1, none⟩ = some (.bool true) := hF.cell 1
    have p2 : wi.cell? ⟨g4, 2, none⟩ = some (.bool true) := hF.cell 2
    have p3 : wi.cell? ⟨g4, 3, none⟩ = some (.bool false) := hF.cell 3
    have q1 : wi.cell? ⟨g1, 1, none⟩ = some (.string x.repo) := hX.cell 1
    have q2 : wi.cell? ⟨g1, 2, none⟩ = some (.string x.tag) := hX.cell 2
    have q35 : wi.cell? ⟨g1, 35, none⟩ = some (.string x.typ) := by rw [hX.cell, at35 x hx]
    have q36 : wi.cell? ⟨g1, 36, none⟩ = some (.int .i64 x.size) := by rw [hX.cell, at36 x hx]
    have q37 : wi.cell? ⟨g1, 37, none⟩ = some (.int .i64 x.at_) := by rw [hX.cell, at37 x hx]
    have hB := HW.out.size
    clear hX hF
    have hcv : (convert 42 9 (.slice (some ⟨g1, 3, none⟩) 32 32)).run Tryd.prog wi.drew = .ok (.string ⟨x.dig.toArray⟩) wi.drew := by
      refine conv_bytes wi.drew 42 9 5 Tryd.underlying42 Tryd.underlying5 Tryd.underlying9 g1 3 32 32 x.dig hx ?_
      intro j hj
      exact range_dig (H1.out.below HW.out l16) j (byteV x.dig[j]) (by rw [List.getElem?_map, List.getElem?_eq_getElem hj]; rfl)
    go_wp2_with fail
    have hal : Tryd.prog.arrayLen 23 = 32 := by as_aux_lemma => kernel_rfl
    go_still_tail 6, (by kernel_rfl)
    change wpList _ _ _ _ _ wi.drew
    clear hcv hal
    repeat go_step
    refine ((Is_drew HP.out).str ⟨x.dig.toArray⟩ (by rw [siz]; simp only [List.length_append, List.length_cons, List.length_nil, len_data, hx, be8_len]; omega) (Nat.le_trans hbw hB)).mono ?_
    rintro e wj ⟨rfl, hj, bj⟩
    rw [lst x.dig] at hj
    have HPn := Lib.hid hj
    have HWn := Lib.hid ((HW.out.drew).trans bj)
    clear hj bj HP HW p0 p1 p2 p3 q1 q2 q35 q36 q37 hB
    clear wi
    have HP := HPn
    have HW := HWn
    clear HPn HWn
    generalize wj = wi at *
    have hX := H1.out.below HW.out l16
    have hF := H4.out.below HW.out l46
    have p0 : wi.cell? ⟨g4, 0, none⟩ = some (.bool false) := hF.cell 0
    have p1 : wi.cell? ⟨g4, 1, none⟩ = some (.bool true) := hF.cell 1
    have p2 : wi.cell? ⟨g4, 2, none⟩ = some (.bool true) := hF.cell 2
    have p3 : wi.cell? ⟨g4, 3, none⟩ = some (.bool false) := hF.cell 3
    have q1 : wi.cell? ⟨g1, 1, none⟩ = some (.string x.repo) := hX.cell 1
    have q2 : wi.cell? ⟨g1, 2, none⟩ = some (.string x.tag) := hX.cell 2
    have q35 : wi.cell? ⟨g1, 35, none⟩ = some (.string x.typ) := by rw [hX.cell, at35 x hx]
    have q36 : wi.cell? ⟨g1, 36, none⟩ = some (.int .i64 x.size) := by rw [hX.cell, at36 x hx]
    have q37 : wi.cell? ⟨g1, 37, none⟩ = some (.int .i64 x.at_) := by rw [hX.cell, at37 x hx]
    have hB := HW.out.size
    clear hX hF
    go_wp2_with fail
    refine (Bld.text_any g6 g6 _ x.typ wi HP.out (by simp only [List.length_append, List.length_cons, List.length_nil, len_data, hx, be8_len]; omega) (Nat.le_trans hbw hB)).mono ?_
    rintro e wj ⟨rfl, hj, bj⟩
    have HPn := Lib.hid hj
    have HWn := Lib.hid (HW.out.trans bj)
    clear hj bj HP HW p0 p1 p2 p3 q1 q2 q35 q36 q37 hB
    clear wi
    have HP := HPn
    have HW := HWn
    clear HPn HWn
    generalize wj = wi at *
    have hX := H1.out.below HW.out l16
    have hF := H4.out.below HW.out l46
    have p0 : wi.cell? ⟨g4, 0, none⟩ = some (.bool false) := hF.cell 0
    have p1 : wi.cell? ⟨g4, 1, none⟩ = some (.bool true) := hF.cell 1
    have p2 : wi.cell? ⟨g4, 2, none⟩ = some (.bool true) := hF.cell 2
    have p3 : wi.cell? ⟨g4, 3, none⟩ = some (.bool false) := hF.cell 3
    have q1 : wi.cell? ⟨g1, 1, none⟩ = some (.string x.repo) := hX.cell 1
    have q2 : wi.cell? ⟨g1, 2, none⟩ = some (.string x.tag) := hX.cell 2
    have q35 : wi.cell? ⟨g1, 35, none⟩ = some (.string x.typ) := by rw [hX.cell, at35 x hx]
    have q36 : wi.cell? ⟨g1, 36, none⟩ = some (.int .i64 x.size) := by rw [hX.cell, at36 x hx]
    have q37 : wi.cell? ⟨g1, 37, none⟩ = some (.int .i64 x.at_) := by rw [hX.cell, at37 x hx]
    have hB := HW.out.size
    clear hX hF
    obtain ⟨nn, hnn⟩ : ∃ nn : Nat, x.size = (nn : Int) := ⟨(x.size).toNat, by omega⟩
    rw [hnn] at q36
    go_wp2_with fail
    refine (Bld.number_any g6 g6 _ nn wi HP.out (by omega) (by simp only [List.length_append, List.length_cons, List.length_nil, len_data, hx, be8_len]; omega) (Nat.le_trans hbw hB)).mono ?_
    rintro e wj ⟨rfl, hj, bj⟩
    rw [show be8 nn = be8 (x.size).toNat by rw [hnn]; rfl] at hj
    have HPn := Lib.hid hj
    have HWn := Lib.hid (HW.out.trans bj)
    clear hj bj HP HW p0 p1 p2 p3 q1 q2 q35 q36 q37 hB hnn
    clear wi
    have HP := HPn
    have HW := HWn
    clear HPn HWn
    generalize wj = wi at *
    have hX := H1.out.below HW.out l16
    have hF := H4.out.below HW.out l46
    have p0 : wi.cell? ⟨g4, 0, none⟩ = some (.bool false) := hF.cell 0
    have p1 : wi.cell? ⟨g4, 1, none⟩ = some (.bool true) := hF.cell 1
    have p2 : wi.cell? ⟨g4, 2, none⟩ = some (.bool true) := hF.cell 2
    have p3 : wi.cell? ⟨g4, 3, none⟩ = some (.bool false) := hF.cell 3
    have q1 : wi.cell? ⟨g1, 1, none⟩ = some (.string x.repo) := hX.cell 1
    have q2 : wi.cell? ⟨g1, 2, none⟩ = some (.string x.tag) := hX.cell 2
    have q35 : wi.cell? ⟨g1, 35, none⟩ = some (.string x.typ) := by rw [hX.cell, at35 x hx]
    have q36 : wi.cell? ⟨g1, 36, none⟩ = some (.int .i64 x.size) := by rw [hX.cell, at36 x hx]
    have q37 : wi.cell? ⟨g1, 37, none⟩ = some (.int .i64 x.at_) := by rw [hX.cell, at37 x hx]
    have hB := HW.out.size
    clear hX hF
    go_wp2_with fail
    refine (HP.out.out (by simp)).mono ?_
    rintro e wj ⟨rfl, bj⟩
    have XJ := Lib.hid (Below.trans X.out (Below.mono (HW.out.trans bj) lw6))
    clear bj p0 p1 p2 p3 q1 q2 q35 q36 q37 hB HW HP H1 H4 X
    have hT := HT.out.below XJ.out
    have hbody : body x = (UInt8.ofNat x.k.toNat :: (x.dig ++ len1 x.typ :: (x.typ.data.toList ++ be8 x.size.toNat))) := by unfold body; rw [← HFL.out]; simp
    have CF : Hid (Calls Tryd.prog 23 #[.string ⟨((UInt8.ofNat x.k.toNat :: (x.dig ++ len1 x.typ :: (x.typ.data.toList ++ be8 x.size.toNat)))).toArray⟩] wj fun e w' => e = .returned (.string ⟨(frame (body x)).toArray⟩) ∧ Reg.Ext wj w') := by
      have h := framed_any ⟨((UInt8.ofNat x.k.toNat :: (x.dig ++ len1 x.typ :: (x.typ.data.toList ++ be8 x.size.toNat)))).toArray⟩ wj (by rw [siz]; simp only [List.length_append, List.length_cons, List.length_nil, len_data, hx, be8_len]; omega) hT
      rw [lst] at h
      rw [hbody]
      exact h
    clear hbody hT
    go_wp2_with fail
    refine (CF.out).mono ?_
    rintro e wk ⟨rfl, xk⟩
    have XK := Lib.hid ((show Reg.Ext w wj from XJ.out).trans xk)
    clear xk CF XJ
    go_wp2_with fail
    go_ret2
    exact ⟨rfl, XK.out⟩
  · rw [show (F.cells ⟨false, true, false, false⟩) = [.bool false, .bool true, .bool false, .bool false] from rfl]
    go_wp2_with fail
    have hb4 : Blk (w3.alloc (Obj.cells #[Value.bool false, Value.bool true, Value.bool false, Value.bool false] 47)) w3.heap.size 47 [.bool false, .bool true, .bool false, .bool false] := Blk.new w3 47 #[Value.bool false, Value.bool true, Value.bool false, Value.bool false]
    have hx4 := Reg.Ext.alloc w3 (Obj.cells #[Value.bool false, Value.bool true, Value.bool false, Value.bool false] 47)
    have hs4 : (w3.alloc (Obj.cells #[Value.bool false, Value.bool true, Value.bool false, Value.bool false] 47)).heap.size = w3.heap.size + 1 := Array.size_push _
    have lt1 := H1.out.lt
    have ltx := X.out.size
    generalize w3.alloc (Obj.cells #[Value.bool false, Value.bool true, Value.bool false, Value.bool false] 47) = w4 at *
    have hp := Lib.fresh_isBuilder 55 5 w4
    have hx5 := Reg.Ext.alloc w4 (Obj.cells #[Value.pointer none, Value.slice none 0 0] 55)
    generalize w4.alloc (Obj.cells #[Value.pointer none, Value.slice none 0 0] 55) = w5 at *
    rw [hs4] at hp
    have hbw := hx5.size
    rw [hs4] at hbw
    have H1 := Lib.hid ((H1.out.ext hx4).ext hx5)
    have H4 := Lib.hid (hb4.ext hx5)
    have X := Lib.hid ((X.out.trans hx4).trans hx5)
    have c0 : w5.cell? ⟨g1, 0, none⟩ = some (.int .i64 x.k) := H1.out.cell 0
    clear hb4 hx4 hs4 hx5
    generalize hg4 : w3.heap.size = g4 at *
    generalize hg6 : g4 + 1 = g6 at *
    have l16 : g1 < g6 := by omega
    have l46 : g4 < g6 := by omega
    have lw6 : w.heap.size ≤ g6 := by omega
    clear hg4 hg6 lt1 ltx
    have hkm := hkb.2
    go_still_tail 6, (by kernel_rfl)
    change wpList _ _ _ _ _ w5.drew
    repeat go_step
    refine ((show Is g6 g6 [] w5.drew from hp).byte (UInt8.ofNat x.k.toNat) _ (by first | exact hkb.1 | (rw [hkb.2]; exact hkb.2.symm.trans hkb.1) | (rw [← hkb.1, hkb.2])) (by simp) hbw).mono ?_
    rintro e wi ⟨rfl, hj, bj⟩
    have HP := Lib.hid hj
    have HW : Hid (Below g6 w5 wi) := ((Below.refl g6 w5).drew).trans bj
    clear hj bj hp hkm c0
    rw [List.nil_append] at HP
    have hX := H1.out.below HW.out l16
    have hF := H4.out.below HW.out l46
    have p0 : wi.cell? ⟨g4, 0, none⟩ = some (.bool false) := hF.cell 0
    have p1 : wi.cell? ⟨g4, 1, none⟩ = some (.bool true) := hF.cell 1
    have p2 : wi.cell? ⟨g4, 2, none⟩ = some (.bool false) := hF.cell 2
    have p3 : wi.cell? ⟨g4, 3, none⟩ = some (.bool false) := hF.cell 3
    have q1 : wi.cell? ⟨g1, 1, none⟩ = some (.string x.repo) := hX.cell 1
    have q2 : wi.cell? ⟨g1, 2, none⟩ = some (.string x.tag) := hX.cell 2
    have q35 : wi.cell? ⟨g1, 35, none⟩ = some (.string x.typ) := by rw [hX.cell, at35 x hx]
    have q36 : wi.cell? ⟨g1, 36, none⟩ = some (.int .i64 x.size) := by rw [hX.cell, at36 x hx]
    have q37 : wi.cell? ⟨g1, 37, none⟩ = some (.int .i64 x.at_) := by rw [hX.cell, at37 x hx]
    have hB := HW.out.size
    clear hX hF
    have hcv : (convert 42 9 (.slice (some ⟨g1, 3, none⟩) 32 32)).run Tryd.prog wi.drew = .ok (.string ⟨x.dig.toArray⟩) wi.drew := by
      refine conv_bytes wi.drew 42 9 5 Tryd.underlying42 Tryd.underlying5 Tryd.underlying9 g1 3 32 32 x.dig hx ?_
      intro j hj
      exact range_dig (H1.out.below HW.out l16) j (byteV x.dig[j]) (by rw [List.getElem?_map, List.getElem?_eq_getElem hj]; rfl)
    go_wp2_with fail
    have hal : Tryd.prog.arrayLen 23 = 32 := by as_aux_lemma => kernel_rfl
    go_still_tail 6, (by kernel_rfl)
    change wpList _ _ _ _ _ wi.drew
    clear hcv hal
    repeat go_step
    refine ((Is_drew HP.out).str ⟨x.dig.toArray⟩ (by rw [siz]; simp only [List.length_append, List.length_cons, List.length_nil, len_data, hx, be8_len]; omega) (Nat.le_trans hbw hB)).mono ?_
    rintro e wj ⟨rfl, hj, bj⟩
    rw [lst x.dig] at hj
    have HPn := Lib.hid hj
    have HWn := Lib.hid ((HW.out.drew).trans bj)
    clear hj bj HP HW p0 p1 p2 p3 q1 q2 q35 q36 q37 hB
    clear wi
    have HP := HPn
    have HW := HWn
    clear HPn HWn
    generalize wj = wi at *
    have hX := H1.out.below HW.out l16
    have hF := H4.out.below HW.out l46
    have p0 : wi.cell? ⟨g4, 0, none⟩ = some (.bool false) := hF.cell 0
    have p1 : wi.cell? ⟨g4, 1, none⟩ = some (.bool true) := hF.cell 1
    have p2 : wi.cell? ⟨g4, 2, none⟩ = some (.bool false) := hF.cell 2
    have p3 : wi.cell? ⟨g4, 3, none⟩ = some (.bool false) := hF.cell 3
    have q1 : wi.cell? ⟨g1, 1, none⟩ = some (.string x.repo) := hX.cell 1
    have q2 : wi.cell? ⟨g1, 2, none⟩ = some (.string x.tag) := hX.cell 2
    have q35 : wi.cell? ⟨g1, 35, none⟩ = some (.string x.typ) := by rw [hX.cell, at35 x hx]
    have q36 : wi.cell? ⟨g1, 36, none⟩ = some (.int .i64 x.size) := by rw [hX.cell, at36 x hx]
    have q37 : wi.cell? ⟨g1, 37, none⟩ = some (.int .i64 x.at_) := by rw [hX.cell, at37 x hx]
    have hB := HW.out.size
    clear hX hF
    go_wp2_with fail
    refine (HP.out.out (by simp)).mono ?_
    rintro e wj ⟨rfl, bj⟩
    have XJ := Lib.hid (Below.trans X.out (Below.mono (HW.out.trans bj) lw6))
    clear bj p0 p1 p2 p3 q1 q2 q35 q36 q37 hB HW HP H1 H4 X
    have hT := HT.out.below XJ.out
    have hbody : body x = (UInt8.ofNat x.k.toNat :: x.dig) := by unfold body; rw [← HFL.out]; simp
    have CF : Hid (Calls Tryd.prog 23 #[.string ⟨((UInt8.ofNat x.k.toNat :: x.dig)).toArray⟩] wj fun e w' => e = .returned (.string ⟨(frame (body x)).toArray⟩) ∧ Reg.Ext wj w') := by
      have h := framed_any ⟨((UInt8.ofNat x.k.toNat :: x.dig)).toArray⟩ wj (by rw [siz]; simp only [List.length_append, List.length_cons, List.length_nil, len_data, hx, be8_len]; omega) hT
      rw [lst] at h
      rw [hbody]
      exact h
    clear hbody hT
    go_wp2_with fail
    refine (CF.out).mono ?_
    rintro e wk ⟨rfl, xk⟩
    have XK := Lib.hid ((show Reg.Ext w wj from XJ.out).trans xk)
    clear xk CF XJ
    go_wp2_with fail
    go_ret2
    exact ⟨rfl, XK.out⟩
end Slp
end Go.Proofs.YtbeghdoffiidoaaDoor

/- The reference's function of chapter 2: Of. -/
import Derived.Test.YthgbhpeidngjmaaDoorShaBlock
import Derived.StillTailTactics
set_option linter.unusedSimpArgs false
set_option linter.unusedVariables false
set_option linter.unusedSectionVars false
namespace Go.Proofs.YthgbhpeidngjmaaDoor
open Go.RowKit
namespace ShaR
open ShaP Sha
theorem out_get (s : S8) : ∀ q r, q < 8 → r < 4 → (out s)[4 * q + r]? = some (UInt8.ofNat ((s.list.getD q 0#32).toNat / 2 ^ (24 - 8 * r) % 256)) := by
  intro q r hq hr
  rcases (by omega : q = 0 ∨ q = 1 ∨ q = 2 ∨ q = 3 ∨ q = 4 ∨ q = 5 ∨ q = 6 ∨ q = 7) with rfl | rfl | rfl | rfl | rfl | rfl | rfl | rfl <;>
    rcases (by omega : r = 0 ∨ r = 1 ∨ r = 2 ∨ r = 3) with rfl | rfl | rfl | rfl <;>
    first | rfl | (rw [show 2 ^ (24 - 8 * 3) = 1 from rfl, Nat.div_one]; rfl)
theorem out_len (s : S8) : (out s).length = 32 := rfl
def zB : List UInt8 := List.replicate 32 0
theorem zB_len : zB.length = 32 := by rfl
def outTo (l : List UInt8) (i : Nat) : List UInt8 := l.take i ++ List.replicate (32 - i) 0
theorem outTo_get (l : List UInt8) (h : l.length = 32) (i : Nat) (hi : i < 32) : (outTo l i)[i]? = some 0 := by
  unfold outTo
  rw [List.getElem?_append_right (by rw [List.length_take]; omega), List.length_take, show i - min i l.length = 0 by omega, List.getElem?_replicate, if_pos (by omega)]
theorem outTo_set (l : List UInt8) (h : l.length = 32) (i : Nat) (hi : i < 32) (x : UInt8) (hx : l[i]? = some x) : (outTo l i).set i x = outTo l (i + 1) := by
  unfold outTo
  rw [List.set_append_right _ _ (by rw [List.length_take]; omega), List.length_take, show i - min i l.length = 0 by omega, show 32 - i = (32 - (i + 1)) + 1 by omega, List.replicate_succ, List.set_cons_zero,
    List.take_succ_eq_append_getElem (by omega), List.append_assoc]
  obtain ⟨h1, rfl⟩ := List.getElem?_eq_some_iff.1 hx
  rfl
theorem outTo_end (l : List UInt8) (h : l.length = 32) : outTo l 32 = l := by
  unfold outTo
  rw [List.take_of_length_le (by omega)]; simp
theorem slice_at (s : ByteArray) (a b : Nat) (i j : Int) (hi : i = (a : Int)) (hj : j = (b : Int)) (hab : a ≤ b) (hb : b ≤ s.size) :
    ∀ W, (Instr.sliceAt 9 (.string s) (some (.int .i64 i)) (some (.int .i64 j)) none).run Tryd.prog W = .ok (.string (s.extract a b)) W := by
  intro W
  subst hi hj
  have h := run_slice_string (P := Tryd.prog) W 9 s .i64 .i64 (a : Int) (b : Int) Tryd.underlying9 (by omega) (by omega) (by omega)
  exact h
theorem outTo_zero (l : List UInt8) : outTo l 0 = zB := by simp [outTo, zB]
theorem sum_states (l p : List UInt8) (n : Nat) (hp : p = padded l) (hn : n = p.length / 64) : sum l = out (states n p) := by
  subst hp hn
  simp only [sum, state]
theorem zBlit : (#[Value.int .u8 0, Value.int .u8 0, Value.int .u8 0, Value.int .u8 0, Value.int .u8 0, Value.int .u8 0, Value.int .u8 0, Value.int .u8 0, Value.int .u8 0, Value.int .u8 0, Value.int .u8 0, Value.int .u8 0, Value.int .u8 0, Value.int .u8 0, Value.int .u8 0, Value.int .u8 0, Value.int .u8 0, Value.int .u8 0, Value.int .u8 0, Value.int .u8 0, Value.int .u8 0, Value.int .u8 0, Value.int .u8 0, Value.int .u8 0, Value.int .u8 0, Value.int .u8 0, Value.int .u8 0, Value.int .u8 0, Value.int .u8 0, Value.int .u8 0, Value.int .u8 0, Value.int .u8 0] : Array Value) = (zB.map byteV).toArray := by rfl
theorem newB (w : World) : Blk (w.alloc (Obj.cells (zB.map byteV).toArray 27)) w.heap.size 27 (zB.map byteV) := by
  have := Blk.new w 27 (zB.map byteV).toArray
  simpa using this
set_option maxRecDepth 100000 in
set_option maxHeartbeats 4000000 in
theorem refOf_any (s : ByteArray) (w : World) (hs : s.size ≤ 274877906944) :
    Calls Tryd.prog 10 #[.string s] w fun e w' => e = .returned (.agg ((sum s.data.toList).map byteV).toArray) ∧ Reg.Ext w w' := by
  have HL := Lib.hid (padded_length s.data.toList)
  obtain ⟨res, hres⟩ : ∃ res, res = sum s.data.toList := ⟨_, rfl⟩
  have HRES := Lib.hid hres
  obtain ⟨P, hP⟩ : ∃ P : ByteArray, P = ⟨(padded s.data.toList).toArray⟩ := ⟨_, rfl⟩
  have hPl : P.data.toList = padded s.data.toList := by rw [hP]
  have hPs : P.size % 64 = 0 := by rw [← len_data, hPl]; exact HL.out
  have hPm : P.size ≤ 274877907944 := by
    rw [← len_data, hPl, padded, List.length_append, len_data]
    have : (padding s.size).length ≤ 100 := by simp [padding, be8, zeros]; omega
    omega
  have HPL := Lib.hid hPl
  have hpad := fun w => padded_any s w hs
  simp only [← hP] at hpad
  have HPAD := Lib.hid hpad
  rw [← hres]
  clear hres hP hPl hpad
  go_enter Tryd.func10, Tryd.ntmps10
  go_upto_region 1 with (fail)
  rw [zBlit]
  have hb2 := newB w
  have hx2 := Reg.Ext.alloc w (Obj.cells (zB.map byteV).toArray 27)
  have hs2 : (w.alloc (Obj.cells (zB.map byteV).toArray 27)).heap.size = w.heap.size + 1 := Array.size_push _
  generalize w.alloc (Obj.cells (zB.map byteV).toArray 27) = w2 at *
  refine wp_region_lit ?_
  refine wpList_val rfl (.agg (ShaP.start.list.map wv).toArray) (by as_aux_lemma => kernel_rfl) ?_
  simp only [Act.put, Act.eval, List.setIfInBounds_toArray, List.set_cons_zero, List.set_cons_succ, Nat.reduceAdd, Array.getD_eq_getD_getElem?, List.getElem?_toArray, List.getElem?_cons_succ, List.getElem?_cons_zero, Option.getD_some]
  iterate 3 go_step
  rw [z8lit]
  have hb3 := new8 w2 z8 38
  have hx3 := Reg.Ext.alloc w2 (Obj.cells (z8.list.map wv).toArray 38)
  generalize w2.alloc (Obj.cells (z8.list.map wv).toArray 38) = w3 at *
  rw [hs2] at hb3
  have HG2 : w.heap.size ≤ w.heap.size := Nat.le_refl _
  have HG3 : w.heap.size ≤ w.heap.size + 1 := by omega
  have L23 : w.heap.size < w.heap.size + 1 := by omega
  generalize hg3 : w.heap.size + 1 = g3 at *
  generalize hg2 : w.heap.size = g2 at hb2 L23 HG3 HG2 ⊢
  have hg2' : w.heap.size ≤ g2 := by omega
  have hg3' : w.heap.size ≤ g3 := by omega
  clear hg2 HG2 HG3 hs2
  refine wpList_store_mid rfl 38 _ _ rfl g3 0 ((ShaP.start).list.map wv).toArray rfl rfl (hb3.there _ (Nat.le_refl 8)) (by rw [List.size_toArray, List.length_map]; kernel_rfl) ?_ ?_
  · refine all_oneCell_toArray fun v hv => ?_
    obtain ⟨x, _, rfl⟩ := List.mem_map.1 hv
    rfl
  simp only [List.toList_toArray]
  simp only [Act.put, Act.eval, List.setIfInBounds_toArray, List.set_cons_zero, List.set_cons_succ, Nat.reduceAdd, Array.getD_eq_getD_getElem?, List.getElem?_toArray, List.getElem?_cons_succ, List.getElem?_cons_zero, Option.getD_some]
  have H3 := Lib.hid (hb3.setAll (ShaP.start.list.map wv) rfl)
  have H2 := Lib.hid ((hb2.ext hx3).but (But.setCells g3 (ShaP.start.list.map wv) 0 w3) (by omega))
  have X := Lib.hid ((hx2.trans hx3).trans_but (But.setCells g3 (ShaP.start.list.map wv) 0 w3) hg3')
  generalize w3.setCells g3 0 (ShaP.start.list.map wv) = w4 at *
  clear hb2 hx2 hb3 hx3 hg3
  go_wp2_with fail
  have H3' : Hid (Blk w4 g3 38 ((states 0 P.data.toList).list.map wv)) := by rw [show states 0 P.data.toList = ShaP.start by simp only [states]]; exact H3
  clear H3
  refine (HPAD.out _).mono ?_
  rintro e w5 ⟨rfl, x5⟩
  have H3 : Hid (Blk w5 g3 38 ((states 0 P.data.toList).list.map wv)) := H3'.out.ext x5
  have H2 := Lib.hid (H2.out.ext x5)
  have X := Lib.hid (X.out.trans x5)
  clear x5 H3' HPAD
  go_wp2_with fail
  go_loopw [5] (fun i wr => ∃ n m : Nat, m = 64 * n ∧ n ≤ P.size / 64 ∧ i = .int .i64 (m : Int) ∧ Hid (Blk wr g3 38 ((states n P.data.toList).list.map wv)) ∧ Hid (But g3 w5 wr)) (fun i _ => P.size - (intOf i).toNat)
  case atStart => exact ⟨0, 0, rfl, by omega, rfl, H3, But.refl _ _⟩
  case round =>
    obtain ⟨n, m, hm, hn, rfl, HB, HU⟩ := hrel
    clear H3
    have HM := Lib.hid hm
    by_cases hmp : m + 64 ≤ P.size
    · have d1 : decide ((m : Int) + 64 ≤ (P.size : Int)) = true := by rw [decide_eq_true_iff]; omega
      have hnn : n + 1 ≤ P.size / 64 := by omega
      have hxs : (P.extract m (m + 64)).size = 64 := by
        rw [← len_data, ext_data, List.length_take, List.length_drop, len_data]; omega
      have hxd : (P.extract m (m + 64)).data.toList = (P.data.toList.drop (64 * n)).take 64 := by
        rw [ext_data, hm, Nat.add_sub_cancel_left]
      have hst : states (n + 1) P.data.toList = ShaP.turn (states n P.data.toList) (P.extract m (m + 64)).data.toList := by rw [hxd]; simp only [states]
      have HST := Lib.hid hst
      have HXS := Lib.hid hxs
      clear hst hxs hxd hm
      generalize states n P.data.toList = st at *
      obtain ⟨a, b, c, d, e, f, g, h⟩ := st
      have s0 : wr.cell? ⟨g3, 0, none⟩ = some (.int .u32 (nv a : Int)) := HB.out.cell 0
      have s1 : wr.cell? ⟨g3, 1, none⟩ = some (.int .u32 (nv b : Int)) := HB.out.cell 1
      have s2 : wr.cell? ⟨g3, 2, none⟩ = some (.int .u32 (nv c : Int)) := HB.out.cell 2
      have s3 : wr.cell? ⟨g3, 3, none⟩ = some (.int .u32 (nv d : Int)) := HB.out.cell 3
      have s4 : wr.cell? ⟨g3, 4, none⟩ = some (.int .u32 (nv e : Int)) := HB.out.cell 4
      have s5 : wr.cell? ⟨g3, 5, none⟩ = some (.int .u32 (nv f : Int)) := HB.out.cell 5
      have s6 : wr.cell? ⟨g3, 6, none⟩ = some (.int .u32 (nv g : Int)) := HB.out.cell 6
      have s7 : wr.cell? ⟨g3, 7, none⟩ = some (.int .u32 (nv h : Int)) := HB.out.cell 7
      go_wp2_with fail
      have hwr : IntKind.i64.wrap ((m : Int) + 64) = (m : Int) + 64 := by rw [IntKind.wrap_i64]; omega
      have hsl := slice_at P m (m + 64) (m : Int) ((m : Int) + 64) rfl (by omega) (by omega) hmp
      go_still_tail 6, (by kernel_rfl)
      change wpList _ _ _ _ _ wr.drew
      clear s0 s1 s2 s3 s4 s5 s6 s7
      have hxd := Reg.Ext.drew wr
      have HBd := Lib.hid (HB.out.drew)
      have HUd := Lib.hid (HU.out.trans (But.of_ext hxd))
      clear hxd HB HU hsl hwr d1
      generalize wr.drew = wd at *
      repeat go_step
      refine (block_any ⟨a, b, c, d, e, f, g, h⟩ (P.extract m (m + 64)) HXS.out wd).mono ?_
      rintro ee we ⟨rfl, xe⟩
      rw [← HST.out]
      have HBe := HBd.out.ext xe
      have HUe := Lib.hid (HUd.out.trans (But.of_ext xe))
      clear xe HBd HUd HST
      obtain ⟨st2, hst2⟩ : ∃ st2, st2 = states (n + 1) P.data.toList := ⟨_, rfl⟩
      rw [← hst2]
      have HS2 := Lib.hid hst2
      clear hst2
      rename_i hK
      refine hK _ _ ?_
      refine wpList_store_mid rfl 38 _ _ rfl g3 0 ((st2).list.map wv).toArray rfl rfl (HBe.there _ (Nat.le_refl 8)) (by rw [List.size_toArray, List.length_map]; kernel_rfl) ?_ ?_
      · refine all_oneCell_toArray fun v hv => ?_
        obtain ⟨x, _, rfl⟩ := List.mem_map.1 hv
        rfl
      simp only [List.toList_toArray]
      simp only [Act.put, Act.eval, List.setIfInBounds_toArray, List.set_cons_zero, List.set_cons_succ, Nat.reduceAdd, Array.getD_eq_getD_getElem?, List.getElem?_toArray, List.getElem?_cons_succ, List.getElem?_cons_zero, Option.getD_some]
      have HN := Lib.hid (HBe.setAll (st2.list.map wv) rfl)
      have HUN := Lib.hid (HUe.out.trans (But.setCells g3 (st2.list.map wv) 0 we))
      generalize we.setCells g3 0 (st2.list.map wv) = wf at *
      clear HBe HUe
      go_wp2_with fail
      exact ⟨⟨n + 1, m + 64, by have := HM.out; omega, hnn, by go_num, by rw [← HS2.out]; exact HN, HUN⟩, by simp [intOf]; omega⟩
    · have d1 : decide ((m : Int) + 64 ≤ (P.size : Int)) = false := by rw [decide_eq_false_iff_not]; omega
      have hn' : n = P.data.toList.length / 64 := by rw [len_data]; omega
      have hmb : m ≤ P.size := by omega
      have HRO : Hid (res = out (states n P.data.toList)) := by
        show res = _
        rw [HRES.out]
        exact sum_states _ _ _ HPL.out hn'
      have H2 := Lib.hid (H2.out.but HU.out (by omega))
      have X := Lib.hid (X.out.trans_but HU.out hg3')
      clear hm HM hn' HU HRES
      generalize states n P.data.toList = st at *
      go_upto_region 7 with (fail)
      refine wp_region_lit ?_
      refine wpList_val rfl (.agg (zB.map byteV).toArray) (by as_aux_lemma => kernel_rfl) ?_
      simp only [Act.put, Act.eval, List.setIfInBounds_toArray, List.set_cons_zero, List.set_cons_succ, Nat.reduceAdd, Array.getD_eq_getD_getElem?, List.getElem?_toArray, List.getElem?_cons_succ, List.getElem?_cons_zero, Option.getD_some]
      iterate 3 go_step
      rw [zBlit]
      have hb6 := newB wr
      have hx6 := Reg.Ext.alloc wr (Obj.cells (zB.map byteV).toArray 27)
      have hlt3 := HB.out.lt
      generalize wr.alloc (Obj.cells (zB.map byteV).toArray 27) = wx at *
      have hg6' : w.heap.size ≤ wr.heap.size := X.out.size
      generalize wr.heap.size = g6 at *
      refine wpList_store_mid rfl 27 _ _ rfl g6 0 (zB.map byteV).toArray rfl rfl (hb6.there _ (by simp [zB_len])) (by rw [List.size_toArray, List.length_map, zB_len]; kernel_rfl) ?_ ?_
      · refine all_oneCell_toArray fun v hv => ?_
        obtain ⟨x, _, rfl⟩ := List.mem_map.1 hv
        rfl
      simp only [List.toList_toArray]
      simp only [Act.put, Act.eval, List.setIfInBounds_toArray, List.set_cons_zero, List.set_cons_succ, Nat.reduceAdd, Array.getD_eq_getD_getElem?, List.getElem?_toArray, List.getElem?_cons_succ, List.getElem?_cons_zero, Option.getD_some]
      have hbut := But.setCells g6 (zB.map byteV) 0 wx
      have H2 := Lib.hid ((H2.out.ext hx6).but hbut (by omega))
      have H3 := Lib.hid ((HB.out.ext hx6).but hbut (by omega))
      have X := Lib.hid ((X.out.trans hx6).trans_but hbut hg6')
      have H6 : Hid (Blk (wx.setCells g6 0 (zB.map byteV)) g6 27 ((outTo (out st) 0).map byteV)) := by
        show Blk _ _ _ _
        rw [outTo_zero]
        exact hb6.setAll _ (by simp [zB_len])
      generalize wx.setCells g6 0 (zB.map byteV) = w6 at *
      clear hb6 hx6 HB hbut
      go_wp2_with fail
      go_loopw [7] (fun i wr => ∃ k : Nat, k ≤ 32 ∧ i = .int .i64 k ∧ Hid (Blk wr g6 27 ((outTo (out st) k).map byteV)) ∧ Hid (But g6 w6 wr)) (fun i _ => 32 - (intOf i).toNat)
      case atStart => exact ⟨0, by omega, rfl, H6, But.refl _ _⟩
      case round =>
        obtain ⟨k, hk, rfl, HB, HU⟩ := hrel
        clear H6
        by_cases hk32 : k < 32
        · have d2 : decide ((k : Int) < 32) = true := by rw [decide_eq_true_iff]; omega
          obtain ⟨q, hq⟩ : ∃ q, q = k / 4 := ⟨_, rfl⟩
          have hq8 : q < 8 := by omega
          have hqi : (k : Int) / 4 = (q : Int) := by omega
          obtain ⟨x, hx⟩ : ∃ x, st.list[q]? = some x := ⟨_, List.getElem?_eq_getElem (show q < st.list.length from hq8)⟩
          have hxd : st.list.getD q 0#32 = x := by rw [List.getD, hx]; rfl
          have c3 : wr.cell? ⟨g3, q, none⟩ = some (.int .u32 (nv x : Int)) := by
            rw [(H3.out.but HU.out (by omega)).cell, List.getElem?_map, hx]; rfl
          have c6 : wr.cell? ⟨g6, k, none⟩ = some (.int .u8 0) := by
            rw [HB.out.cell, List.getElem?_map, outTo_get _ (out_len st) k hk32]; rfl
          have f6 := HB.out.frozen k
          have hget := fun r hr => out_get st q r hq8 hr
          rw [hxd] at hget
          have HGET := Lib.hid hget
          have HQ := Lib.hid hq
          clear hget hxd hx hq
          rcases (by omega : k % 4 = 0 ∨ k % 4 = 1 ∨ k % 4 = 2 ∨ k % 4 = 3) with h4 | h4 | h4 | h4
          · have hv0 : (nv x : Int) / 16777216 % 256 = ((UInt8.ofNat (nv x / 16777216 % 256)).toNat : Int) := by rw [UInt8.toNat_ofNat_of_lt' (by show _ < 256; omega)]; omega
            have hki : (k : Int) % 4 = 0 := by omega
            have hg := HGET.out 0 (by omega)
            rw [show 4 * q + 0 = k by have := HQ.out; omega] at hg
            have hg2 : (out st)[k]? = some (UInt8.ofNat (nv x / 16777216 % 256)) := hg
            have hset := HB.out.set_ k (byteV (UInt8.ofNat (nv x / 16777216 % 256)))
            rw [← List.map_set, outTo_set _ (out_len st) k hk32 _ hg2] at hset
            have hbut := HU.out.trans (But.set_ g6 wr k (byteV (UInt8.ofNat (nv x / 16777216 % 256))))
            have HSET := Lib.hid hset
            have HBUT := Lib.hid hbut
            clear hset hbut hg hg2 HGET HB HU
            generalize UInt8.ofNat (nv x / 16777216 % 256) = c at *
            unfold byteV at HBUT
            go_wp2_with fail
            exact ⟨⟨k + 1, by omega, by go_num, HSET.out, HBUT.out⟩, by simp [intOf]; omega⟩
          · have hv0 : (nv x : Int) / 65536 % 256 = ((UInt8.ofNat (nv x / 65536 % 256)).toNat : Int) := by rw [UInt8.toNat_ofNat_of_lt' (by show _ < 256; omega)]; omega
            have hki : (k : Int) % 4 = 1 := by omega
            have hg := HGET.out 1 (by omega)
            rw [show 4 * q + 1 = k by have := HQ.out; omega] at hg
            have hg2 : (out st)[k]? = some (UInt8.ofNat (nv x / 65536 % 256)) := hg
            have hset := HB.out.set_ k (byteV (UInt8.ofNat (nv x / 65536 % 256)))
            rw [← List.map_set, outTo_set _ (out_len st) k hk32 _ hg2] at hset
            have hbut := HU.out.trans (But.set_ g6 wr k (byteV (UInt8.ofNat (nv x / 65536 % 256))))
            have HSET := Lib.hid hset
            have HBUT := Lib.hid hbut
            clear hset hbut hg hg2 HGET HB HU
            generalize UInt8.ofNat (nv x / 65536 % 256) = c at *
            unfold byteV at HBUT
            go_wp2_with fail
            exact ⟨⟨k + 1, by omega, by go_num, HSET.out, HBUT.out⟩, by simp [intOf]; omega⟩
          · have hv0 : (nv x : Int) / 256 % 256 = ((UInt8.ofNat (nv x / 256 % 256)).toNat : Int) := by rw [UInt8.toNat_ofNat_of_lt' (by show _ < 256; omega)]; omega
            have hki : (k : Int) % 4 = 2 := by omega
            have hg := HGET.out 2 (by omega)
            rw [show 4 * q + 2 = k by have := HQ.out; omega] at hg
            have hg2 : (out st)[k]? = some (UInt8.ofNat (nv x / 256 % 256)) := hg
            have hset := HB.out.set_ k (byteV (UInt8.ofNat (nv x / 256 % 256)))
            rw [← List.map_set, outTo_set _ (out_len st) k hk32 _ hg2] at hset
            have hbut := HU.out.trans (But.set_ g6 wr k (byteV (UInt8.ofNat (nv x / 256 % 256))))
            have HSET := Lib.hid hset
            have HBUT := Lib.hid hbut
            clear hset hbut hg hg2 HGET HB HU
            generalize UInt8.ofNat (nv x / 256 % 256) = c at *
            unfold byteV at HBUT
            go_wp2_with fail
            exact ⟨⟨k + 1, by omega, by go_num, HSET.out, HBUT.out⟩, by simp [intOf]; omega⟩
          · have hv0 : (nv x : Int) % 256 = ((UInt8.ofNat (nv x / 1 % 256)).toNat : Int) := by rw [UInt8.toNat_ofNat_of_lt' (by show _ < 256; omega)]; omega
            have hki : (k : Int) % 4 = 3 := by omega
            have hg := HGET.out 3 (by omega)
            rw [show 4 * q + 3 = k by have := HQ.out; omega] at hg
            have hg2 : (out st)[k]? = some (UInt8.ofNat (nv x / 1 % 256)) := hg
            have hset := HB.out.set_ k (byteV (UInt8.ofNat (nv x / 1 % 256)))
            rw [← List.map_set, outTo_set _ (out_len st) k hk32 _ hg2] at hset
            have hbut := HU.out.trans (But.set_ g6 wr k (byteV (UInt8.ofNat (nv x / 1 % 256))))
            have HSET := Lib.hid hset
            have HBUT := Lib.hid hbut
            clear hset hbut hg hg2 HGET HB HU
            generalize UInt8.ofNat (nv x / 1 % 256) = c at *
            unfold byteV at HBUT
            go_wp2_with fail
            exact ⟨⟨k + 1, by omega, by go_num, HSET.out, HBUT.out⟩, by simp [intOf]; omega⟩
        · have hk' : k = 32 := by omega
          subst hk'
          have H2 := Lib.hid (H2.out.but HU.out (by omega))
          have X := Lib.hid (X.out.trans_but HU.out hg6')
          have H6 := HB.out
          rw [outTo_end _ (out_len st), ← HRO.out] at H6
          have hrl : res.length = 32 := by rw [HRO.out]; exact out_len st
          clear HB HU
          go_upto_region 12 with (fail)
          refine wp_region_lit ?_
          refine wpList_load_row rfl 27 _ rfl g6 rfl 27 (res.map byteV).toArray (0, 0) _ H6 Tryd.underlying27 rfl (by rw [List.size_toArray, List.length_map, hrl]; kernel_rfl) ?_
          simp only [Act.put, Act.eval, List.setIfInBounds_toArray, List.set_cons_zero, List.set_cons_succ, Nat.reduceAdd, Array.getD_eq_getD_getElem?, List.getElem?_toArray, List.getElem?_cons_succ, List.getElem?_cons_zero, Option.getD_some]
          have H2o := H2.out
          refine wpList_store_mid rfl 27 _ _ rfl g2 0 (res.map byteV).toArray rfl rfl (H2o.there _ (by simp [hrl, zB_len])) (by rw [List.size_toArray, List.length_map, hrl]; kernel_rfl) ?_ ?_
          · refine all_oneCell_toArray fun v hv => ?_
            obtain ⟨x, _, rfl⟩ := List.mem_map.1 hv
            rfl
          simp only [List.toList_toArray]
          simp only [Act.put, Act.eval, List.setIfInBounds_toArray, List.set_cons_zero, List.set_cons_succ, Nat.reduceAdd, Array.getD_eq_getD_getElem?, List.getElem?_toArray, List.getElem?_cons_succ, List.getElem?_cons_zero, Option.getD_some]
          have H2n := Lib.hid (H2o.setAll (res.map byteV) (by simp [hrl, zB_len]))
          have XN := Lib.hid (X.out.trans_but (But.setCells g2 (res.map byteV) 0 wr) hg2')
          generalize wr.setCells g2 0 (res.map byteV) = wn at *
          clear H2o H2 H6 X
          go_wp2_with fail
          exact bodyPost_ret (results_cell_row rfl _ _ g2 27 (res.map byteV).toArray (0, 0) _ rfl H2n.out Tryd.underlying27 rfl (by rw [List.size_toArray, List.length_map, hrl]; kernel_rfl)) rfl ⟨rfl, XN.out⟩
end ShaR
end Go.Proofs.YthgbhpeidngjmaaDoor

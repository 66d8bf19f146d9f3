/- The reference's function of chapter 2: block. -/
import Derived.Test.YthgbhpeidngjmaaDoorShaPad
set_option linter.unusedSimpArgs false
set_option linter.unusedVariables false
set_option linter.unusedSectionVars false
namespace Go.Proofs.YthgbhpeidngjmaaDoor
open Go.RowKit
/-- all but block g is as it was; block g goes from old to new at most once -/
def RS (g : Nat) (T : TypeId) (old new : List Value) (w w' : World) : Prop := But g w w' ∧ (Blk w g T old → Blk w' g T old ∨ Blk w' g T new) ∧ (Blk w g T new → Blk w' g T new)
section
variable {g : Nat} {T : TypeId} {old new : List Value} {a b c w w' : World}
theorem RS.refl (w : World) : RS g T old new w w := ⟨But.refl _ _, fun h => .inl h, fun h => h⟩
theorem RS.trans (h : RS g T old new a b) (k : RS g T old new b c) : RS g T old new a c :=
  ⟨h.1.trans k.1, fun x => (h.2.1 x).elim k.2.1 (fun y => .inr (k.2.2 y)), fun x => k.2.2 (h.2.2 x)⟩
theorem RS.of_ext (h : Reg.Ext w w') : RS g T old new w w' := ⟨But.of_ext h, fun x => .inl (x.ext h), fun x => x.ext h⟩
theorem RS.drew (w : World) : RS g T old new w w.drew := RS.of_ext (Reg.Ext.drew w)
end
namespace ShaR
open ShaP Sha
theorem zeros64_eq' : zeros64.toArray = #[Value.int .u32 0, Value.int .u32 0, Value.int .u32 0, Value.int .u32 0, Value.int .u32 0, Value.int .u32 0, Value.int .u32 0, Value.int .u32 0, Value.int .u32 0, Value.int .u32 0, Value.int .u32 0, Value.int .u32 0, Value.int .u32 0, Value.int .u32 0, Value.int .u32 0, Value.int .u32 0, Value.int .u32 0, Value.int .u32 0, Value.int .u32 0, Value.int .u32 0, Value.int .u32 0, Value.int .u32 0, Value.int .u32 0, Value.int .u32 0, Value.int .u32 0, Value.int .u32 0, Value.int .u32 0, Value.int .u32 0, Value.int .u32 0, Value.int .u32 0, Value.int .u32 0, Value.int .u32 0, Value.int .u32 0, Value.int .u32 0, Value.int .u32 0, Value.int .u32 0, Value.int .u32 0, Value.int .u32 0, Value.int .u32 0, Value.int .u32 0, Value.int .u32 0, Value.int .u32 0, Value.int .u32 0, Value.int .u32 0, Value.int .u32 0, Value.int .u32 0, Value.int .u32 0, Value.int .u32 0, Value.int .u32 0, Value.int .u32 0, Value.int .u32 0, Value.int .u32 0, Value.int .u32 0, Value.int .u32 0, Value.int .u32 0, Value.int .u32 0, Value.int .u32 0, Value.int .u32 0, Value.int .u32 0, Value.int .u32 0, Value.int .u32 0, Value.int .u32 0, Value.int .u32 0, Value.int .u32 0] := by rfl
attribute [local go_sem] bv_or bv_and bv_xor bv_not bv_add
attribute [local go_sem high] unary_not_u32
/-- sixty-four zeros -/
def zW : List W := List.replicate 64 0#32
theorem zW_len : zW.length = 64 := by rfl
def addsL (a b : List W) (k : Nat) : List W := List.zipWith (· + ·) (a.take k) (b.take k) ++ a.drop k
theorem addsL_pre (a b : List W) (k : Nat) (h : a.length = b.length) (hk : k ≤ a.length) : (List.zipWith (· + ·) (a.take k) (b.take k)).length = k := by
  rw [List.length_zipWith, List.length_take, List.length_take]; omega
theorem addsL_get (a b : List W) (k : Nat) (h : a.length = b.length) (hk : k < a.length) : (addsL a b k)[k]? = some a[k] := by
  unfold addsL
  rw [List.getElem?_append_right (by rw [addsL_pre a b k h (by omega)]; exact Nat.le_refl _), addsL_pre a b k h (by omega), Nat.sub_self, List.getElem?_drop, Nat.add_zero, List.getElem?_eq_getElem hk]
theorem addsL_set (a b : List W) (k : Nat) (h : a.length = b.length) (hk : k < a.length) : (addsL a b k).set k (a[k] + b[k]) = addsL a b (k + 1) := by
  unfold addsL
  rw [List.set_append_right _ _ (by rw [addsL_pre a b k h (by omega)]; exact Nat.le_refl _), addsL_pre a b k h (by omega), Nat.sub_self, List.drop_eq_getElem_cons hk, List.set_cons_zero,
    List.take_succ_eq_append_getElem hk, List.take_succ_eq_append_getElem (by omega : k < b.length), List.zipWith_append (by rw [List.length_take, List.length_take]; omega)]
  simp
theorem addsL_len (a b : List W) (k : Nat) (h : a.length = b.length) (hk : k ≤ a.length) : (addsL a b k).length = a.length := by
  unfold addsL
  rw [List.length_append, addsL_pre a b k h hk, List.length_drop]; omega
theorem addsL_end (v st : S8) : addsL v.list st.list 8 = (st.add v).list := by
  obtain ⟨a, b, c, d, e, f, g, h⟩ := v
  obtain ⟨a', b', c', d', e', f', g', h'⟩ := st
  simp [addsL, S8.list, S8.add, BitVec.add_comm]
theorem setCells_size (g : Nat) : ∀ (vs : List Value) (o : Nat) (w : World), (w.setCells g o vs).heap.size = w.heap.size
  | [], _, w => rfl
  | v :: vs, o, w => (setCells_size g vs (o + 1) _).trans (by simp [World.setCell])
theorem z64lit : zeros64 = zW.map wv := by rfl
theorem new64' (w : World) : Blk (w.alloc (Obj.cells zeros64.toArray 46)) w.heap.size 46 (zW.map wv) := by
  have := Blk.new w 46 zeros64.toArray
  rw [← z64lit]
  simpa using this
theorem new8 (w : World) (st : S8) (T : TypeId) : Blk (w.alloc (Obj.cells (st.list.map wv).toArray T)) w.heap.size T (st.list.map wv) := by
  have := Blk.new w T (st.list.map wv).toArray
  simpa using this
theorem wpList_val {P : Program} {ops : Array Oper} {rest : List Oper} {o : Oper} {a : Act} {w : World} {Q : Exit → Act → World → Prop} (hgd : o.guard = none) (v : Value)
    (hr : (execOp a.eval o).run P w = .ok (.value v) w) (hk : wpList P ops Q rest (a.put o.dst v) w) : wpList P ops Q (o :: rest) a w :=
  wpList_plain hgd fun K hK => by unfold Oper.wp; rw [hr]; exact hK _ _ hk
def z8 : S8 := ⟨0#32, 0#32, 0#32, 0#32, 0#32, 0#32, 0#32, 0#32⟩
theorem z8lit : (#[Value.int .u32 0, Value.int .u32 0, Value.int .u32 0, Value.int .u32 0, Value.int .u32 0, Value.int .u32 0, Value.int .u32 0, Value.int .u32 0] : Array Value) = (z8.list.map wv).toArray := by rfl
theorem index_blk (s : ByteArray) (blk : List UInt8) (h : blk = s.data.toList) (k : Nat) (m : Int) (hm : m = (k : Int)) (hk : k < blk.length) :
    ∀ W, (Instr.index 9 (.string s) (.int .i64 m)).run Tryd.prog W = .ok (.int .u8 ((blk[k]).toNat : Int)) W := by
  intro W
  subst h hm
  have hk' : k < s.size := by rw [← len_data]; exact hk
  rw [run_index_string W _ s .i64 (k : Int) Tryd.underlying9, dif_pos ⟨by omega, by omega⟩]
  rfl
theorem part4 (blk : List UInt8) (t : Nat) (h : 4 * t + 3 < blk.length) : ShaP.part blk t 4 = BitVec.ofNat 32 (blk[4 * t]).toNat <<< 24 ||| BitVec.ofNat 32 (blk[4 * t + 1]).toNat <<< 16 ||| BitVec.ofNat 32 (blk[4 * t + 2]).toNat <<< 8 ||| BitVec.ofNat 32 (blk[4 * t + 3]).toNat := by
  rw [part_succ blk t 3 (by omega), part_succ blk t 2 (by omega), part_succ blk t 1 (by omega), part_succ blk t 0 (by omega), part_zero]
  simp only [BitVec.shiftLeft_or_distrib, ← BitVec.shiftLeft_add, Nat.reduceAdd, BitVec.zero_shiftLeft, BitVec.zero_or, Nat.add_zero]
theorem byte_shl (c : UInt8) (n : Nat) : IntKind.u32.wrap ((c.toNat : Int) * ((2 ^ n : Nat) : Int)) = (nv (BitVec.ofNat 32 c.toNat <<< n) : Int) := by
  have hc := c.toNat_lt
  rw [← bv_shl]
  unfold nv
  rw [BitVec.toNat_ofNat, Nat.mod_eq_of_lt (show c.toNat < 2 ^ 32 by omega)]
theorem keys_len : keysL.length = 64 := by rfl
set_option maxRecDepth 100000 in
set_option maxHeartbeats 16000000 in
theorem block_any (st : S8) (s : ByteArray) (hs : s.size = 64) (w : World) :
    Calls Tryd.prog 17 #[.agg (st.list.map wv).toArray, .string s] w fun e w' => e = .returned (.agg ((ShaP.turn st s.data.toList).list.map wv).toArray) ∧ Reg.Ext w w' := by
  obtain ⟨blk, hblk⟩ : ∃ blk, blk = s.data.toList := ⟨_, rfl⟩
  have HBK := Lib.hid hblk
  have hlen : blk.length = 64 := by rw [hblk, len_data, hs]
  rw [← hblk]
  clear hblk
  go_enter Tryd.func17, Tryd.ntmps17
  go_upto_region 1 with (fail)
  rw [z8lit]
  have hb2 := new8 w st 38
  have hx2 := Reg.Ext.alloc w (Obj.cells (st.list.map wv).toArray 38)
  have hs2 : (w.alloc (Obj.cells (st.list.map wv).toArray 38)).heap.size = w.heap.size + 1 := Array.size_push _
  generalize w.alloc (Obj.cells (st.list.map wv).toArray 38) = w2 at *
  have hb4 := new8 w2 z8 38
  have hx4 := Reg.Ext.alloc w2 (Obj.cells (z8.list.map wv).toArray 38)
  have hs4 : (w2.alloc (Obj.cells (z8.list.map wv).toArray 38)).heap.size = w2.heap.size + 1 := Array.size_push _
  generalize w2.alloc (Obj.cells (z8.list.map wv).toArray 38) = w4 at *
  rw [hs2] at hb4 hs4
  have H2 := Lib.hid (hb2.ext hx4)
  have H4 := Lib.hid hb4
  have X := Lib.hid (hx2.trans hx4)
  clear hb2 hx2 hb4 hx4 hs2
  generalize hg2 : w.heap.size = g2 at *
  generalize hg4 : g2 + 1 = g4 at *
  have HG2 : w.heap.size ≤ g2 := by omega
  have HG4 : w.heap.size ≤ g4 := by omega
  have L24 : g2 < g4 := by omega
  have HS4 := Lib.hid hs4
  clear hg2 hg4 hs4
  refine wp_region_lit ?_
  refine wpList_val rfl (.agg (keysL.map wv).toArray) (by as_aux_lemma => kernel_rfl) ?_
  simp only [Act.put, Act.eval, List.setIfInBounds_toArray, List.set_cons_zero, List.set_cons_succ, Nat.reduceAdd, Array.getD_eq_getD_getElem?, List.getElem?_toArray, List.getElem?_cons_succ, List.getElem?_cons_zero, Option.getD_some]
  iterate 3 go_step
  rw [← zeros64_eq']
  have hb5 := new64' w4
  have hx5 := Reg.Ext.alloc w4 (Obj.cells zeros64.toArray 46)
  have hs5 : (w4.alloc (Obj.cells zeros64.toArray 46)).heap.size = w4.heap.size + 1 := Array.size_push _
  generalize w4.alloc (Obj.cells zeros64.toArray 46) = wx at *
  rw [HS4.out] at hb5 hs5 ⊢
  have HG5 : w.heap.size ≤ g4 + 1 := by omega
  have L45 : g4 < g4 + 1 := by omega
  generalize hg5 : g4 + 1 = g5 at *
  refine wpList_store_mid rfl 46 _ _ rfl g5 0 ((keysL).map wv).toArray rfl rfl (hb5.there _ (by simp only [List.size_toArray, List.length_map, keys_len, zW_len]; exact Nat.le_refl _)) (by rw [List.size_toArray, List.length_map, keys_len]; kernel_rfl) ?_ ?_
  · refine all_oneCell_toArray fun v hv => ?_
    obtain ⟨x, _, rfl⟩ := List.mem_map.1 hv
    rfl
  simp only [List.toList_toArray]
  simp only [Act.put, Act.eval, List.setIfInBounds_toArray, List.set_cons_zero, List.set_cons_succ, Nat.reduceAdd, Array.getD_eq_getD_getElem?, List.getElem?_toArray, List.getElem?_cons_succ, List.getElem?_cons_zero, Option.getD_some]
  have H5 := Lib.hid (hb5.setAll (keysL.map wv) (by rw [List.length_map, List.length_map, keys_len, zW_len]))
  have H2 := Lib.hid ((H2.out.ext hx5).but (But.setCells g5 (keysL.map wv) 0 wx) (by omega))
  have H4 := Lib.hid ((H4.out.ext hx5).but (But.setCells g5 (keysL.map wv) 0 wx) (by omega))
  have X := Lib.hid ((X.out.trans hx5).trans_but (But.setCells g5 (keysL.map wv) 0 wx) HG5)
  have hs5 : (wx.setCells g5 0 (keysL.map wv)).heap.size = g5 + 1 := by rw [setCells_size]; exact hs5
  generalize wx.setCells g5 0 (keysL.map wv) = w5 at *
  clear hb5 hx5 hg5
  have HS5 := Lib.hid hs5
  clear hs5
  go_upto_region 2 with (fail)
  refine wp_region_lit ?_
  refine wpList_val rfl (.agg (zW.map wv).toArray) (by as_aux_lemma => kernel_rfl) ?_
  simp only [Act.put, Act.eval, List.setIfInBounds_toArray, List.set_cons_zero, List.set_cons_succ, Nat.reduceAdd, Array.getD_eq_getD_getElem?, List.getElem?_toArray, List.getElem?_cons_succ, List.getElem?_cons_zero, Option.getD_some]
  iterate 3 go_step
  rw [← zeros64_eq']
  have hb6 := new64' w5
  have hx6 := Reg.Ext.alloc w5 (Obj.cells zeros64.toArray 46)
  generalize w5.alloc (Obj.cells zeros64.toArray 46) = wx at *
  rw [HS5.out] at hb6 ⊢
  have HG6 : w.heap.size ≤ g5 + 1 := by omega
  have L56 : g5 < g5 + 1 := by omega
  generalize hg6 : g5 + 1 = g6 at *
  refine wpList_store_mid rfl 46 _ _ rfl g6 0 ((zW).map wv).toArray rfl rfl (hb6.there _ (by simp only [List.size_toArray, List.length_map, zW_len, zW_len]; exact Nat.le_refl _)) (by rw [List.size_toArray, List.length_map, zW_len]; kernel_rfl) ?_ ?_
  · refine all_oneCell_toArray fun v hv => ?_
    obtain ⟨x, _, rfl⟩ := List.mem_map.1 hv
    rfl
  simp only [List.toList_toArray]
  simp only [Act.put, Act.eval, List.setIfInBounds_toArray, List.set_cons_zero, List.set_cons_succ, Nat.reduceAdd, Array.getD_eq_getD_getElem?, List.getElem?_toArray, List.getElem?_cons_succ, List.getElem?_cons_zero, Option.getD_some]
  have H6 := Lib.hid (hb6.setAll (zW.map wv) rfl)
  have H2 := Lib.hid ((H2.out.ext hx6).but (But.setCells g6 (zW.map wv) 0 wx) (by omega))
  have H4 := Lib.hid ((H4.out.ext hx6).but (But.setCells g6 (zW.map wv) 0 wx) (by omega))
  have H5 := Lib.hid ((H5.out.ext hx6).but (But.setCells g6 (zW.map wv) 0 wx) (by omega))
  have X := Lib.hid ((X.out.trans hx6).trans_but (But.setCells g6 (zW.map wv) 0 wx) HG6)
  generalize wx.setCells g6 0 (zW.map wv) = w6 at *
  clear hb6 hx6 hg6 HS5 HS4
  have HB0 : Hid (Blk w6 g6 46 ((sofar blk 0).map wv)) := H6
  clear H6
  go_wp2_with fail
  go_loopw [7] (fun i wr => ∃ t : Nat, t ≤ 16 ∧ i = .int .i64 t ∧ Hid (Blk wr g6 46 ((sofar blk t).map wv)) ∧ Hid (But g6 w6 wr)) (fun i _ => 16 - (intOf i).toNat)
  case atStart => exact ⟨0, by omega, rfl, HB0, But.refl _ _⟩
  case round =>
    obtain ⟨t, ht, rfl, HB, HU⟩ := hrel
    clear HB0
    by_cases ht16 : t < 16
    · -- {A
      have d1 : decide ((t : Int) < 16) = true := by rw [decide_eq_true_iff]; omega
      have hl1 : 4 * t + 3 < blk.length := by omega
      have hi0 := index_blk s blk HBK.out (4 * t) (4 * (t : Int)) (by omega) (by omega)
      have hi1 := index_blk s blk HBK.out (4 * t + 1) (4 * (t : Int) + 1) (by omega) (by omega)
      have hi2 := index_blk s blk HBK.out (4 * t + 2) (4 * (t : Int) + 2) (by omega) (by omega)
      have hi3 := index_blk s blk HBK.out (4 * t + 3) (4 * (t : Int) + 3) (by omega) (by omega)
      have hp := part4 blk t hl1
      have hset := HB.out.set_ t (wv (ShaP.part blk t 4))
      rw [← List.map_set, sofar_set blk t ht16] at hset
      have hbut := HU.out.trans (But.set_ g6 wr t (wv (ShaP.part blk t 4)))
      have cw : wr.cell? ⟨g6, t, none⟩ = some (.int .u32 0) := by
        rw [HB.out.cellAt (by rw [List.length_map, sofar_length _ _ (by omega)]; omega), List.getElem_map, sofar_get blk t ht16]
        rfl
      have fw := HB.out.frozen t
      have HP := Lib.hid hp
      generalize ShaP.part blk t 4 = p4 at *
      generalize blk[4 * t] = c0 at *
      generalize blk[4 * t + 1] = c1 at *
      generalize blk[4 * t + 2] = c2 at *
      generalize blk[4 * t + 3] = c3 at *
      have e0 := byte_shl c0 24
      have e1 := byte_shl c1 16
      have e2 := byte_shl c2 8
      simp only [Nat.reducePow, Int.cast_ofNat_Int] at e0 e1 e2
      have e3 := bv_or_byte (BitVec.ofNat 32 c0.toNat <<< 24 ||| BitVec.ofNat 32 c1.toNat <<< 16 ||| BitVec.ofNat 32 c2.toNat <<< 8) c3
      have n0 := c0.toNat_lt
      have n1 := c1.toNat_lt
      have n2 := c2.toNat_lt
      have n3 := c3.toNat_lt
      rw [← HP.out] at e3
      have HSET := Lib.hid hset
      have HBUT := Lib.hid hbut
      unfold wv at HSET HBUT
      clear hp hset hbut HB HU
      go_wp2_with fail
      go_region
      all_goals
        go_wp2_with fail
        try rw [bv_or, bv_or, e3]
        exact ⟨⟨t + 1, by omega, by go_num, HSET.out.drew, HBUT.out.trans (But.of_ext (Reg.Ext.drew _))⟩, by simp [intOf]; omega⟩
      -- A}
    · have ht' : t = 16 := by omega
      subst ht'
      have HF : Hid (Blk wr g6 46 ((full blk 16).map wv)) := by
        show Blk _ _ _ _
        rw [full_sixteen]; exact HB.out
      have H2 := Lib.hid (H2.out.but HU.out (by omega))
      have H4 := Lib.hid (H4.out.but HU.out (by omega))
      have H5 := Lib.hid (H5.out.but HU.out (by omega))
      have X := Lib.hid (X.out.trans_but HU.out HG6)
      clear HB HU
      go_wp2_with fail
      rw [show ((16 : Nat) : Int) = 16 from rfl]
      obtain ⟨w7, rfl⟩ : ∃ w7 : World, w7 = wr := ⟨_, rfl⟩
      go_loopw [8, 9, 10] (fun i _ _ wr => ∃ t : Nat, 16 ≤ t ∧ t ≤ 64 ∧ i = .int .i64 t ∧ Hid (Blk wr g6 46 ((full blk t).map wv)) ∧ Hid (But g6 w7 wr)) (fun i _ _ _ => 64 - (intOf i).toNat)
      case atStart => exact ⟨16, by omega, by omega, rfl, HF, But.refl _ _⟩
      case round =>
        obtain ⟨t, ht1, ht2, rfl, HB, HU⟩ := hrel
        clear HF
        by_cases ht64 : t < 64
        · -- {B
          have d2 : decide ((t : Int) < 64) = true := by rw [decide_eq_true_iff]; omega
          have hc : ∀ j, j < t → wr.cell? ⟨g6, j, none⟩ = some (.int .u32 (nv ((growN (t - 16) (first blk)).getD j 0#32) : Int)) := fun j hj => by
            rw [HB.out.cell, List.getElem?_map, full_get blk t j ht1 ht2 hj]; rfl
          have c15 := hc (t - 15) (by omega)
          have c2 := hc (t - 2) (by omega)
          clear hc
          have hfs := Lib.hid (full_set blk t ht1 ht64)
          have hfg7 := Lib.hid (full_get blk t (t - 7) ht1 ht2 (by omega))
          have hfg16 := Lib.hid (full_get blk t (t - 16) ht1 ht2 (by omega))
          have hfl := Lib.hid (full_length blk t ht1 ht2)
          generalize (growN (t - 16) (first blk)).getD (t - 15) 0#32 = x at *
          generalize (growN (t - 16) (first blk)).getD (t - 2) 0#32 = y at *
          generalize (growN (t - 16) (first blk)).getD (t - 7) 0#32 = x7 at *
          generalize (growN (t - 16) (first blk)).getD (t - 16) 0#32 = x16 at *
          go_wp2_with fail
          obtain ⟨old, hold⟩ : ∃ old, old = (full blk t).map wv := ⟨_, rfl⟩
          obtain ⟨new, hnew⟩ : ∃ new, new = (full blk (t + 1)).map wv := ⟨_, rfl⟩
          have hsetn : old.set t (wv (s1 y + x7 + s0 x + x16)) = new := by rw [hold, hnew, ← List.map_set, hfs.out]
          have holdl : t < old.length := by rw [hold, List.length_map, hfl.out]; exact ht64
          have HBo := HB.out
          rw [← hold] at HBo
          have r7 : old[t - 7]? = some (.int .u32 (nv x7 : Int)) := by rw [hold, List.getElem?_map, hfg7.out]; rfl
          have r16 : old[t - 16]? = some (.int .u32 (nv x16 : Int)) := by rw [hold, List.getElem?_map, hfg16.out]; rfl
          have hread : ∀ w1, RS g6 46 old new wr w1 → w1.cell? ⟨g6, t - 7, none⟩ = some (.int .u32 (nv x7 : Int)) ∧ w1.cell? ⟨g6, t - 16, none⟩ = some (.int .u32 (nv x16 : Int)) := by
            intro w1 h
            rcases h.2.1 HBo with h1 | h1
            · exact ⟨by rw [h1.cell, r7], by rw [h1.cell, r16]⟩
            · rw [← hsetn] at h1
              exact ⟨by rw [h1.cell, List.getElem?_set_ne (by omega), r7], by rw [h1.cell, List.getElem?_set_ne (by omega), r16]⟩
          have hwrite : ∀ w1, RS g6 46 old new wr w1 → (∃ v0, w1.cell? ⟨g6, t, none⟩ = some v0) ∧ w1.frozen? ⟨g6, t, none⟩ = false ∧ Blk (w1.setCell ⟨g6, t, none⟩ (wv (s1 y + x7 + s0 x + x16))) g6 46 new := by
            intro w1 h
            rcases h.2.1 HBo with h1 | h1
            · exact ⟨⟨_, h1.cellAt holdl⟩, h1.frozen t, by have := h1.set_ t (wv (s1 y + x7 + s0 x + x16)); rw [hsetn] at this; exact this⟩
            · have hn : new.set t (wv (s1 y + x7 + s0 x + x16)) = new := by rw [← hsetn, List.set_set]
              exact ⟨⟨_, h1.cellAt (by rw [← hsetn, List.length_set]; exact holdl)⟩, h1.frozen t, by have := h1.set_ t (wv (s1 y + x7 + s0 x + x16)); rw [hn] at this; exact this⟩
          have HREAD := Lib.hid hread
          have HWRITE := Lib.hid hwrite
          have HNEW := Lib.hid hnew
          have HOLD := Lib.hid HBo
          have e3 := bv_shr x 3
          have e10 := bv_shr y 10
          simp only [Nat.reducePow, Int.cast_ofNat_Int] at e3 e10
          clear hread hwrite hsetn holdl HBo r7 r16 hold hnew hfs hfg7 hfg16 hfl c15 c2
          apply Reg.wp_tab (RS g6 46 old new) (by kernel_rfl) (by kernel_rfl) RS.refl (fun _ _ _ => RS.trans) (RS.drew _)
          case h =>
            intro O
            repeat (first
              | (apply Reg.TW.move_ RS.refl _ rfl rfl
                 · simp only [Act.put, Act.eval, List.setIfInBounds_toArray, List.set_cons_zero, List.set_cons_succ, Nat.reduceAdd, Array.getD_eq_getD_getElem?, List.getElem?_toArray, List.getElem?_cons_succ, List.getElem?_cons_zero, Option.getD_some]
                   rfl)
              | (apply Reg.TW.assign_ RS.refl _ rfl rfl
                 · simp only [Act.put, Act.eval, List.setIfInBounds_toArray, List.set_cons_zero, List.set_cons_succ, Nat.reduceAdd, Array.getD_eq_getD_getElem?, List.getElem?_toArray, List.getElem?_cons_succ, List.getElem?_cons_zero, Option.getD_some]
                   rfl)
              | (apply Reg.TW.skip_ rfl
                 · simp only [Act.put, Act.eval, List.setIfInBounds_toArray, List.set_cons_zero, List.set_cons_succ, Nat.reduceAdd, Array.getD_eq_getD_getElem?, List.getElem?_toArray, List.getElem?_cons_succ, List.getElem?_cons_zero, Option.getD_some]
                   rfl)
              | (apply Reg.TW.pure_ rfl
                 · intro w1 hw1 hf K hK
                   simp only [Act.put, List.setIfInBounds_toArray, List.set_cons_zero, List.set_cons_succ] at hK
                   have HK := Lib.hid hK
                   clear hf hK
                   unfold Reg.One; dsimp only
                   go_wp2_with fail
                   exact HK.out _ (RS.refl _)
                 · simp only [Act.put, Act.eval, List.setIfInBounds_toArray, List.set_cons_zero, List.set_cons_succ, Nat.reduceAdd, Array.getD_eq_getD_getElem?, List.getElem?_toArray, List.getElem?_cons_succ, List.getElem?_cons_zero, Option.getD_some]
                   rfl))
            apply Reg.TW.call_ (c := .int .u32 (nv (rr y 17) : Int)) (fun _ => True) rfl (fun _ _ _ h => h)
            · intro w1 hw1 hf K hK
              simp only [Act.put, List.setIfInBounds_toArray, List.set_cons_zero, List.set_cons_succ] at hK
              have HK := Lib.hid hK
              clear hK
              unfold Reg.One; dsimp only
              go_wp2_with fail
              refine (turnR_at y 17 17 _ rfl (by simp [isRot])).mono ?_
              rintro e w' ⟨rfl, hx⟩
              go_wp2_with fail
              exact HK.out _ (RS.of_ext hx) trivial
            · simp only [Act.put, Act.eval, List.setIfInBounds_toArray, List.set_cons_zero, List.set_cons_succ, Nat.reduceAdd, Array.getD_eq_getD_getElem?, List.getElem?_toArray, List.getElem?_cons_succ, List.getElem?_cons_zero, Option.getD_some]
              rfl
            repeat (first
              | (apply Reg.TW.move_ RS.refl _ rfl rfl
                 · simp only [Act.put, Act.eval, List.setIfInBounds_toArray, List.set_cons_zero, List.set_cons_succ, Nat.reduceAdd, Array.getD_eq_getD_getElem?, List.getElem?_toArray, List.getElem?_cons_succ, List.getElem?_cons_zero, Option.getD_some]
                   rfl)
              | (apply Reg.TW.assign_ RS.refl _ rfl rfl
                 · simp only [Act.put, Act.eval, List.setIfInBounds_toArray, List.set_cons_zero, List.set_cons_succ, Nat.reduceAdd, Array.getD_eq_getD_getElem?, List.getElem?_toArray, List.getElem?_cons_succ, List.getElem?_cons_zero, Option.getD_some]
                   rfl)
              | (apply Reg.TW.skip_ rfl
                 · simp only [Act.put, Act.eval, List.setIfInBounds_toArray, List.set_cons_zero, List.set_cons_succ, Nat.reduceAdd, Array.getD_eq_getD_getElem?, List.getElem?_toArray, List.getElem?_cons_succ, List.getElem?_cons_zero, Option.getD_some]
                   rfl)
              | (apply Reg.TW.pure_ rfl
                 · intro w1 hw1 hf K hK
                   simp only [Act.put, List.setIfInBounds_toArray, List.set_cons_zero, List.set_cons_succ] at hK
                   have HK := Lib.hid hK
                   clear hf hK
                   unfold Reg.One; dsimp only
                   go_wp2_with fail
                   exact HK.out _ (RS.refl _)
                 · simp only [Act.put, Act.eval, List.setIfInBounds_toArray, List.set_cons_zero, List.set_cons_succ, Nat.reduceAdd, Array.getD_eq_getD_getElem?, List.getElem?_toArray, List.getElem?_cons_succ, List.getElem?_cons_zero, Option.getD_some]
                   rfl))
            apply Reg.TW.call_ (c := .int .u32 (nv (rr y 19) : Int)) (fun _ => True) rfl (fun _ _ _ h => h)
            · intro w1 hw1 hf K hK
              simp only [Act.put, List.setIfInBounds_toArray, List.set_cons_zero, List.set_cons_succ] at hK
              have HK := Lib.hid hK
              clear hK
              unfold Reg.One; dsimp only
              go_wp2_with fail
              refine (turnR_at y 19 19 _ rfl (by simp [isRot])).mono ?_
              rintro e w' ⟨rfl, hx⟩
              go_wp2_with fail
              exact HK.out _ (RS.of_ext hx) trivial
            · simp only [Act.put, Act.eval, List.setIfInBounds_toArray, List.set_cons_zero, List.set_cons_succ, Nat.reduceAdd, Array.getD_eq_getD_getElem?, List.getElem?_toArray, List.getElem?_cons_succ, List.getElem?_cons_zero, Option.getD_some]
              rfl
            repeat (first
              | (apply Reg.TW.move_ RS.refl _ rfl rfl
                 · simp only [Act.put, Act.eval, List.setIfInBounds_toArray, List.set_cons_zero, List.set_cons_succ, Nat.reduceAdd, Array.getD_eq_getD_getElem?, List.getElem?_toArray, List.getElem?_cons_succ, List.getElem?_cons_zero, Option.getD_some]
                   rfl)
              | (apply Reg.TW.assign_ RS.refl _ rfl rfl
                 · simp only [Act.put, Act.eval, List.setIfInBounds_toArray, List.set_cons_zero, List.set_cons_succ, Nat.reduceAdd, Array.getD_eq_getD_getElem?, List.getElem?_toArray, List.getElem?_cons_succ, List.getElem?_cons_zero, Option.getD_some]
                   rfl)
              | (apply Reg.TW.skip_ rfl
                 · simp only [Act.put, Act.eval, List.setIfInBounds_toArray, List.set_cons_zero, List.set_cons_succ, Nat.reduceAdd, Array.getD_eq_getD_getElem?, List.getElem?_toArray, List.getElem?_cons_succ, List.getElem?_cons_zero, Option.getD_some]
                   rfl)
              | (apply Reg.TW.pure_ rfl
                 · intro w1 hw1 hf K hK
                   simp only [Act.put, List.setIfInBounds_toArray, List.set_cons_zero, List.set_cons_succ] at hK
                   have HK := Lib.hid hK
                   clear hf hK
                   obtain ⟨q7, q16⟩ := HREAD.out w1 hw1
                   unfold Reg.One; dsimp only
                   go_wp2_with fail
                   exact HK.out _ (RS.refl _)
                 · simp only [Act.put, Act.eval, List.setIfInBounds_toArray, List.set_cons_zero, List.set_cons_succ, Nat.reduceAdd, Array.getD_eq_getD_getElem?, List.getElem?_toArray, List.getElem?_cons_succ, List.getElem?_cons_zero, Option.getD_some]
                   rfl))
            apply Reg.TW.call_ (c := .int .u32 (nv (rr x 7) : Int)) (fun _ => True) rfl (fun _ _ _ h => h)
            · intro w1 hw1 hf K hK
              simp only [Act.put, List.setIfInBounds_toArray, List.set_cons_zero, List.set_cons_succ] at hK
              have HK := Lib.hid hK
              clear hK
              unfold Reg.One; dsimp only
              go_wp2_with fail
              refine (turnR_at x 7 7 _ rfl (by simp [isRot])).mono ?_
              rintro e w' ⟨rfl, hx⟩
              go_wp2_with fail
              exact HK.out _ (RS.of_ext hx) trivial
            · simp only [Act.put, Act.eval, List.setIfInBounds_toArray, List.set_cons_zero, List.set_cons_succ, Nat.reduceAdd, Array.getD_eq_getD_getElem?, List.getElem?_toArray, List.getElem?_cons_succ, List.getElem?_cons_zero, Option.getD_some]
              rfl
            repeat (first
              | (apply Reg.TW.move_ RS.refl _ rfl rfl
                 · simp only [Act.put, Act.eval, List.setIfInBounds_toArray, List.set_cons_zero, List.set_cons_succ, Nat.reduceAdd, Array.getD_eq_getD_getElem?, List.getElem?_toArray, List.getElem?_cons_succ, List.getElem?_cons_zero, Option.getD_some]
                   rfl)
              | (apply Reg.TW.assign_ RS.refl _ rfl rfl
                 · simp only [Act.put, Act.eval, List.setIfInBounds_toArray, List.set_cons_zero, List.set_cons_succ, Nat.reduceAdd, Array.getD_eq_getD_getElem?, List.getElem?_toArray, List.getElem?_cons_succ, List.getElem?_cons_zero, Option.getD_some]
                   rfl)
              | (apply Reg.TW.skip_ rfl
                 · simp only [Act.put, Act.eval, List.setIfInBounds_toArray, List.set_cons_zero, List.set_cons_succ, Nat.reduceAdd, Array.getD_eq_getD_getElem?, List.getElem?_toArray, List.getElem?_cons_succ, List.getElem?_cons_zero, Option.getD_some]
                   rfl)
              | (apply Reg.TW.pure_ rfl
                 · intro w1 hw1 hf K hK
                   simp only [Act.put, List.setIfInBounds_toArray, List.set_cons_zero, List.set_cons_succ] at hK
                   have HK := Lib.hid hK
                   clear hf hK
                   unfold Reg.One; dsimp only
                   go_wp2_with fail
                   exact HK.out _ (RS.refl _)
                 · simp only [Act.put, Act.eval, List.setIfInBounds_toArray, List.set_cons_zero, List.set_cons_succ, Nat.reduceAdd, Array.getD_eq_getD_getElem?, List.getElem?_toArray, List.getElem?_cons_succ, List.getElem?_cons_zero, Option.getD_some]
                   rfl))
            apply Reg.TW.call_ (c := .int .u32 (nv (rr x 18) : Int)) (fun _ => True) rfl (fun _ _ _ h => h)
            · intro w1 hw1 hf K hK
              simp only [Act.put, List.setIfInBounds_toArray, List.set_cons_zero, List.set_cons_succ] at hK
              have HK := Lib.hid hK
              clear hK
              unfold Reg.One; dsimp only
              go_wp2_with fail
              refine (turnR_at x 18 18 _ rfl (by simp [isRot])).mono ?_
              rintro e w' ⟨rfl, hx⟩
              go_wp2_with fail
              exact HK.out _ (RS.of_ext hx) trivial
            · simp only [Act.put, Act.eval, List.setIfInBounds_toArray, List.set_cons_zero, List.set_cons_succ, Nat.reduceAdd, Array.getD_eq_getD_getElem?, List.getElem?_toArray, List.getElem?_cons_succ, List.getElem?_cons_zero, Option.getD_some]
              rfl
            repeat (first
              | (apply Reg.TW.move_ RS.refl _ rfl rfl
                 · simp only [Act.put, Act.eval, List.setIfInBounds_toArray, List.set_cons_zero, List.set_cons_succ, Nat.reduceAdd, Array.getD_eq_getD_getElem?, List.getElem?_toArray, List.getElem?_cons_succ, List.getElem?_cons_zero, Option.getD_some]
                   rfl)
              | (apply Reg.TW.assign_ RS.refl _ rfl rfl
                 · simp only [Act.put, Act.eval, List.setIfInBounds_toArray, List.set_cons_zero, List.set_cons_succ, Nat.reduceAdd, Array.getD_eq_getD_getElem?, List.getElem?_toArray, List.getElem?_cons_succ, List.getElem?_cons_zero, Option.getD_some]
                   rfl)
              | (apply Reg.TW.skip_ rfl
                 · simp only [Act.put, Act.eval, List.setIfInBounds_toArray, List.set_cons_zero, List.set_cons_succ, Nat.reduceAdd, Array.getD_eq_getD_getElem?, List.getElem?_toArray, List.getElem?_cons_succ, List.getElem?_cons_zero, Option.getD_some]
                   rfl)
              | (apply Reg.TW.pure_ rfl
                 · intro w1 hw1 hf K hK
                   simp only [Act.put, List.setIfInBounds_toArray, List.set_cons_zero, List.set_cons_succ] at hK
                   have HK := Lib.hid hK
                   clear hf hK
                   obtain ⟨q7, q16⟩ := HREAD.out w1 hw1
                   unfold Reg.One; dsimp only
                   go_wp2_with fail
                   exact HK.out _ (RS.refl _)
                 · simp only [Act.put, Act.eval, List.setIfInBounds_toArray, List.set_cons_zero, List.set_cons_succ, Nat.reduceAdd, Array.getD_eq_getD_getElem?, List.getElem?_toArray, List.getElem?_cons_succ, List.getElem?_cons_zero, Option.getD_some]
                   rfl))
            apply Reg.TW.call_ (c := undef) (fun wq => Blk wq g6 46 new) rfl (fun _ _ h hb => h.2.2 hb)
            · intro w1 hw1 hf K hK
              simp only [Act.put, List.setIfInBounds_toArray, List.set_cons_zero, List.set_cons_succ] at hK
              have HK := Lib.hid hK
              clear hK
              unfold Reg.One; dsimp only
              obtain ⟨⟨v0, q1⟩, q2, q3⟩ := HWRITE.out w1 hw1
              have HSET := Lib.hid q3
              clear q3
              unfold wv at HSET
              go_wp2_with fail
              exact HK.out _ ⟨But.set_ _ _ _ _, fun _ => .inr HSET.out, fun _ => HSET.out⟩ HSET.out
            · simp only [Act.put, Act.eval, List.setIfInBounds_toArray, List.set_cons_zero, List.set_cons_succ, Nat.reduceAdd, Array.getD_eq_getD_getElem?, List.getElem?_toArray, List.getElem?_cons_succ, List.getElem?_cons_zero, Option.getD_some]
              rfl
            refine Reg.TW.nil_ ?_
            intro w9 hw9 hall
            have HN : Hid (Blk w9 g6 46 ((full blk (t + 1)).map wv)) := by
              show Blk _ _ _ _
              rw [← HNEW.out]; exact hall.1
            have HUN := Lib.hid (HU.out.trans hw9.1)
            clear HOLD HREAD HWRITE HNEW hall hw9 HU HB
            go_wp2_with fail
            exact ⟨⟨t + 1, by omega, by omega, by go_num, HN, HUN⟩, by simp [intOf]; omega⟩
          case hlen => rfl
          -- B}
        · have ht' : t = 64 := by omega
          subst ht'
          have H2 := Lib.hid (H2.out.but HU.out (by omega))
          have H4 := Lib.hid (H4.out.but HU.out (by omega))
          have H5 := Lib.hid (H5.out.but HU.out (by omega))
          have H6 := HB.out
          rw [full_end] at H6
          have H6 := Lib.hid H6
          have X := Lib.hid (X.out.trans_but HU.out HG6)
          clear HB HU
          rw [show ((64 : Nat) : Int) = 64 from rfl]
          have h2row := H2.out
          have hl8 : ∀ q : S8, (q.list.map wv).length = 8 := fun q => rfl
          go_upto_region 13 with (fail)
          refine wp_region_lit ?_
          refine wpList_load_row rfl 38 _ rfl g2 rfl 38 (st.list.map wv).toArray (0, 0) _ H2.out Tryd.underlying38 rfl (by rw [List.size_toArray, hl8]; kernel_rfl) ?_
          simp only [Act.put, Act.eval, List.setIfInBounds_toArray, List.set_cons_zero, List.set_cons_succ, Nat.reduceAdd, Array.getD_eq_getD_getElem?, List.getElem?_toArray, List.getElem?_cons_succ, List.getElem?_cons_zero, Option.getD_some]
          iterate 3 go_step
          rw [z8lit]
          have hb11 := new8 wr z8 38
          have hx11 := Reg.Ext.alloc wr (Obj.cells (z8.list.map wv).toArray 38)
          have hlt6 := H6.out.lt
          generalize wr.alloc (Obj.cells (z8.list.map wv).toArray 38) = wy at *
          have HG11 : w.heap.size ≤ wr.heap.size := X.out.size
          generalize wr.heap.size = g11 at *
          refine wpList_store_mid rfl 38 _ _ rfl g11 0 ((st).list.map wv).toArray rfl rfl (hb11.there _ (Nat.le_refl 8)) (by rw [List.size_toArray, List.length_map]; kernel_rfl) ?_ ?_
          · refine all_oneCell_toArray fun v hv => ?_
            obtain ⟨x, _, rfl⟩ := List.mem_map.1 hv
            rfl
          simp only [List.toList_toArray]
          simp only [Act.put, Act.eval, List.setIfInBounds_toArray, List.set_cons_zero, List.set_cons_succ, Nat.reduceAdd, Array.getD_eq_getD_getElem?, List.getElem?_toArray, List.getElem?_cons_succ, List.getElem?_cons_zero, Option.getD_some]
          have H11 := Lib.hid (hb11.setAll (st.list.map wv) rfl)
          have hbut := But.setCells g11 (st.list.map wv) 0 wy
          have H2 := Lib.hid ((H2.out.ext hx11).but hbut (by omega))
          have H4 := Lib.hid ((H4.out.ext hx11).but hbut (by omega))
          have H5 := Lib.hid ((H5.out.ext hx11).but hbut (by omega))
          have H6 := Lib.hid ((H6.out.ext hx11).but hbut (by omega))
          have X := Lib.hid ((X.out.trans hx11).trans_but hbut HG11)
          generalize wy.setCells g11 0 (st.list.map wv) = w8 at *
          clear hb11 hx11 hbut h2row
          go_wp2_with fail
          have H11' : Hid (Blk w8 g11 38 ((ShaP.rounds (spread blk) 0 st).list.map wv)) := H11
          clear H11
          go_loopw [12, 13, 14, 15, 16] (fun i _ _ _ _ wr => ∃ t : Nat, t ≤ 64 ∧ i = .int .i64 t ∧ Hid (Blk wr g11 38 ((ShaP.rounds (spread blk) t st).list.map wv)) ∧ Hid (But g11 w8 wr)) (fun i _ _ _ _ _ => 64 - (intOf i).toNat)
          case atStart => exact ⟨0, by omega, rfl, H11', But.refl _ _⟩
          case round =>
            obtain ⟨t, ht, rfl, HB, HU⟩ := hrel
            clear H11'
            have H5 := Lib.hid (H5.out.but HU.out (by omega))
            have H6 := Lib.hid (H6.out.but HU.out (by omega))
            by_cases ht64 : t < 64
            · -- {C
              have d3 : decide ((t : Int) < 64) = true := by rw [decide_eq_true_iff]; omega
              have hr := Lib.hid (ShaP.rounds_succ (spread blk) t st)
              have hk5 : ∀ w1, Reg.Ext wr w1 → w1.cell? ⟨g5, t, none⟩ = some (.int .u32 (nv (keysL.getD t 0#32) : Int)) := by
                intro w1 h
                rw [(H5.out.ext h).cell, List.getElem?_map, List.getElem?_eq_getElem (by rw [keys_len]; exact ht64)]
                simp [wv, List.getD, List.getElem?_eq_getElem (show t < keysL.length by rw [keys_len]; exact ht64)]
              have hsl : (spread blk).length = 64 := by rw [← full_end, full_length blk 64 (by omega) (by omega)]
              have hk6 : ∀ w1, Reg.Ext wr w1 → w1.cell? ⟨g6, t, none⟩ = some (.int .u32 (nv ((spread blk).getD t 0#32) : Int)) := by
                intro w1 h
                rw [(H6.out.ext h).cell, List.getElem?_map, List.getElem?_eq_getElem (by rw [hsl]; exact ht64)]
                simp [wv, List.getD, List.getElem?_eq_getElem (show t < (spread blk).length by rw [hsl]; exact ht64)]
              have HK5 := Lib.hid hk5
              have HK6 := Lib.hid hk6
              clear hk5 hk6 hsl
              generalize ShaP.rounds (spread blk) t st = v at *
              generalize keysL.getD t 0#32 = kt at *
              generalize (spread blk).getD t 0#32 = wt at *
              obtain ⟨a, b, c, d, e, f, g, h⟩ := v
              have hv : ∀ w1, Reg.Ext wr w1 → w1.cell? ⟨g11, 0, none⟩ = some (.int .u32 (nv a : Int)) ∧ w1.cell? ⟨g11, 1, none⟩ = some (.int .u32 (nv b : Int)) ∧ w1.cell? ⟨g11, 2, none⟩ = some (.int .u32 (nv c : Int)) ∧ w1.cell? ⟨g11, 3, none⟩ = some (.int .u32 (nv d : Int)) ∧
                  w1.cell? ⟨g11, 4, none⟩ = some (.int .u32 (nv e : Int)) ∧ w1.cell? ⟨g11, 5, none⟩ = some (.int .u32 (nv f : Int)) ∧ w1.cell? ⟨g11, 6, none⟩ = some (.int .u32 (nv g : Int)) ∧ w1.cell? ⟨g11, 7, none⟩ = some (.int .u32 (nv h : Int)) := by
                intro w1 hx
                have h1 := HB.out.ext hx
                exact ⟨h1.cell 0, h1.cell 1, h1.cell 2, h1.cell 3, h1.cell 4, h1.cell 5, h1.cell 6, h1.cell 7⟩
              have HV := Lib.hid hv
              clear hv
              obtain ⟨s0, s1, s2, s3, s4, s5, s6, s7⟩ := HV.out wr (Reg.Ext.refl _)
              clear s1 s2 s3 s5 s6 s7
              go_wp2_with fail
              clear s0 s4
              apply Reg.wp_tab Reg.Ext (by kernel_rfl) (by kernel_rfl) Reg.Ext.refl (fun _ _ _ => Reg.Ext.trans) (Reg.Ext.drew _)
              case h =>
                intro O
                repeat (first
                  | (apply Reg.TW.move_ Reg.Ext.refl _ rfl rfl
                     · simp only [Act.put, Act.eval, List.setIfInBounds_toArray, List.set_cons_zero, List.set_cons_succ, Nat.reduceAdd, Array.getD_eq_getD_getElem?, List.getElem?_toArray, List.getElem?_cons_succ, List.getElem?_cons_zero, Option.getD_some]
                       rfl)
                  | (apply Reg.TW.assign_ Reg.Ext.refl _ rfl rfl
                     · simp only [Act.put, Act.eval, List.setIfInBounds_toArray, List.set_cons_zero, List.set_cons_succ, Nat.reduceAdd, Array.getD_eq_getD_getElem?, List.getElem?_toArray, List.getElem?_cons_succ, List.getElem?_cons_zero, Option.getD_some]
                       rfl)
                  | (apply Reg.TW.skip_ rfl
                     · simp only [Act.put, Act.eval, List.setIfInBounds_toArray, List.set_cons_zero, List.set_cons_succ, Nat.reduceAdd, Array.getD_eq_getD_getElem?, List.getElem?_toArray, List.getElem?_cons_succ, List.getElem?_cons_zero, Option.getD_some]
                       rfl)
                  | (apply Reg.TW.pure_ rfl
                     · intro w1 hw1 hf K hK
                       simp only [Act.put, List.setIfInBounds_toArray, List.set_cons_zero, List.set_cons_succ] at hK
                       have HK := Lib.hid hK
                       clear hf hK
                       obtain ⟨s0, s1, s2, s3, s4, s5, s6, s7⟩ := HV.out w1 hw1
                       unfold Reg.One; dsimp only
                       go_wp2_with fail
                       exact HK.out _ (Reg.Ext.refl _)
                     · simp only [Act.put, Act.eval, List.setIfInBounds_toArray, List.set_cons_zero, List.set_cons_succ, Nat.reduceAdd, Array.getD_eq_getD_getElem?, List.getElem?_toArray, List.getElem?_cons_succ, List.getElem?_cons_zero, Option.getD_some]
                       rfl))
                apply Reg.TW.call_ (c := .int .u32 (nv (rr e 6) : Int)) (fun _ => True) rfl (fun _ _ _ h => h)
                · intro w1 hw1 hf K hK
                  simp only [Act.put, List.setIfInBounds_toArray, List.set_cons_zero, List.set_cons_succ] at hK
                  have HK := Lib.hid hK
                  clear hK
                  unfold Reg.One; dsimp only
                  go_wp2_with fail
                  refine (turnR_at e 6 6 _ rfl (by simp [isRot])).mono ?_
                  rintro e w' ⟨rfl, hx⟩
                  go_wp2_with fail
                  exact HK.out _ hx trivial
                · simp only [Act.put, Act.eval, List.setIfInBounds_toArray, List.set_cons_zero, List.set_cons_succ, Nat.reduceAdd, Array.getD_eq_getD_getElem?, List.getElem?_toArray, List.getElem?_cons_succ, List.getElem?_cons_zero, Option.getD_some]
                  rfl
                repeat (first
                  | (apply Reg.TW.move_ Reg.Ext.refl _ rfl rfl
                     · simp only [Act.put, Act.eval, List.setIfInBounds_toArray, List.set_cons_zero, List.set_cons_succ, Nat.reduceAdd, Array.getD_eq_getD_getElem?, List.getElem?_toArray, List.getElem?_cons_succ, List.getElem?_cons_zero, Option.getD_some]
                       rfl)
                  | (apply Reg.TW.assign_ Reg.Ext.refl _ rfl rfl
                     · simp only [Act.put, Act.eval, List.setIfInBounds_toArray, List.set_cons_zero, List.set_cons_succ, Nat.reduceAdd, Array.getD_eq_getD_getElem?, List.getElem?_toArray, List.getElem?_cons_succ, List.getElem?_cons_zero, Option.getD_some]
                       rfl)
                  | (apply Reg.TW.skip_ rfl
                     · simp only [Act.put, Act.eval, List.setIfInBounds_toArray, List.set_cons_zero, List.set_cons_succ, Nat.reduceAdd, Array.getD_eq_getD_getElem?, List.getElem?_toArray, List.getElem?_cons_succ, List.getElem?_cons_zero, Option.getD_some]
                       rfl)
                  | (apply Reg.TW.pure_ rfl
                     · intro w1 hw1 hf K hK
                       simp only [Act.put, List.setIfInBounds_toArray, List.set_cons_zero, List.set_cons_succ] at hK
                       have HK := Lib.hid hK
                       clear hf hK
                       unfold Reg.One; dsimp only
                       go_wp2_with fail
                       exact HK.out _ (Reg.Ext.refl _)
                     · simp only [Act.put, Act.eval, List.setIfInBounds_toArray, List.set_cons_zero, List.set_cons_succ, Nat.reduceAdd, Array.getD_eq_getD_getElem?, List.getElem?_toArray, List.getElem?_cons_succ, List.getElem?_cons_zero, Option.getD_some]
                       rfl))
                apply Reg.TW.call_ (c := .int .u32 (nv (rr e 11) : Int)) (fun _ => True) rfl (fun _ _ _ h => h)
                · intro w1 hw1 hf K hK
                  simp only [Act.put, List.setIfInBounds_toArray, List.set_cons_zero, List.set_cons_succ] at hK
                  have HK := Lib.hid hK
                  clear hK
                  unfold Reg.One; dsimp only
                  go_wp2_with fail
                  refine (turnR_at e 11 11 _ rfl (by simp [isRot])).mono ?_
                  rintro e w' ⟨rfl, hx⟩
                  go_wp2_with fail
                  exact HK.out _ hx trivial
                · simp only [Act.put, Act.eval, List.setIfInBounds_toArray, List.set_cons_zero, List.set_cons_succ, Nat.reduceAdd, Array.getD_eq_getD_getElem?, List.getElem?_toArray, List.getElem?_cons_succ, List.getElem?_cons_zero, Option.getD_some]
                  rfl
                repeat (first
                  | (apply Reg.TW.move_ Reg.Ext.refl _ rfl rfl
                     · simp only [Act.put, Act.eval, List.setIfInBounds_toArray, List.set_cons_zero, List.set_cons_succ, Nat.reduceAdd, Array.getD_eq_getD_getElem?, List.getElem?_toArray, List.getElem?_cons_succ, List.getElem?_cons_zero, Option.getD_some]
                       rfl)
                  | (apply Reg.TW.assign_ Reg.Ext.refl _ rfl rfl
                     · simp only [Act.put, Act.eval, List.setIfInBounds_toArray, List.set_cons_zero, List.set_cons_succ, Nat.reduceAdd, Array.getD_eq_getD_getElem?, List.getElem?_toArray, List.getElem?_cons_succ, List.getElem?_cons_zero, Option.getD_some]
                       rfl)
                  | (apply Reg.TW.skip_ rfl
                     · simp only [Act.put, Act.eval, List.setIfInBounds_toArray, List.set_cons_zero, List.set_cons_succ, Nat.reduceAdd, Array.getD_eq_getD_getElem?, List.getElem?_toArray, List.getElem?_cons_succ, List.getElem?_cons_zero, Option.getD_some]
                       rfl)
                  | (apply Reg.TW.pure_ rfl
                     · intro w1 hw1 hf K hK
                       simp only [Act.put, List.setIfInBounds_toArray, List.set_cons_zero, List.set_cons_succ] at hK
                       have HK := Lib.hid hK
                       clear hf hK
                       unfold Reg.One; dsimp only
                       go_wp2_with fail
                       exact HK.out _ (Reg.Ext.refl _)
                     · simp only [Act.put, Act.eval, List.setIfInBounds_toArray, List.set_cons_zero, List.set_cons_succ, Nat.reduceAdd, Array.getD_eq_getD_getElem?, List.getElem?_toArray, List.getElem?_cons_succ, List.getElem?_cons_zero, Option.getD_some]
                       rfl))
                apply Reg.TW.call_ (c := .int .u32 (nv (rr e 25) : Int)) (fun _ => True) rfl (fun _ _ _ h => h)
                · intro w1 hw1 hf K hK
                  simp only [Act.put, List.setIfInBounds_toArray, List.set_cons_zero, List.set_cons_succ] at hK
                  have HK := Lib.hid hK
                  clear hK
                  unfold Reg.One; dsimp only
                  go_wp2_with fail
                  refine (turnR_at e 25 25 _ rfl (by simp [isRot])).mono ?_
                  rintro e w' ⟨rfl, hx⟩
                  go_wp2_with fail
                  exact HK.out _ hx trivial
                · simp only [Act.put, Act.eval, List.setIfInBounds_toArray, List.set_cons_zero, List.set_cons_succ, Nat.reduceAdd, Array.getD_eq_getD_getElem?, List.getElem?_toArray, List.getElem?_cons_succ, List.getElem?_cons_zero, Option.getD_some]
                  rfl
                repeat (first
                  | (apply Reg.TW.move_ Reg.Ext.refl _ rfl rfl
                     · simp only [Act.put, Act.eval, List.setIfInBounds_toArray, List.set_cons_zero, List.set_cons_succ, Nat.reduceAdd, Array.getD_eq_getD_getElem?, List.getElem?_toArray, List.getElem?_cons_succ, List.getElem?_cons_zero, Option.getD_some]
                       rfl)
                  | (apply Reg.TW.assign_ Reg.Ext.refl _ rfl rfl
                     · simp only [Act.put, Act.eval, List.setIfInBounds_toArray, List.set_cons_zero, List.set_cons_succ, Nat.reduceAdd, Array.getD_eq_getD_getElem?, List.getElem?_toArray, List.getElem?_cons_succ, List.getElem?_cons_zero, Option.getD_some]
                       rfl)
                  | (apply Reg.TW.skip_ rfl
                     · simp only [Act.put, Act.eval, List.setIfInBounds_toArray, List.set_cons_zero, List.set_cons_succ, Nat.reduceAdd, Array.getD_eq_getD_getElem?, List.getElem?_toArray, List.getElem?_cons_succ, List.getElem?_cons_zero, Option.getD_some]
                       rfl)
                  | (apply Reg.TW.pure_ rfl
                     · intro w1 hw1 hf K hK
                       simp only [Act.put, List.setIfInBounds_toArray, List.set_cons_zero, List.set_cons_succ] at hK
                       have HK := Lib.hid hK
                       clear hf hK
                       obtain ⟨s0, s1, s2, s3, s4, s5, s6, s7⟩ := HV.out w1 hw1; have k5 := HK5.out w1 hw1; have k6 := HK6.out w1 hw1
                       unfold Reg.One; dsimp only
                       go_wp2_with fail
                       exact HK.out _ (Reg.Ext.refl _)
                     · simp only [Act.put, Act.eval, List.setIfInBounds_toArray, List.set_cons_zero, List.set_cons_succ, Nat.reduceAdd, Array.getD_eq_getD_getElem?, List.getElem?_toArray, List.getElem?_cons_succ, List.getElem?_cons_zero, Option.getD_some]
                       rfl))
                refine Reg.TW.nil_ ?_
                intro wa hwa _
                have XA := Lib.hid hwa
                clear hwa
                go_wp2_with fail
                apply Reg.wp_tab Reg.Ext (by kernel_rfl) (by kernel_rfl) Reg.Ext.refl (fun _ _ _ => Reg.Ext.trans) (Reg.Ext.drew _)
                case h =>
                  intro O
                  repeat (first
                    | (apply Reg.TW.move_ Reg.Ext.refl _ rfl rfl
                       · simp only [Act.put, Act.eval, List.setIfInBounds_toArray, List.set_cons_zero, List.set_cons_succ, Nat.reduceAdd, Array.getD_eq_getD_getElem?, List.getElem?_toArray, List.getElem?_cons_succ, List.getElem?_cons_zero, Option.getD_some]
                         rfl)
                    | (apply Reg.TW.assign_ Reg.Ext.refl _ rfl rfl
                       · simp only [Act.put, Act.eval, List.setIfInBounds_toArray, List.set_cons_zero, List.set_cons_succ, Nat.reduceAdd, Array.getD_eq_getD_getElem?, List.getElem?_toArray, List.getElem?_cons_succ, List.getElem?_cons_zero, Option.getD_some]
                         rfl)
                    | (apply Reg.TW.skip_ rfl
                       · simp only [Act.put, Act.eval, List.setIfInBounds_toArray, List.set_cons_zero, List.set_cons_succ, Nat.reduceAdd, Array.getD_eq_getD_getElem?, List.getElem?_toArray, List.getElem?_cons_succ, List.getElem?_cons_zero, Option.getD_some]
                         rfl)
                    | (apply Reg.TW.pure_ rfl
                       · intro w1 hw1 hf K hK
                         simp only [Act.put, List.setIfInBounds_toArray, List.set_cons_zero, List.set_cons_succ] at hK
                         have HK := Lib.hid hK
                         clear hf hK
                         unfold Reg.One; dsimp only
                         go_wp2_with fail
                         exact HK.out _ (Reg.Ext.refl _)
                       · simp only [Act.put, Act.eval, List.setIfInBounds_toArray, List.set_cons_zero, List.set_cons_succ, Nat.reduceAdd, Array.getD_eq_getD_getElem?, List.getElem?_toArray, List.getElem?_cons_succ, List.getElem?_cons_zero, Option.getD_some]
                         rfl))
                  apply Reg.TW.call_ (c := .int .u32 (nv (rr a 2) : Int)) (fun _ => True) rfl (fun _ _ _ h => h)
                  · intro w1 hw1 hf K hK
                    simp only [Act.put, List.setIfInBounds_toArray, List.set_cons_zero, List.set_cons_succ] at hK
                    have HK := Lib.hid hK
                    clear hK
                    unfold Reg.One; dsimp only
                    go_wp2_with fail
                    refine (turnR_at a 2 2 _ rfl (by simp [isRot])).mono ?_
                    rintro e w' ⟨rfl, hx⟩
                    go_wp2_with fail
                    exact HK.out _ hx trivial
                  · simp only [Act.put, Act.eval, List.setIfInBounds_toArray, List.set_cons_zero, List.set_cons_succ, Nat.reduceAdd, Array.getD_eq_getD_getElem?, List.getElem?_toArray, List.getElem?_cons_succ, List.getElem?_cons_zero, Option.getD_some]
                    rfl
                  repeat (first
                    | (apply Reg.TW.move_ Reg.Ext.refl _ rfl rfl
                       · simp only [Act.put, Act.eval, List.setIfInBounds_toArray, List.set_cons_zero, List.set_cons_succ, Nat.reduceAdd, Array.getD_eq_getD_getElem?, List.getElem?_toArray, List.getElem?_cons_succ, List.getElem?_cons_zero, Option.getD_some]
                         rfl)
                    | (apply Reg.TW.assign_ Reg.Ext.refl _ rfl rfl
                       · simp only [Act.put, Act.eval, List.setIfInBounds_toArray, List.set_cons_zero, List.set_cons_succ, Nat.reduceAdd, Array.getD_eq_getD_getElem?, List.getElem?_toArray, List.getElem?_cons_succ, List.getElem?_cons_zero, Option.getD_some]
                         rfl)
                    | (apply Reg.TW.skip_ rfl
                       · simp only [Act.put, Act.eval, List.setIfInBounds_toArray, List.set_cons_zero, List.set_cons_succ, Nat.reduceAdd, Array.getD_eq_getD_getElem?, List.getElem?_toArray, List.getElem?_cons_succ, List.getElem?_cons_zero, Option.getD_some]
                         rfl)
                    | (apply Reg.TW.pure_ rfl
                       · intro w1 hw1 hf K hK
                         simp only [Act.put, List.setIfInBounds_toArray, List.set_cons_zero, List.set_cons_succ] at hK
                         have HK := Lib.hid hK
                         clear hf hK
                         unfold Reg.One; dsimp only
                         go_wp2_with fail
                         exact HK.out _ (Reg.Ext.refl _)
                       · simp only [Act.put, Act.eval, List.setIfInBounds_toArray, List.set_cons_zero, List.set_cons_succ, Nat.reduceAdd, Array.getD_eq_getD_getElem?, List.getElem?_toArray, List.getElem?_cons_succ, List.getElem?_cons_zero, Option.getD_some]
                         rfl))
                  apply Reg.TW.call_ (c := .int .u32 (nv (rr a 13) : Int)) (fun _ => True) rfl (fun _ _ _ h => h)
                  · intro w1 hw1 hf K hK
                    simp only [Act.put, List.setIfInBounds_toArray, List.set_cons_zero, List.set_cons_succ] at hK
                    have HK := Lib.hid hK
                    clear hK
                    unfold Reg.One; dsimp only
                    go_wp2_with fail
                    refine (turnR_at a 13 13 _ rfl (by simp [isRot])).mono ?_
                    rintro e w' ⟨rfl, hx⟩
                    go_wp2_with fail
                    exact HK.out _ hx trivial
                  · simp only [Act.put, Act.eval, List.setIfInBounds_toArray, List.set_cons_zero, List.set_cons_succ, Nat.reduceAdd, Array.getD_eq_getD_getElem?, List.getElem?_toArray, List.getElem?_cons_succ, List.getElem?_cons_zero, Option.getD_some]
                    rfl
                  repeat (first
                    | (apply Reg.TW.move_ Reg.Ext.refl _ rfl rfl
                       · simp only [Act.put, Act.eval, List.setIfInBounds_toArray, List.set_cons_zero, List.set_cons_succ, Nat.reduceAdd, Array.getD_eq_getD_getElem?, List.getElem?_toArray, List.getElem?_cons_succ, List.getElem?_cons_zero, Option.getD_some]
                         rfl)
                    | (apply Reg.TW.assign_ Reg.Ext.refl _ rfl rfl
                       · simp only [Act.put, Act.eval, List.setIfInBounds_toArray, List.set_cons_zero, List.set_cons_succ, Nat.reduceAdd, Array.getD_eq_getD_getElem?, List.getElem?_toArray, List.getElem?_cons_succ, List.getElem?_cons_zero, Option.getD_some]
                         rfl)
                    | (apply Reg.TW.skip_ rfl
                       · simp only [Act.put, Act.eval, List.setIfInBounds_toArray, List.set_cons_zero, List.set_cons_succ, Nat.reduceAdd, Array.getD_eq_getD_getElem?, List.getElem?_toArray, List.getElem?_cons_succ, List.getElem?_cons_zero, Option.getD_some]
                         rfl)
                    | (apply Reg.TW.pure_ rfl
                       · intro w1 hw1 hf K hK
                         simp only [Act.put, List.setIfInBounds_toArray, List.set_cons_zero, List.set_cons_succ] at hK
                         have HK := Lib.hid hK
                         clear hf hK
                         unfold Reg.One; dsimp only
                         go_wp2_with fail
                         exact HK.out _ (Reg.Ext.refl _)
                       · simp only [Act.put, Act.eval, List.setIfInBounds_toArray, List.set_cons_zero, List.set_cons_succ, Nat.reduceAdd, Array.getD_eq_getD_getElem?, List.getElem?_toArray, List.getElem?_cons_succ, List.getElem?_cons_zero, Option.getD_some]
                         rfl))
                  apply Reg.TW.call_ (c := .int .u32 (nv (rr a 22) : Int)) (fun _ => True) rfl (fun _ _ _ h => h)
                  · intro w1 hw1 hf K hK
                    simp only [Act.put, List.setIfInBounds_toArray, List.set_cons_zero, List.set_cons_succ] at hK
                    have HK := Lib.hid hK
                    clear hK
                    unfold Reg.One; dsimp only
                    go_wp2_with fail
                    refine (turnR_at a 22 22 _ rfl (by simp [isRot])).mono ?_
                    rintro e w' ⟨rfl, hx⟩
                    go_wp2_with fail
                    exact HK.out _ hx trivial
                  · simp only [Act.put, Act.eval, List.setIfInBounds_toArray, List.set_cons_zero, List.set_cons_succ, Nat.reduceAdd, Array.getD_eq_getD_getElem?, List.getElem?_toArray, List.getElem?_cons_succ, List.getElem?_cons_zero, Option.getD_some]
                    rfl
                  repeat (first
                    | (apply Reg.TW.move_ Reg.Ext.refl _ rfl rfl
                       · simp only [Act.put, Act.eval, List.setIfInBounds_toArray, List.set_cons_zero, List.set_cons_succ, Nat.reduceAdd, Array.getD_eq_getD_getElem?, List.getElem?_toArray, List.getElem?_cons_succ, List.getElem?_cons_zero, Option.getD_some]
                         rfl)
                    | (apply Reg.TW.assign_ Reg.Ext.refl _ rfl rfl
                       · simp only [Act.put, Act.eval, List.setIfInBounds_toArray, List.set_cons_zero, List.set_cons_succ, Nat.reduceAdd, Array.getD_eq_getD_getElem?, List.getElem?_toArray, List.getElem?_cons_succ, List.getElem?_cons_zero, Option.getD_some]
                         rfl)
                    | (apply Reg.TW.skip_ rfl
                       · simp only [Act.put, Act.eval, List.setIfInBounds_toArray, List.set_cons_zero, List.set_cons_succ, Nat.reduceAdd, Array.getD_eq_getD_getElem?, List.getElem?_toArray, List.getElem?_cons_succ, List.getElem?_cons_zero, Option.getD_some]
                         rfl)
                    | (apply Reg.TW.pure_ rfl
                       · intro w1 hw1 hf K hK
                         simp only [Act.put, List.setIfInBounds_toArray, List.set_cons_zero, List.set_cons_succ] at hK
                         have HK := Lib.hid hK
                         clear hf hK
                         obtain ⟨s0, s1, s2, s3, s4, s5, s6, s7⟩ := HV.out w1 (XA.out.trans hw1)
                         unfold Reg.One; dsimp only
                         go_wp2_with fail
                         exact HK.out _ (Reg.Ext.refl _)
                       · simp only [Act.put, Act.eval, List.setIfInBounds_toArray, List.set_cons_zero, List.set_cons_succ, Nat.reduceAdd, Array.getD_eq_getD_getElem?, List.getElem?_toArray, List.getElem?_cons_succ, List.getElem?_cons_zero, Option.getD_some]
                         rfl))
                  refine Reg.TW.nil_ ?_
                  intro wb hwb _
                  have XB := Lib.hid (XA.out.trans hwb)
                  clear hwb XA
                  obtain ⟨s0, s1, s2, s3, s4, s5, s6, s7⟩ := HV.out wb XB.out
                  go_upto_region 21 with (fail)
                  refine wp_region_lit ?_
                  iterate 60 go_step
                  clear s0 s1 s2 s3 s4 s5 s6 s7
                  have HB2 := HB.out.ext XB.out
                  obtain ⟨nw, hnw⟩ : ∃ nw : S8, nw = (⟨h + (rr e 6 ^^^ rr e 11 ^^^ rr e 25) + (e &&& f ^^^ ~~~e &&& g) + kt + wt + ((rr a 2 ^^^ rr a 13 ^^^ rr a 22) + (a &&& b ^^^ a &&& c ^^^ b &&& c)), a, b, c, d + (h + (rr e 6 ^^^ rr e 11 ^^^ rr e 25) + (e &&& f ^^^ ~~~e &&& g) + kt + wt), e, f, g⟩ : S8) := ⟨_, rfl⟩
                  have hnr : nw = ShaP.round ⟨a, b, c, d, e, f, g, h⟩ kt wt := by rw [hnw]; simp only [ShaP.round, S1, S0, ch, maj]
                  have hv : (.agg #[.int .u32 (nv (h + (rr e 6 ^^^ rr e 11 ^^^ rr e 25) + (e &&& f ^^^ ~~~e &&& g) + kt + wt + ((rr a 2 ^^^ rr a 13 ^^^ rr a 22) + (a &&& b ^^^ a &&& c ^^^ b &&& c))) : Int), .int .u32 (nv a : Int), .int .u32 (nv b : Int), .int .u32 (nv c : Int), .int .u32 (nv (d + (h + (rr e 6 ^^^ rr e 11 ^^^ rr e 25) + (e &&& f ^^^ ~~~e &&& g) + kt + wt)) : Int), .int .u32 (nv e : Int), .int .u32 (nv f : Int), .int .u32 (nv g : Int)] : Value) = .agg (nw.list.map wv).toArray := by rw [hnw]; simp only [S8.list, List.map_cons, List.map_nil, wv]
                  clear hnw
                  refine wpList_store_mid rfl 38 (.tmp 11) (.tmp 178) rfl g11 0 (nw.list.map wv).toArray rfl ?_ (HB2.there _ (Nat.le_refl 8)) (by rw [List.size_toArray, List.length_map]; kernel_rfl) ?_ ?_
                  · simp only [Act.eval, Array.getD_eq_getD_getElem?, List.getElem?_toArray, List.getElem?_cons_succ, List.getElem?_cons_zero, Option.getD_some]
                    exact hv
                  · refine all_oneCell_toArray fun v hv => ?_
                    obtain ⟨x, _, rfl⟩ := List.mem_map.1 hv
                    rfl
                  clear hv
                  simp only [List.toList_toArray]
                  simp only [Act.put, Act.eval, List.setIfInBounds_toArray, List.set_cons_zero, List.set_cons_succ, Nat.reduceAdd, Array.getD_eq_getD_getElem?, List.getElem?_toArray, List.getElem?_cons_succ, List.getElem?_cons_zero, Option.getD_some]
                  have HN : Hid (Blk (wb.setCells g11 0 (nw.list.map wv)) g11 38 ((ShaP.rounds (spread blk) (t + 1) st).list.map wv)) := by
                    show Blk _ _ _ _
                    rw [hr.out, ← hnr]
                    exact HB2.setAll _ rfl
                  have HUN := Lib.hid ((HU.out.trans (But.of_ext XB.out)).trans (But.setCells g11 (nw.list.map wv) 0 wb))
                  clear hnr
                  generalize wb.setCells g11 0 (nw.list.map wv) = wn at *
                  clear HB2 HB HU XB HV hr HK5 HK6
                  go_wp2_with fail
                  exact ⟨⟨t + 1, by omega, by go_num, HN, HUN⟩, by simp [intOf]; omega⟩
                case hlen => rfl
              case hlen => rfl
              -- C}
            · have ht' : t = 64 := by omega
              subst ht'
              have H2 := Lib.hid (H2.out.but HU.out (by omega))
              have H4 := Lib.hid (H4.out.but HU.out (by omega))
              have X := Lib.hid (X.out.trans_but HU.out HG11)
              have HTU := Lib.hid (show (ShaP.turn st blk).list = addsL (ShaP.rounds (spread blk) 64 st).list st.list 8 from (addsL_end (ShaP.rounds (spread blk) 64 st) st).symm)
              obtain ⟨res, hres⟩ : ∃ res, res = ShaP.turn st blk := ⟨_, rfl⟩
              rw [← hres] at HTU
              have HRES := Lib.hid hres
              clear hres
              generalize ShaP.rounds (spread blk) 64 st = v at *
              have H11 := Lib.hid (show Blk wr g11 38 ((addsL v.list st.list 0).map wv) from HB.out)
              clear HB HU H5 H6
              rw [show ((64 : Nat) : Int) = 64 from rfl]
              go_wp2_with fail
              obtain ⟨w9, rfl⟩ : ∃ w9 : World, w9 = wr := ⟨_, rfl⟩
              go_loopw [17] (fun i wr => ∃ k : Nat, k ≤ 8 ∧ i = .int .i64 k ∧ Hid (Blk wr g11 38 ((addsL v.list st.list k).map wv)) ∧ Hid (But g11 w9 wr)) (fun i _ => 8 - (intOf i).toNat)
              case atStart => exact ⟨0, by omega, rfl, H11, But.refl _ _⟩
              case round =>
                obtain ⟨k, hk, rfl, HB, HU⟩ := hrel
                clear H11
                by_cases hk8 : k < 8
                · skip
                  have d4 : decide ((k : Int) < 8) = true := by rw [decide_eq_true_iff]; omega
                  have hvl : v.list.length = 8 := rfl
                  have hsl : st.list.length = 8 := rfl
                  have cv : wr.cell? ⟨g11, k, none⟩ = some (.int .u32 (nv (v.list[k]'(by omega)) : Int)) := by
                    rw [HB.out.cell, List.getElem?_map, addsL_get _ _ _ (by omega) (by omega)]; rfl
                  have cs : wr.cell? ⟨g2, k, none⟩ = some (.int .u32 (nv (st.list[k]'(by omega)) : Int)) := by
                    rw [(H2.out.but HU.out (by omega)).cell, List.getElem?_map, List.getElem?_eq_getElem (by omega)]; rfl
                  have hset := HB.out.set_ k (wv (v.list[k]'(by omega) + st.list[k]'(by omega)))
                  rw [← List.map_set, addsL_set _ _ _ (by omega) (by omega)] at hset
                  have hbut := HU.out.trans (But.set_ g11 wr k (wv (v.list[k]'(by omega) + st.list[k]'(by omega))))
                  have fv := HB.out.frozen k
                  generalize v.list[k]'(by omega) = x at *
                  generalize st.list[k]'(by omega) = y at *
                  have HSET := Lib.hid hset
                  have HBUT := Lib.hid hbut
                  clear hset hbut hvl hsl HB HU
                  unfold wv at HSET HBUT
                  have e5 := bv_add x y
                  go_wp2_with fail
                  go_region
                  all_goals
                    go_wp2_with fail
                    try rw [e5]
                    exact ⟨⟨k + 1, by omega, by go_num, HSET.out.drew, HBUT.out.trans (But.of_ext (Reg.Ext.drew _))⟩, by simp [intOf]; omega⟩
                · have hk' : k = 8 := by omega
                  subst hk'
                  have H4 := Lib.hid (H4.out.but HU.out (by omega))
                  have X := Lib.hid (X.out.trans_but HU.out HG11)
                  have H11 := HB.out
                  rw [← HTU.out] at H11
                  clear HB HU
                  go_upto_region 26 with (fail)
                  refine wp_region_lit ?_
                  refine wpList_load_row rfl 38 _ rfl g11 rfl 38 (res.list.map wv).toArray (0, 0) _ H11 Tryd.underlying38 rfl (by rw [List.size_toArray, hl8]; kernel_rfl) ?_
                  simp only [Act.put, Act.eval, List.setIfInBounds_toArray, List.set_cons_zero, List.set_cons_succ, Nat.reduceAdd, Array.getD_eq_getD_getElem?, List.getElem?_toArray, List.getElem?_cons_succ, List.getElem?_cons_zero, Option.getD_some]
                  have H4o := H4.out
                  refine wpList_store_mid rfl 38 _ _ rfl g4 0 ((res).list.map wv).toArray rfl rfl (H4o.there _ (Nat.le_refl 8)) (by rw [List.size_toArray, List.length_map]; kernel_rfl) ?_ ?_
                  · refine all_oneCell_toArray fun v hv => ?_
                    obtain ⟨x, _, rfl⟩ := List.mem_map.1 hv
                    rfl
                  simp only [List.toList_toArray]
                  simp only [Act.put, Act.eval, List.setIfInBounds_toArray, List.set_cons_zero, List.set_cons_succ, Nat.reduceAdd, Array.getD_eq_getD_getElem?, List.getElem?_toArray, List.getElem?_cons_succ, List.getElem?_cons_zero, Option.getD_some]
                  have H4n := Lib.hid (H4o.setAll (res.list.map wv) rfl)
                  have XN := Lib.hid (X.out.trans_but (But.setCells g4 (res.list.map wv) 0 wr) HG4)
                  generalize wr.setCells g4 0 (res.list.map wv) = wn at *
                  clear H4o H4 H11 X
                  go_wp2_with fail
                  exact bodyPost_ret (results_cell_row rfl _ _ g4 38 (res.list.map wv).toArray (0, 0) _ rfl H4n.out Tryd.underlying38 rfl (by rw [List.size_toArray, hl8]; kernel_rfl)) rfl ⟨by rw [HRES.out], XN.out⟩
end ShaR
end Go.Proofs.YthgbhpeidngjmaaDoor

/- The walks of package sha: Of. -/
import Derived.Test.YthgbhpeidngjmaaDoorShaSum
set_option linter.unusedSimpArgs false
set_option linter.unusedVariables false
set_option linter.unusedSectionVars false
namespace Go.Proofs.YthgbhpeidngjmaaDoor
open Go.RowKit
namespace Sha
open ShaP
theorem Keys.lt {w : World} (h : Keys w) : 1 < w.heap.size := World.block_lt_of_cell? w _ (h 0 (by omega))
theorem StartIs.lt {w : World} (h : StartIs w) : 0 < w.heap.size := by
  have key : ∃ a b c d e f g i : W, state [] = ⟨a, b, c, d, e, f, g, i⟩ := ⟨_, _, _, _, _, _, _, _, rfl⟩
  obtain ⟨a, b, c, d, e, f, g, i, hst⟩ := key
  have h0 := h 0 (by omega)
  exact World.block_lt_of_cell? w _ h0
theorem StartIs.ext {w w' : World} (h : StartIs w) (hx : Reg.Ext w w') : StartIs w' := h.below hx h.lt
/-- texts, one behind the other -/
def cat (ss : List ByteArray) : List UInt8 := ss.flatMap fun s => s.data.toList
theorem cat_take (ss : List ByteArray) (k : Nat) (h : k < ss.length) : cat (ss.take (k + 1)) = cat (ss.take k) ++ ss[k].data.toList := by
  rw [List.take_succ_eq_append_getElem h, cat, List.flatMap_append]
  simp [cat]
theorem cat_le (ss : List ByteArray) (k : Nat) : (cat (ss.take k)).length ≤ (cat ss).length := by
  conv => rhs; rw [← List.take_append_drop k ss, cat, List.flatMap_append, List.length_append]
  exact Nat.le_add_right _ _
theorem Abs.ext {w w' : World} {p T : Nat} {l : List UInt8} {size : Nat} (h : Abs w p T l size) (hx : Reg.Ext w w') : Abs w' p T l size := by
  obtain ⟨rest, hat, hr⟩ := h
  exact ⟨rest, ⟨hat.1, hat.2.ext hx⟩, hr⟩
theorem Abs.lt {w : World} {p T : Nat} {l : List UInt8} {size : Nat} (h : Abs w p T l size) : p < w.heap.size := by
  obtain ⟨rest, hat, hr⟩ := h
  exact hat.2.lt
theorem Abs.but {w w' : World} {p T q : Nat} {l : List UInt8} {size : Nat} (h : Abs w p T l size) (hb : But q w w') (hne : p ≠ q) : Abs w' p T l size := by
  obtain ⟨rest, hat, hr⟩ := h
  exact ⟨rest, ⟨hat.1, hat.2.but hb hne⟩, hr⟩
set_option maxRecDepth 100000 in
set_option maxHeartbeats 2000000 in
theorem of_any (A : Option Addr) (n c : Nat) (ss : List ByteArray) (w : World) (hn : ss.length = n) (hm : n ≤ maxLen) (hr : Rd w A (ss.map strV)) (hz : (cat ss).length < 1152921504606846976) (hk : Keys w) (hst : StartIs w) :
    Calls Tryd.prog 12 #[.slice A n c] w fun e w' => e = .returned (.agg ((sum (cat ss)).map byteV).toArray) ∧ Reg.Ext w w' := by
  unfold maxLen at hm
  have HN := Lib.hid hn
  have HR := Lib.hid hr
  have hg := hk.lt
  have hg2 := hst.lt
  clear hn hr
  go_enter Tryd.func12, Tryd.ntmps12
  go_wp2_with fail
  have hb0 := Blk.new w 28 #[Value.int .u8 0, Value.int .u8 0, Value.int .u8 0, Value.int .u8 0, Value.int .u8 0, Value.int .u8 0, Value.int .u8 0, Value.int .u8 0, Value.int .u8 0, Value.int .u8 0, Value.int .u8 0, Value.int .u8 0, Value.int .u8 0, Value.int .u8 0, Value.int .u8 0, Value.int .u8 0, Value.int .u8 0, Value.int .u8 0, Value.int .u8 0, Value.int .u8 0, Value.int .u8 0, Value.int .u8 0, Value.int .u8 0, Value.int .u8 0, Value.int .u8 0, Value.int .u8 0, Value.int .u8 0, Value.int .u8 0, Value.int .u8 0, Value.int .u8 0, Value.int .u8 0, Value.int .u8 0]
  have hx0 := Reg.Ext.alloc w (Obj.cells #[Value.int .u8 0, Value.int .u8 0, Value.int .u8 0, Value.int .u8 0, Value.int .u8 0, Value.int .u8 0, Value.int .u8 0, Value.int .u8 0, Value.int .u8 0, Value.int .u8 0, Value.int .u8 0, Value.int .u8 0, Value.int .u8 0, Value.int .u8 0, Value.int .u8 0, Value.int .u8 0, Value.int .u8 0, Value.int .u8 0, Value.int .u8 0, Value.int .u8 0, Value.int .u8 0, Value.int .u8 0, Value.int .u8 0, Value.int .u8 0, Value.int .u8 0, Value.int .u8 0, Value.int .u8 0, Value.int .u8 0, Value.int .u8 0, Value.int .u8 0, Value.int .u8 0, Value.int .u8 0] 28)
  have hs0 : w.heap.size < (w.alloc (Obj.cells #[Value.int .u8 0, Value.int .u8 0, Value.int .u8 0, Value.int .u8 0, Value.int .u8 0, Value.int .u8 0, Value.int .u8 0, Value.int .u8 0, Value.int .u8 0, Value.int .u8 0, Value.int .u8 0, Value.int .u8 0, Value.int .u8 0, Value.int .u8 0, Value.int .u8 0, Value.int .u8 0, Value.int .u8 0, Value.int .u8 0, Value.int .u8 0, Value.int .u8 0, Value.int .u8 0, Value.int .u8 0, Value.int .u8 0, Value.int .u8 0, Value.int .u8 0, Value.int .u8 0, Value.int .u8 0, Value.int .u8 0, Value.int .u8 0, Value.int .u8 0, Value.int .u8 0, Value.int .u8 0] 28)).heap.size := hb0.lt
  generalize w.alloc (Obj.cells #[Value.int .u8 0, Value.int .u8 0, Value.int .u8 0, Value.int .u8 0, Value.int .u8 0, Value.int .u8 0, Value.int .u8 0, Value.int .u8 0, Value.int .u8 0, Value.int .u8 0, Value.int .u8 0, Value.int .u8 0, Value.int .u8 0, Value.int .u8 0, Value.int .u8 0, Value.int .u8 0, Value.int .u8 0, Value.int .u8 0, Value.int .u8 0, Value.int .u8 0, Value.int .u8 0, Value.int .u8 0, Value.int .u8 0, Value.int .u8 0, Value.int .u8 0, Value.int .u8 0, Value.int .u8 0, Value.int .u8 0, Value.int .u8 0, Value.int .u8 0, Value.int .u8 0, Value.int .u8 0] 28) = w0 at *
  refine (new_any w0 (hst.ext hx0)).mono ?_
  rintro e w1 ⟨q, rfl, hq, hat1, hx1⟩
  have HA : Hid (Abs w1 q 41 [] 0) := hat1
  have HX : Hid (Reg.Ext w w1) := hx0.trans hx1
  have HB : Hid (Blk w1 w.heap.size 28 zeros32) := hb0.ext hx1
  have HQ : Hid (w.heap.size ≤ q) := Nat.le_trans (Nat.le_of_lt hs0) hq
  have HQB : Hid (w.heap.size ≠ q) := show w.heap.size ≠ q by omega
  have HQK : Hid (q ≠ 1) := show q ≠ 1 by omega
  have HK := Lib.hid hk
  clear hat1 hx0 hx1 hk hb0 hs0 hq hst
  go_wp2_with fail
  go_loopw [5, 9] (fun _ i wr => ∃ k : Nat, k ≤ n ∧ i = .int .i64 k ∧ Hid (Abs wr q 41 (cat (ss.take k)) (cat (ss.take k)).length) ∧ Hid (Blk wr w.heap.size 28 zeros32) ∧ Hid (Reg.Ext w wr)) (fun _ i _ => n - (intOf i).toNat)
  case atStart => exact ⟨0, Nat.zero_le _, rfl, HA, HB, HX⟩
  case round =>
    obtain ⟨k, hk, rfl, HA1, HB1, HX1⟩ := hrel
    clear HA HB HX
    by_cases hkn : k < n
    · have hkl : k < ss.length := by rw [HN.out]; exact hkn
      obtain ⟨ad, rfl, hb, hc⟩ := HR.out k (by simpa using hkl)
      have hc0 : w.cell? (ad.add k) = some (.string ss[k]) := by simpa [strV] using hc
      have hc' := HX1.out.at_ hc0
      have hct := cat_take ss k hkl
      have hle := cat_le ss (k + 1)
      have hsl := len_data ss[k]
      rw [hct, List.length_append] at hle
      have hsz : ss[k].size ≤ maxLen := maxLen_of (by omega)
      have HS := Lib.hid hct
      have HSZ := Lib.hid hsz
      have HK1 := Lib.hid (HK.out.ext HX1.out)
      clear hct hsz hc hc0 hb
      generalize ss[k] = s at *
      generalize cat (ss.take k) = l at *
      go_wp2_with fail
      refine (write_any q 41 l l.length s wr HA1.out HK1.out HQK.out HSZ.out (by omega)).mono ?_
      rintro e w2 ⟨rfl, ha2, hb2⟩
      have HA2 : Hid (Abs w2 q 41 (cat (ss.take (k + 1))) (cat (ss.take (k + 1))).length) := by
        show Abs _ _ _ _ _
        rw [HS.out, List.length_append, hsl]; exact ha2
      have HB2 := Lib.hid (HB1.out.but hb2 HQB.out)
      have HX2 := Lib.hid (HX1.out.trans_but hb2 HQ.out)
      clear ha2 hb2 HA1 HB1 HX1
      go_wp2_with fail
      go_roundw
      case rel => exact ⟨k + 1, by omega, by go_num, HA2, HB2, HX2⟩
      case measure => simp [intOf]; omega
    · have hke : ss.take k = ss := List.take_of_length_le (by rw [HN.out]; omega)
      rw [hke] at HA1
      clear hke
      go_wp2_with fail
      refine (sum_any q 41 (cat ss) wr HA1.out (HK.out.ext HX1.out) (HK.out.ext HX1.out).lt hz).mono ?_
      rintro e w2 ⟨rfl, hx2⟩
      have hlen : ((sum (cat ss)).map byteV).length = 32 := by rw [List.length_map]; rfl
      have hb8 : Blk w2 w.heap.size 28 zeros32 := HB1.out.ext hx2
      have hx8 : Reg.Ext w w2 := HX1.out.trans hx2
      rename_i hK
      refine hK _ _ ?_
      refine wpList_store_mid rfl 28 _ _ rfl w.heap.size 0 ((sum (cat ss)).map byteV).toArray rfl rfl (hb8.there _ (by rw [List.size_toArray, hlen]; exact Nat.le_refl _)) (by rw [List.size_toArray, hlen]; kernel_rfl) ?_ ?_
      · refine all_oneCell_toArray fun v hv => ?_
        obtain ⟨x, _, rfl⟩ := List.mem_map.1 hv
        rfl
      have hb9 := hb8.setAll ((sum (cat ss)).map byteV) (by rw [hlen]; rfl)
      have hx9 : Reg.Ext w (w2.setCells w.heap.size 0 ((sum (cat ss)).map byteV)) := hx8.trans_but (But.setCells w.heap.size _ _ _) (Nat.le_refl _)
      clear hb8 hx8
      generalize w2.setCells w.heap.size 0 ((sum (cat ss)).map byteV) = w5 at *
      simp only [Act.put, Act.eval, List.setIfInBounds_toArray, List.set_cons_zero, List.set_cons_succ, Nat.reduceAdd, Array.getD_eq_getD_getElem?, List.getElem?_toArray, List.getElem?_cons_succ, List.getElem?_cons_zero, Option.getD_some]
      go_wp2
      exact bodyPost_ret (results_cell_row rfl _ _ w.heap.size 28 ((sum (cat ss)).map byteV).toArray (0, 0) _ rfl hb9 Tryd.underlying28 rfl (by rw [List.size_toArray, hlen]; kernel_rfl)) rfl ⟨rfl, hx9⟩
end Sha
end Go.Proofs.YthgbhpeidngjmaaDoor

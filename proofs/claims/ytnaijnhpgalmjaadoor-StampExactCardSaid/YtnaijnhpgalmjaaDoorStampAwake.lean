/- The walks of package stamp: Of; the law's awake; StampOrders. -/
import Derived.Test.YtnaijnhpgalmjaaDoorStampBehind
import Derived.Test.YtnaijnhpgalmjaaDoorBytesEq
set_option linter.unusedSimpArgs false
set_option linter.unusedVariables false
set_option linter.unusedSectionVars false
namespace Go.Proofs.YtnaijnhpgalmjaaDoor
open Go.RowKit
namespace Stp
open ShaP (sum)
open Sha (Keys StartIs)
theorem cat_one (s : ByteArray) : Sha.cat [s] = s.data.toList := by simp [Sha.cat]
theorem of_one (b n : Nat) (s : ByteArray) (w : World) (hr : Rd w (some ⟨b, 0, none⟩) [strV s]) (hs : s.size < 1152921504606846976) (hk : Keys w) (hst : StartIs w) :
    Calls Tryd.prog 23 #[.slice (some ⟨b, 0, none⟩) 1 n] w fun e w' => e = .returned (.agg ((sum s.data.toList).map byteV).toArray) ∧ Reg.Ext w w' := by
  have h := Sha.of_any (some ⟨b, 0, none⟩) 1 n [s] w rfl (by decide) hr (by rw [cat_one, len_data]; exact hs) hk hst
  rw [cat_one] at h
  exact h
theorem sum_len (l : List UInt8) : (sum l).length = 32 := by as_aux_lemma => rfl
theorem sum_ex (l : List UInt8) : ∃ L, sum l = L ∧ L.length = 32 := ⟨_, rfl, sum_len l⟩
set_option maxRecDepth 100000 in
set_option maxHeartbeats 2000000 in
theorem of_str' (s : ByteArray) (L : List UInt8) (hL : sum s.data.toList = L) (hl : L.length = 32) (w : World) (hs : s.size ≤ 274877906944) (hk : Keys w) (hst : StartIs w) :
    Calls Tryd.prog 16 #[.string s] w fun e w' => e = .returned (.agg (L.map byteV).toArray) ∧ Reg.Ext w w' := by
  have HC : ∀ (b : Nat) (w : World), Rd w (some ⟨b, 0, none⟩) [strV s] → Keys w → StartIs w → Calls Tryd.prog 23 #[.slice (some ⟨b, 0, none⟩) 1 1] w fun e w' => e = .returned (.agg (L.map byteV).toArray) ∧ Reg.Ext w w' := by
    intro b w h1 h2 h3
    have := of_one b 1 s w h1 (by omega) h2 h3
    rw [hL] at this
    exact this
  clear hL
  have HK := Lib.hid hk
  have HS := Lib.hid hst
  clear hk hst
  go_enter Tryd.func16, Tryd.ntmps16
  go_wp2_with fail
  rw [zlit]
  have hb0 := box_blk w zeros
  have hx0 := Reg.Ext.alloc w (Obj.cells (zeros.map byteV).toArray 23)
  have hz0 : (w.alloc (Obj.cells (zeros.map byteV).toArray 23)).heap.size = w.heap.size + 1 := Array.size_push _
  generalize w.alloc (Obj.cells (zeros.map byteV).toArray 23) = w0 at *
  have HB0 := Lib.hid hb0
  have HX0 := Lib.hid hx0
  clear hb0 hx0
  generalize hgg : w.heap.size = g at HB0 hz0 ⊢
  have hgl : w.heap.size ≤ g := by omega
  clear hgg
  have hx1 := HX0.out.trans (Reg.Ext.alloc w0 (Obj.cells #[Value.string s] 9))
  have hb1 := HB0.out.alloc (Obj.cells #[Value.string s] 9)
  have r1 := Rd.new w0 9 #[strV s]
  rw [hz0] at r1
  clear hz0
  refine (HC _ _ r1 (HK.out.ext hx1) (HS.out.ext hx1)).mono ?_
  rintro e w2 ⟨rfl, x2⟩
  have HX2 := Lib.hid (hx1.trans x2)
  have HB2 := Lib.hid (hb1.ext x2)
  clear hx1 hb1 r1 x2 HK HS HB0 HX0 HC
  rename_i hK
  refine hK _ _ ?_
  refine wpList_store_mid rfl 23 _ _ rfl g 0 ((L).map byteV).toArray rfl rfl (HB2.out.there _ (by rw [List.size_toArray, List.length_map, hl]; simp [zeros_len])) (by rw [List.size_toArray, List.length_map, hl]; kernel_rfl) ?_ ?_
  · refine all_oneCell_toArray fun v hv => ?_
    obtain ⟨x, _, rfl⟩ := List.mem_map.1 hv
    rfl
  simp only [List.toList_toArray]
  simp only [Act.put, Act.eval, List.setIfInBounds_toArray, List.set_cons_zero, List.set_cons_succ, Nat.reduceAdd, Array.getD_eq_getD_getElem?, List.getElem?_toArray, List.getElem?_cons_succ, List.getElem?_cons_zero, Option.getD_some]
  have HB3 := Lib.hid (HB2.out.setAll (L.map byteV) (by rw [List.length_map, List.length_map, hl, zeros_len]))
  have HX3 := Lib.hid (HX2.out.trans_but (But.setCells g (L.map byteV) 0 w2) hgl)
  generalize w2.setCells g 0 (L.map byteV) = w3 at *
  go_wp2_with fail
  exact bodyPost_ret (results_cell_row rfl _ _ g 23 (L.map byteV).toArray (0, 0) _ rfl HB3.out Tryd.underlying23 rfl (by rw [List.size_toArray, List.length_map, hl]; kernel_rfl)) rfl ⟨rfl, HX3.out⟩
theorem of_str (s : ByteArray) (w : World) (hs : s.size ≤ 274877906944) (hk : Keys w) (hst : StartIs w) :
    Calls Tryd.prog 16 #[.string s] w fun e w' => e = .returned (.agg ((sum s.data.toList).map byteV).toArray) ∧ Reg.Ext w w' :=
  of_str' s _ rfl (sum_len _) w hs hk hst
end Stp
end Go.Proofs.YtnaijnhpgalmjaaDoor

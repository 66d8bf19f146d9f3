/- The walks of package sha: put, Write, Copy, finish, Sum, Len, Of, New. -/
import Derived.Test.YthgbhpeidngjmaaDoorShaWalks
import Derived.Test.YthgbhpeidngjmaaDoorCopyStr
import Derived.Test.YthgbhpeidngjmaaDoorShaText
import Derived.StillTailTactics
import Derived.Great.Walk
set_option linter.unusedSimpArgs false
set_option linter.unusedVariables false
set_option linter.unusedSectionVars false
namespace Go.Proofs.YthgbhpeidngjmaaDoor
open Go.RowKit
namespace Sha
open ShaP

theorem At.copy {w : World} {p T : Nat} {st : S8} {rest : List UInt8} {f size : Nat} (h : At w p T st rest f size) (m : List UInt8) (hm : f + m.length ≤ 64) :
    ∃ rest2, At (w.setCells p (8 + f) (m.map byteV)) p T st rest2 f size ∧ rest2.take (f + m.length) = rest.take f ++ m := by
  have h64 := h.1
  have hl1 : (rest.take f).length = f := by rw [List.length_take]; omega
  refine ⟨rest.take f ++ m ++ rest.drop (f + m.length), ⟨by simp only [List.length_append, List.length_drop]; omega, ?_⟩, ?_⟩
  · have hb := h.2
    have hr : rest = rest.take f ++ (rest.drop f).take m.length ++ rest.drop (f + m.length) := by
      rw [← List.drop_drop, List.append_assoc, List.take_append_drop, List.take_append_drop]
    have e1 : cellsOf st rest f size = (st.list.map wv ++ (rest.take f).map byteV) ++ ((rest.drop f).take m.length).map byteV ++ ((rest.drop (f + m.length)).map byteV ++ [.int .i64 (f : Int), .int .i64 (size : Int)]) := by
      conv => lhs; rw [hr]
      simp [cellsOf]
    rw [e1] at hb
    have h2 := Blk.setCells_ (m.map byteV) (st.list.map wv ++ (rest.take f).map byteV) (((rest.drop f).take m.length).map byteV) _ (by simp only [List.length_map, List.length_take, List.length_drop]; omega) hb
    have e2 : (st.list.map wv ++ (rest.take f).map byteV).length = 8 + f := by rw [List.length_append, List.length_map, List.length_map, hl1]; rfl
    rw [e2] at h2
    have e3 : cellsOf st (rest.take f ++ m ++ rest.drop (f + m.length)) f size = (st.list.map wv ++ (rest.take f).map byteV) ++ m.map byteV ++ ((rest.drop (f + m.length)).map byteV ++ [.int .i64 (f : Int), .int .i64 (size : Int)]) := by
      simp [cellsOf]
    rw [e3]
    exact h2
  · rw [List.take_append_of_le_length (by rw [List.length_append]; omega), List.take_of_length_le (by rw [List.length_append]; omega)]
theorem At.setFill {w : World} {p T : Nat} {st : S8} {rest : List UInt8} {f size : Nat} (h : At w p T st rest f size) (n : Nat) : At (w.setCell ⟨p, 72, none⟩ (.int .i64 (n : Int))) p T st rest n size := by
  have h64 := h.1
  refine ⟨h64, ?_⟩
  have hb := h.2.set_ 72 (.int .i64 (n : Int))
  have e : (cellsOf st rest f size).set 72 (.int .i64 (n : Int)) = cellsOf st rest n size := by
    unfold cellsOf
    rw [List.set_append_right _ _ (by simp [S8.list]; omega)]
    simp [S8.list, h64]
  rw [e] at hb
  exact hb

theorem Keys.but {w w' : World} {p : Nat} (h : Keys w) (hb : But p w w') (hne : p ≠ 1) : Keys w' := fun i hi => by
  have hlt := World.block_lt_of_cell? w _ (h i hi)
  rw [World.cell?_of_block (w := w) (a := ⟨1, i, none⟩) (hb.block _ hlt (fun e => hne (by injection e with e; exact e.symm)))]
  exact h i hi
/-- the object holds what is known of a text -/
def Abs (w : World) (p T : Nat) (l : List UInt8) (size : Nat) : Prop :=
  ∃ rest, At w p T (state l) rest (l.length % 64) size ∧ rest.take (l.length % 64) = whole l
def szOf : Value → Nat
  | .string b => b.size
  | _ => 0

set_option maxRecDepth 100000 in
set_option maxHeartbeats 1000000 in
theorem put_any (p T : Nat) (l : List UInt8) (size : Nat) (s : ByteArray) (w : World) (h : Abs w p T l size) (hk : Keys w) (hkp : p ≠ 1) (hs : s.size ≤ maxLen) :
    Calls Tryd.prog 14 #[.pointer (some ⟨p, 0, none⟩), .string s] w fun e w' => e = .returned (.tuple #[]) ∧ Abs w' p T (l ++ s.data.toList) size ∧ But p w w' := by
  unfold maxLen at hs
  have H := Lib.hid h
  have HK := Lib.hid hk
  clear h hk
  go_enter Tryd.func14, Tryd.ntmps14
  go_wp2
  go_loopw [1, 4] (fun v _ wr => ∃ (u : ByteArray) (k : Nat), v = .string u ∧ u.size ≤ s.size ∧ Hid (u.data.toList = s.data.toList.drop k) ∧ Hid (Abs wr p T (l ++ s.data.toList.take k) size) ∧ Hid (But p w wr)) (fun v _ _ => szOf v)
  case atStart => exact ⟨s, 0, rfl, Nat.le_refl _, rfl, by show Abs _ _ _ _ _; rw [List.take_zero, List.append_nil]; exact H.out, But.refl _ _⟩
  case round =>
    obtain ⟨u, k, rfl, hus, HU, HA, HB⟩ := hrel
    by_cases hu0 : u.size = 0
    · have hne : u.toList.isEmpty = true := by
        rw [ByteArray.toList_eq]
        cases hq : u.data.toList with
        | nil => rfl
        | cons _ _ => have := len_data u; rw [hq] at this; simp at this; omega
      have hall : s.data.toList.take k = s.data.toList := by
        have h0 : (s.data.toList.drop k).length = 0 := by rw [← HU.out, len_data]; exact hu0
        rw [List.length_drop] at h0
        exact List.take_of_length_le (by omega)
      have HA2 : Hid (Abs wr p T (l ++ s.data.toList) size) := by
        show Abs _ _ _ _ _
        have := HA.out; rw [hall] at this; exact this
      clear hall
      go_wp2
      exact Go.Great.bodyPost_end0 rfl rfl ⟨rfl, HA2.out, HB.out⟩
    · obtain ⟨rest, hat, hrest⟩ := HA.out
      have HAT := Lib.hid hat
      have HREST := Lib.hid hrest
      have cf := hat.fill
      have hf64 : (l ++ s.data.toList.take k).length % 64 < 64 := Nat.mod_lt _ (by decide)
      generalize hff : (l ++ s.data.toList.take k).length % 64 = f at *
      have HFF := Lib.hid hff
      clear hff
      have hne : u.toList.isEmpty = false := by
        rw [ByteArray.toList_eq]
        cases hq : u.data.toList with
        | nil => have := len_data u; rw [hq] at this; simp at this; omega
        | cons _ _ => rfl
      have hsl := run_slice_arr_from (P := Tryd.prog) 39 64 5 Tryd.underlying39 (by kernel_rfl) p 8 f .i64 hf64
      clear hat hrest HA
      go_wp2
      go_still_tail 9, (by kernel_rfl)
      change wpList _ _ _ _ _ wr.drew
      have hbd : Blk wr.drew p T (cellsOf (state (l ++ s.data.toList.take k)) rest f size) := HAT.out.2.drew
      have hbu : But p w wr.drew := HB.out.trans (But.of_ext (Reg.Ext.drew _))
      generalize wr.drew = wd at *
      have hlenc : (cellsOf (state (l ++ s.data.toList.take k)) rest f size).length = 74 := by have := HAT.out.1; simp [cellsOf, S8.list]; omega
      refine wpList_copy_str rfl _ _ _ _ rfl 5 Tryd.underlying44 (fun _ => by kernel_rfl) p (8 + f) (64 - f) (64 - f) rfl u rfl (fun j hj => by rw [hbd.cellAt (by omega)]; rfl) (fun j _ => hbd.frozen _) ?_
      obtain ⟨rest2, hat2, hr2⟩ := At.copy (w := wd) (rest := rest) ⟨HAT.out.1, hbd⟩ (u.data.toList.take (min u.size (64 - f))) (by rw [List.length_take, len_data]; omega)
      have hbu2 : But p w (wd.setCells p (8 + f) ((u.data.toList.take (min u.size (64 - f))).map byteV)) := hbu.trans (But.setCells _ _ _ _)
      have hml : (u.data.toList.take (min u.size (64 - f))).length = min u.size (64 - f) := by rw [List.length_take, len_data]; omega
      rw [hml, HREST.out] at hr2
      generalize wd.setCells p (8 + f) ((u.data.toList.take (min u.size (64 - f))).map byteV) = w2 at *
      have hn1 : min u.size (64 - f) ≤ u.size := Nat.min_le_left _ _
      have hn2 : min u.size (64 - f) ≤ 64 - f := Nat.min_le_right _ _
      have hn3 : 0 < min u.size (64 - f) := by omega
      generalize hnn : min u.size (64 - f) = n at *
      have HNN := Lib.hid hnn
      have cf2 := hat2.fill
      have ff2 := hat2.2.frozen 72
      have h3 := hat2.setFill (f + n)
      rw [Int.natCast_add] at h3
      have H3 := Lib.hid h3
      have HBU3 := Lib.hid (hbu2.trans (But.set_ p w2 72 (.int .i64 ((f : Int) + (n : Int)))))
      clear h3
      have htk : l ++ s.data.toList.take (k + n) = (l ++ s.data.toList.take k) ++ u.data.toList.take n := by
        rw [HU.out, List.append_assoc, List.take_add]
      have hdr : (u.extract n u.size).data.toList = s.data.toList.drop (k + n) := by
        rw [ext_from, HU.out, List.drop_drop]
      have HTK := Lib.hid htk
      have HDR := Lib.hid hdr
      clear htk hdr
      have HR2 := Lib.hid hr2
      have HML := Lib.hid hml
      clear hat2 hbu2 hbd hbu hlenc hnn cf hsl hr2 hml HREST HAT
      simp only [Act.put, Act.eval, List.setIfInBounds_toArray, List.set_cons_zero, List.set_cons_succ, Nat.reduceAdd, Array.getD_eq_getD_getElem?, List.getElem?_toArray, List.getElem?_cons_succ, List.getElem?_cons_zero, Option.getD_some]
      by_cases hfull : f + n = 64
      · have d1 : (((f : Int) + (n : Int)) == 64) = true := by rw [beq_iff_eq]; omega
        go_wp2_with fail
        refine (turn_any p T _ rest2 (f + n) size _ H3.out (HK.out.but HBU3.out hkp)).mono ?_
        rintro q w4 ⟨rfl, ha4, hb4⟩
        have hst := state_full (l ++ s.data.toList.take k) (u.data.toList.take n) (by rw [HFF.out, HML.out]; exact hfull)
        have hr64 : rest2 = whole (l ++ s.data.toList.take k) ++ u.data.toList.take n := by
          rw [← HR2.out, hfull, List.take_of_length_le (by have := H3.out.1; omega)]
        have HA4 : Hid (Abs w4 p T (l ++ s.data.toList.take (k + n)) size) := by
          show Abs _ _ _ _ _
          rw [HTK.out]
          refine ⟨rest2, ?_, ?_⟩
          · rw [hst.1, hst.2.1, ← hr64]; exact ha4
          · rw [hst.2.1, hst.2.2, List.take_zero]
        have HB4 : Hid (But p w w4) := HBU3.out.trans hb4
        clear hst hr64 ha4 hb4
        go_wp2
        go_roundw
        case rel => exact ⟨_, k + n, rfl, by rw [ByteArray.size_extract]; omega, HDR, HA4, HB4⟩
        case measure => simp [szOf]; omega
      · have d1 : (((f : Int) + (n : Int)) == 64) = false := by rw [beq_eq_false_iff_ne]; omega
        have hst := state_less (l ++ s.data.toList.take k) (u.data.toList.take n) (by rw [HFF.out, HML.out]; omega)
        have HA4 : Hid (Abs (w2.setCell ⟨p, 72, none⟩ (.int .i64 ((f : Int) + (n : Int)))) p T (l ++ s.data.toList.take (k + n)) size) := by
          show Abs _ _ _ _ _
          rw [HTK.out]
          refine ⟨rest2, ?_, ?_⟩
          · rw [hst.1, hst.2.1, HFF.out, HML.out]; exact H3.out
          · rw [hst.2.1, hst.2.2, HFF.out, HML.out]; exact HR2.out
        clear hst
        go_wp2_with fail
        go_roundw
        case rel => exact ⟨_, k + n, rfl, by rw [ByteArray.size_extract]; omega, HDR, HA4, HBU3⟩
        case measure => simp [szOf]; omega
end Sha
end Go.Proofs.YthgbhpeidngjmaaDoor

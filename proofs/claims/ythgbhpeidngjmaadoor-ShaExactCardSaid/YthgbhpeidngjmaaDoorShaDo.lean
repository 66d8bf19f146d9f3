/- The walks of package sha that lean on put: Write, Len. -/
import Derived.Test.YthgbhpeidngjmaaDoorShaPut
set_option linter.unusedSimpArgs false
set_option linter.unusedVariables false
set_option linter.unusedSectionVars false
namespace Go.Proofs.YthgbhpeidngjmaaDoor
open Go.RowKit
namespace Sha
open ShaP

theorem At.size_ {w : World} {p T : Nat} {st : S8} {rest : List UInt8} {f size : Nat} (h : At w p T st rest f size) : w.cell? ⟨p, 73, none⟩ = some (.int .i64 (size : Int)) := by
  have h64 := h.1
  have e : (cellsOf st rest f size).length = 74 := by simp [cellsOf, S8.list]; omega
  rw [h.2.cell]
  unfold cellsOf
  rw [List.getElem?_append_right (by simp [S8.list]; omega)]
  simp [S8.list, h64]
theorem At.setSize {w : World} {p T : Nat} {st : S8} {rest : List UInt8} {f size : Nat} (h : At w p T st rest f size) (n : Nat) : At (w.setCell ⟨p, 73, none⟩ (.int .i64 (n : Int))) p T st rest f n := by
  have h64 := h.1
  refine ⟨h64, ?_⟩
  have hb := h.2.set_ 73 (.int .i64 (n : Int))
  have e : (cellsOf st rest f size).set 73 (.int .i64 (n : Int)) = cellsOf st rest f n := by
    unfold cellsOf
    rw [List.set_append_right _ _ (by simp [S8.list]; omega)]
    simp [S8.list, h64]
  rw [e] at hb
  exact hb

set_option maxHeartbeats 1000000 in
theorem write_any (p T : Nat) (l : List UInt8) (size : Nat) (s : ByteArray) (w : World) (h : Abs w p T l size) (hk : Keys w) (hkp : p ≠ 1) (hs : s.size ≤ maxLen) (hsz : size + s.size < 4611686018427387904) :
    Calls Tryd.prog 8 #[.pointer (some ⟨p, 0, none⟩), .string s] w fun e w' => e = .returned (.tuple #[]) ∧ Abs w' p T (l ++ s.data.toList) (size + s.size) ∧ But p w w' := by
  have hs' := hs
  unfold maxLen at hs
  obtain ⟨rest, hat, hrest⟩ := h
  have cf := hat.size_
  have ff := hat.2.frozen 73
  have h3 := hat.setSize (size + s.size)
  rw [Int.natCast_add] at h3
  have H3 : Hid (Abs (w.setCell ⟨p, 73, none⟩ (.int .i64 ((size : Int) + (s.size : Int)))) p T l (size + s.size)) := ⟨rest, h3, hrest⟩
  have hb := But.set_ p w 73 (.int .i64 ((size : Int) + (s.size : Int)))
  have HB := Lib.hid hb
  have HK := Lib.hid (hk.but hb hkp)
  have HS := Lib.hid hs'
  clear hat h3 hb hk hrest hs'
  go_enter Tryd.func8, Tryd.ntmps8
  go_wp2_with fail
  refine (put_any p T l (size + s.size) s _ H3.out HK.out hkp HS.out).mono ?_
  rintro q w4 ⟨rfl, ha4, hb4⟩
  have HA4 := Lib.hid ha4
  have HB4 := Lib.hid (HB.out.trans hb4)
  clear ha4 hb4
  go_wp2
  exact Go.Great.bodyPost_end0 rfl rfl ⟨rfl, HA4.out, HB4.out⟩

end Sha
end Go.Proofs.YthgbhpeidngjmaaDoor

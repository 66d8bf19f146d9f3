/- The walk of stamp.Print. -/
import Derived.Test.YtglnefmaphajaaaDoorHexW1
import Derived.Test.YtglnefmaphajaaaDoorCopyStr
import Derived.Lib.Bytealg
import Derived.Lib.UnsafeStr
import Derived.Laws.ResultCell
set_option linter.unusedSimpArgs false
set_option linter.unusedVariables false
set_option linter.unusedSectionVars false
namespace Go.Proofs.YtglnefmaphajaaaDoor
open Go.RowKit
namespace Stp
def pA : List UInt8 := [115, 104, 97, 50, 53, 54, 58]
def pK : List UInt8 := [98, 108, 111, 98, 45]
theorem box_blk (w : World) (l : List UInt8) : Blk (w.alloc (Obj.cells (l.map byteV).toArray 38)) w.heap.size 38 (l.map byteV) := by
  have := Blk.new w 38 (l.map byteV).toArray
  simpa using this
theorem box_str {w : World} {g : Nat} {l : List UInt8} {T : TypeId} (hb : Blk w g T (l.map byteV)) (hl : l.length = 32) :
    (convert 67 9 (.slice (some ⟨g, 0, none⟩) 32 32)).run Tryd.prog w = .ok (.string ⟨l.toArray⟩) w := by
  refine conv_bytes w 67 9 5 Tryd.underlying67 Tryd.underlying5 Tryd.underlying9 g 0 32 32 l hl ?_
  intro j hj
  rw [Nat.zero_add, hb.cellAt (by simpa using hj)]
  simp
theorem lst (l : List UInt8) : (⟨l.toArray⟩ : ByteArray).data.toList = l := by simp
theorem siz (l : List UInt8) : (⟨l.toArray⟩ : ByteArray).size = l.length := by rw [← len_data, lst]
set_option maxHeartbeats 2000000 in
theorem print_any (l : List UInt8) (hl : l.length = 32) (w : World) :
    Calls Tryd.prog 24 #[.agg (l.map byteV).toArray] w fun e w' => e = .returned (.string ⟨(pA ++ HexP.hex l).toArray⟩) ∧ Reg.Ext w w' := by
  have hcv := box_str (box_blk w l) hl
  have HX := Lib.hid (Reg.Ext.alloc w (Obj.cells (l.map byteV).toArray 38))
  go_enter Tryd.func24, Tryd.ntmps24
  go_wp2_with fail
  clear hcv
  refine (Hex.hex_any ⟨l.toArray⟩ _ (by rw [siz]; omega)).mono ?_
  rintro e w2 ⟨rfl, x2⟩
  rw [lst]
  have HX2 := Lib.hid (HX.out.trans x2)
  clear HX x2
  have hsz : (⟨(HexP.hex l).toArray⟩ : ByteArray).size ≤ 64 := by rw [siz, HexP.hex_length]; omega
  obtain ⟨D, hD⟩ : ∃ D : ByteArray, D = ⟨(HexP.hex l).toArray⟩ := ⟨_, rfl⟩
  rw [← hD] at hsz ⊢
  have HV := Lib.hid (show (⟨(pA ++ HexP.hex l).toArray⟩ : ByteArray) = ⟨pA.toArray⟩ ++ D by rw [hD]; exact ba_ext (by simp))
  clear hD
  go_wp2_with fail
  go_ret
  exact ⟨by rw [HV.out]; rfl, HX2.out⟩
end Stp
end Go.Proofs.YtglnefmaphajaaaDoor

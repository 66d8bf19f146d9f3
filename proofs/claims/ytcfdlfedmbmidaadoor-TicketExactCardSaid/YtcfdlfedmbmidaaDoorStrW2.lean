/- strings.IndexByte, LastIndex, Trim, TrimLeft: as the walks use them. -/
import Derived.Test.YtcfdlfedmbmidaaDoorStrIdx
import Derived.Test.YtcfdlfedmbmidaaDoorStrTrim
import Derived.Test.YtcfdlfedmbmidaaDoorReg
import Derived.Test.YtcfdlfedmbmidaaDoorWords
set_option linter.unusedSimpArgs false
set_option linter.unusedVariables false
set_option linter.unusedSectionVars false
namespace Go.Proofs.YtcfdlfedmbmidaaDoor
open Go.RowKit
namespace Str
theorem indexByte_any (s : ByteArray) (c : UInt8) (w : World) : Calls Tryd.prog 40 #[.string s, .int .u8 (c.toNat : Int)] w fun e w' => e = .returned (.int .i64 (Lib.indexByte s.data.toList c)) ∧ w = w' := by
  have h := Go.Proofs.Tryd.strings_IndexByte s (c.toNat : Int) w
  rw [show ((c.toNat : Int)).toNat.toUInt8 = c by simp] at h
  exact h.mono fun _ _ ⟨h1, h2⟩ => ⟨h1, h2.symm⟩
theorem trimLeft_any (s : ByteArray) (cs : List UInt8) (w : World) (hcs : cs.length < 1000) (ha : (cs.all fun b => decide (b.toNat < 128)) = true) :
    Calls Tryd.prog 51 #[.string s, .string ⟨cs.toArray⟩] w fun e w' => e = .returned (.string ⟨(Lib.trimLeftS s.data.toList cs).toArray⟩) ∧ Reg.Ext w w' :=
  Go.Proofs.Any.strings_TrimLeft_laid Go.Proofs.Tryd.lays161 (by kernel_rfl) s ⟨cs.toArray⟩ w (by show cs.toArray.size < _; rw [List.size_toArray]; omega) (Go.Proofs.ascii_of_all ha)
theorem trim_any (s : ByteArray) (cs : List UInt8) (w : World) (hs : s.size ≤ 9223372036854775807) (hcs : cs.length < 1000) (ha : (cs.all fun b => decide (b.toNat < 128)) = true) :
    Calls Tryd.prog 68 #[.string s, .string ⟨cs.toArray⟩] w fun e w' => e = .returned (.string ⟨(Lib.trimS s.data.toList cs).toArray⟩) ∧ Reg.Ext w w' :=
  Go.Proofs.Any.strings_Trim_laid Go.Proofs.Tryd.lays160 (by kernel_rfl) s ⟨cs.toArray⟩ w hs (by show cs.toArray.size < _; rw [List.size_toArray]; omega) (Go.Proofs.ascii_of_all ha)
end Str
end Go.Proofs.YtcfdlfedmbmidaaDoor

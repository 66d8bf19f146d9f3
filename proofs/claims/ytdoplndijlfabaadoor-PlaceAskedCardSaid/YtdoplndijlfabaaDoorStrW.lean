/- strings.IndexByte, LastIndex, Trim, TrimLeft: as the walks use them. -/
import Derived.Test.YtdoplndijlfabaaDoorStrIdx
import Derived.Test.YtdoplndijlfabaaDoorStrLast
import Derived.Test.YtdoplndijlfabaaDoorStrTrim
import Derived.Test.YtdoplndijlfabaaDoorReg
import Derived.Test.YtdoplndijlfabaaDoorWords
set_option linter.unusedSimpArgs false
set_option linter.unusedVariables false
set_option linter.unusedSectionVars false
namespace Go.Proofs.YtdoplndijlfabaaDoor
open Go.RowKit
namespace Str
theorem indexByte_any (s : ByteArray) (c : UInt8) (w : World) : Calls Tryd.prog 27 #[.string s, .int .u8 (c.toNat : Int)] w fun e w' => e = .returned (.int .i64 (Lib.indexByte s.data.toList c)) ∧ w = w' := by
  have h := Go.Proofs.Tryd.strings_IndexByte s (c.toNat : Int) w
  rw [show ((c.toNat : Int)).toNat.toUInt8 = c by simp] at h
  exact h.mono fun _ _ ⟨h1, h2⟩ => ⟨h1, h2.symm⟩
theorem lastIndex_any (s : ByteArray) (sub : List UInt8) (hs : s.size < 4611686018427387904) (w : World) : Calls Tryd.prog 36 #[.string s, .string ⟨sub.toArray⟩] w fun e w' => e = .returned (.int .i64 (Lib.lastIndex s.data.toList sub)) ∧ w = w' := by
  have h := Go.Proofs.Tryd.strings_LastIndex s ⟨sub.toArray⟩ hs w
  exact h.mono fun _ _ ⟨h1, h2⟩ => ⟨h1, h2.symm⟩
theorem trimLeft_any (s : ByteArray) (cs : List UInt8) (w : World) (hcs : cs.length < 1000) (ha : (cs.all fun b => decide (b.toNat < 128)) = true) :
    Calls Tryd.prog 41 #[.string s, .string ⟨cs.toArray⟩] w fun e w' => e = .returned (.string ⟨(Lib.trimLeftS s.data.toList cs).toArray⟩) ∧ Reg.Ext w w' :=
  Go.Proofs.Any.strings_TrimLeft_laid Go.Proofs.Tryd.lays161 (by kernel_rfl) s ⟨cs.toArray⟩ w (by show cs.toArray.size < _; rw [List.size_toArray]; omega) (Go.Proofs.ascii_of_all ha)
theorem trim_any (s : ByteArray) (cs : List UInt8) (w : World) (hs : s.size ≤ 9223372036854775807) (hcs : cs.length < 1000) (ha : (cs.all fun b => decide (b.toNat < 128)) = true) :
    Calls Tryd.prog 62 #[.string s, .string ⟨cs.toArray⟩] w fun e w' => e = .returned (.string ⟨(Lib.trimS s.data.toList cs).toArray⟩) ∧ Reg.Ext w w' :=
  Go.Proofs.Any.strings_Trim_laid Go.Proofs.Tryd.lays160 (by kernel_rfl) s ⟨cs.toArray⟩ w hs (by show cs.toArray.size < _; rw [List.size_toArray]; omega) (Go.Proofs.ascii_of_all ha)
end Str
end Go.Proofs.YtdoplndijlfabaaDoor

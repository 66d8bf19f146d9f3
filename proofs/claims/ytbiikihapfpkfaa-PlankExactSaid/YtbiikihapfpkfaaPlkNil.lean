/- No disk at all. -/
import Derived.Test.YtbiikihapfpkfaaPlkB
set_option linter.unusedSimpArgs false
set_option linter.unusedVariables false
set_option linter.unusedSectionVars false
namespace Go.Proofs.Ytbiikihapfpkfaa
open Go Go.RowKit
namespace Plk
section
variable (W : World)
theorem nil_begin (v : Value) (A : Option Addr) (n c : Nat) (hv : v = .slice A n c) : Calls Try.prog 42 #[.pointer none, v] W fun e w' => e = .returned (.int .i64 2) ∧ w' = W := by
  subst hv
  go_enter Try.func42, Try.ntmps42
  go_wp2
  go_ret
  exact ⟨rfl, rfl⟩
theorem nil_find (s : ByteArray) : Calls Try.prog 43 #[.pointer none, .string s] W fun e w' => e = .returned (.tuple #[.pointer none, .int .i64 2]) ∧ Reg.Ext W w' := by
  have hb := fun w v A n c hv => nil_begin w v A n c hv
  go_enter Try.func43, Try.ntmps43
  go_wp2_with (go_at_call 42; refine (hb _ _ _ _ _ rfl).mono ?_; rintro e _ ⟨rfl, rfl⟩)
  go_ret2
  exact ⟨rfl, Reg.Ext.alloc _ _⟩
theorem nil_read (s : ByteArray) : Calls Try.prog 18 #[.pointer none, .string s, .int .i64 0, .int .i64 1] W fun e w' => e = .returned (.tuple #[.string ⟨#[]⟩, .int .i64 2]) ∧ Reg.Ext W w' := by
  have hb := nil_find W s
  go_enter Try.func18, Try.ntmps18
  go_wp2_with (go_at_call 43; refine hb.mono ?_; rintro e w1 ⟨rfl, h1⟩)
  go_ret2
  exact ⟨rfl, h1⟩
theorem nil_create (s : ByteArray) : Calls Try.prog 9 #[.pointer none, .string s] W fun e w' => e = .returned (.int .i64 2) ∧ Reg.Ext W w' := by
  have hb := fun w v A n c hv => nil_begin w v A n c hv
  go_enter Try.func9, Try.ntmps9
  go_wp2_with (go_at_call 42; refine (hb _ _ _ _ _ rfl).mono ?_; rintro e _ ⟨rfl, rfl⟩)
  go_ret
  exact ⟨rfl, Reg.Ext.alloc _ _⟩
theorem nil_lay (s t : ByteArray) : Calls Try.prog 25 #[.pointer none, .string s, .string t] W fun e w' => e = .returned (.int .i64 2) ∧ w' = W := by
  go_enter Try.func25, Try.ntmps25
  go_wp2
  go_ret
  exact ⟨rfl, rfl⟩
theorem nil_down : Calls Try.prog 17 #[.pointer none] W fun e w' => e = .returned (.bool true) ∧ w' = W := by
  go_enter Try.func17, Try.ntmps17
  go_wp2
  go_ret
  exact ⟨rfl, rfl⟩
theorem nil_size (s : ByteArray) : Calls Try.prog 24 #[.pointer none, .string s] W fun e w' => e = .returned (.int .i64 (-1)) ∧ w' = W := by
  go_enter Try.func24, Try.ntmps24
  go_wp2
  go_ret
  exact ⟨rfl, rfl⟩
theorem nil_used : Calls Try.prog 21 #[.pointer none] W fun e w' => e = .returned (.int .i64 0) ∧ w' = W := by
  go_enter Try.func21, Try.ntmps21
  go_wp2
  go_ret
  exact ⟨rfl, rfl⟩
theorem nil_ops : Calls Try.prog 22 #[.pointer none] W fun e w' => e = .returned (.int .i64 0) ∧ w' = W := by
  go_enter Try.func22, Try.ntmps22
  go_wp2
  go_ret
  exact ⟨rfl, rfl⟩
theorem nil_safe (s : ByteArray) : Calls Try.prog 16 #[.pointer none, .string s] W fun e w' => e = .returned (.int .i64 0) ∧ w' = W := by
  go_enter Try.func16, Try.ntmps16
  go_wp2
  go_ret
  exact ⟨rfl, rfl⟩
theorem nil_names : Calls Try.prog 20 #[.pointer none] W fun e w' => e = .returned (.slice none 0 0) ∧ w' = W := by
  go_enter Try.func20, Try.ntmps20
  go_wp2
  go_ret
  exact ⟨rfl, rfl⟩
theorem nil_flip (s : ByteArray) : Calls Try.prog 26 #[.pointer none, .string s, .int .i64 0, .int .u8 1] W fun e w' => e = .returned (.bool false) ∧ w' = W := by
  have hs := nil_size W s
  go_enter Try.func26, Try.ntmps26
  go_wp2_with (go_at_call 24; refine hs.mono ?_; rintro e _ ⟨rfl, rfl⟩)
  go_ret
  exact ⟨rfl, rfl⟩
end
end Plk
end Go.Proofs.Ytbiikihapfpkfaa

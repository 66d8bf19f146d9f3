/- awake. -/
import Derived.Test.YtbiikihapfpkfaaPlkS
set_option linter.unusedSimpArgs false
set_option linter.unusedVariables false
set_option linter.unusedSectionVars false
namespace Go.Proofs.Ytbiikihapfpkfaa
open Go Go.RowKit
namespace Plk
def offP (p : P) : P := ⟨p.fs, { p.h with off := true, ak := 0, af := 0, al := 0 }⟩
def a0 : P := new 100
def a1 : P := (a0.create [102]).2
def a2 : P := (a1.append [102] [97, 98, 99]).2
def a3 : P := (a2.sync [102]).2
def a4 : P := (a3.append [102] [100, 101]).2
def a5 : P := offP a4
def a6 : P := (a5.sync [102]).2
def a7 : P := a6.on [1]
def a8 : P := (a7.read [102] 1 9).2.2
def a9 : P := (a8.create [102]).2
section
variable (W w : World) (d : Nat)
theorem w1 (h : Hold W w d a0) : Calls Try.prog 9 #[.pointer (some ⟨d, 0, none⟩), .string { data := #[102] }] w fun e w' => e = .returned (.int .i64 0) ∧ Hold W w' d a1 := h.create [102] (by decide)
theorem w2 (h : Hold W w d a1) : Calls Try.prog 11 #[.pointer (some ⟨d, 0, none⟩), .string { data := #[102] }, .string { data := #[97, 98, 99] }] w fun e w' => e = .returned (.int .i64 0) ∧ Hold W w' d a2 := h.append [102] [97, 98, 99] (by decide) (by decide)
theorem w3 (h : Hold W w d a2) : Calls Try.prog 12 #[.pointer (some ⟨d, 0, none⟩), .string { data := #[102] }] w fun e w' => e = .returned (.int .i64 0) ∧ Hold W w' d a3 := h.sync [102] (by decide)
theorem w4 (h : Hold W w d a3) : Calls Try.prog 11 #[.pointer (some ⟨d, 0, none⟩), .string { data := #[102] }, .string { data := #[100, 101] }] w fun e w' => e = .returned (.int .i64 0) ∧ Hold W w' d a4 := h.append [102] [100, 101] (by decide) (by decide)
theorem w6 (h : Hold W w d a5) : Calls Try.prog 12 #[.pointer (some ⟨d, 0, none⟩), .string { data := #[102] }] w fun e w' => e = .returned (.int .i64 12) ∧ Hold W w' d a6 := h.sync [102] (by decide)
theorem w8 (h : Hold W w d a7) : Calls Try.prog 18 #[.pointer (some ⟨d, 0, none⟩), .string { data := #[102] }, .int .i64 1, .int .i64 9] w fun e w' => e = .returned (.tuple #[.string { data := #[98, 99, 100] }, .int .i64 0]) ∧ Hold W w' d a8 := h.read [102] 1 9 (by decide)
theorem w9 (h : Hold W w d a8) : Calls Try.prog 9 #[.pointer (some ⟨d, 0, none⟩), .string { data := #[102] }] w fun e w' => e = .returned (.int .i64 9) ∧ Hold W w' d a9 := h.create [102] (by decide)
theorem w10 (h : Hold W w d a9) : Calls Try.prog 21 #[.pointer (some ⟨d, 0, none⟩)] w fun e w' => e = .returned (.int .i64 4) ∧ w' = w := h.used
theorem w11 (h : Hold W w d a9) : Calls Try.prog 34 #[.pointer (some ⟨d, 0, none⟩), .string { data := #[103] }] w fun e w' => e = .returned (.int .i64 7) ∧ Hold W w' d (a9.delete [103]).2 := h.delete [103] (by decide)
end
set_option maxHeartbeats 2000000 in
theorem awake_any (W : World) : Calls Try.prog 7 #[] W fun e w' => e = .returned (.bool true) ∧ Reg.Ext W w' := by
  go_enter Try.func7, Try.ntmps7
  go_wp2_with (first
    | (go_at_call 8; refine (Hold.new 100 _).mono ?_; rintro e x0 ⟨d, rfl, h0⟩)
    | (go_at_call 9; refine (w9 _ _ _ h8).mono ?_; rintro e x9 ⟨rfl, h9⟩)
    | (go_at_call 9; refine (w1 _ _ _ h0).mono ?_; rintro e x1 ⟨rfl, h1⟩)
    | (go_at_call 11; refine (w4 _ _ _ h3).mono ?_; rintro e x4 ⟨rfl, h4⟩)
    | (go_at_call 11; refine (w2 _ _ _ h1).mono ?_; rintro e x2 ⟨rfl, h2⟩)
    | (go_at_call 13; refine (Hold.off h4).mono ?_; rintro e x5 ⟨rfl, h5⟩)
    | (go_at_call 12; refine (w6 _ _ _ h5).mono ?_; rintro e x6 ⟨rfl, h6⟩)
    | (go_at_call 12; refine (w3 _ _ _ h2).mono ?_; rintro e x3 ⟨rfl, h3⟩)
    | (go_at_call 14; refine (Hold.on1 h6 1).mono ?_; rintro e x7 ⟨rfl, h7⟩)
    | (go_at_call 18; refine (w8 _ _ _ h7).mono ?_; rintro e x8 ⟨rfl, h8⟩)
    | (go_at_call 21; refine (w10 _ _ _ h9).mono ?_; rintro e x10 ⟨rfl, rfl⟩)
    | (go_at_call 34; refine (w11 _ _ _ h9).mono ?_; rintro e x11 ⟨rfl, h11⟩))
  go_ret
  exact ⟨rfl, h11.ext⟩
end Plk
end Go.Proofs.Ytbiikihapfpkfaa

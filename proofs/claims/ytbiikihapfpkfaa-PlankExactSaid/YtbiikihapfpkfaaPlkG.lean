/- Size, Safe, Bytes, Used, Ops, Down, Arm, Sync. -/
import Derived.Test.YtbiikihapfpkfaaPlkE
set_option linter.unusedSimpArgs false
set_option linter.unusedVariables false
set_option linter.unusedSectionVars false
namespace Go.Proofs.Ytbiikihapfpkfaa
open Go Go.RowKit
namespace Plk
def szO : Option E → Int
  | none => -1
  | some e => (e.f.l.length : Int)
def sfO : Option E → Int
  | none => 0
  | some e => (e.f.safe : Int)
def btO : Option E → List UInt8
  | none => []
  | some e => e.f.l
section
variable (W : World) (d mp : Nat) (es : List E) (s : H) (hD : Dk W d mp es s)
include hD
theorem size_any (n : List UInt8) (hn : n.length ≤ maxLen) : Calls Try.prog 24 #[.pointer (some ⟨d, 0, none⟩), str n] W fun e w' => e = .returned (.int .i64 (szO (Nmd.get E.nm n es))) ∧ w' = W := by
  have c0 := hD.c.1
  have hl := hD.look n hn
  cases hg : Nmd.get E.nm n es with
  | none =>
    rw [hg] at hl
    unfold str at hl ⊢
    unfold ptrV at hl
    go_enter Try.func24, Try.ntmps24
    go_wp2
    go_ret
    exact ⟨rfl, rfl⟩
  | some e0 =>
    rw [hg] at hl
    have hm := (Nmd.get_mem hg).1
    have hb := hD.file e0 hm
    have k0 := hb.cell 0
    have k1 := hb.cell 1
    have hr := hD.row e0 hm
    obtain ⟨A, cap, hv⟩ := hr.form
    have hst := hr.str
    dsimp only [List.getElem?_cons_zero, List.getElem?_cons_succ] at k0 k1
    rw [hv] at k0 hst
    clear hr hb hv hm hg
    unfold str at hl ⊢
    unfold ptrV at hl
    go_enter Try.func24, Try.ntmps24
    go_wp2
    go_ret
    exact ⟨rfl, rfl⟩
theorem safe_any (n : List UInt8) (hn : n.length ≤ maxLen) : Calls Try.prog 16 #[.pointer (some ⟨d, 0, none⟩), str n] W fun e w' => e = .returned (.int .i64 (sfO (Nmd.get E.nm n es))) ∧ w' = W := by
  have c0 := hD.c.1
  have hl := hD.look n hn
  cases hg : Nmd.get E.nm n es with
  | none =>
    rw [hg] at hl
    unfold str at hl ⊢
    unfold ptrV at hl
    go_enter Try.func16, Try.ntmps16
    go_wp2
    go_ret
    exact ⟨rfl, rfl⟩
  | some e0 =>
    rw [hg] at hl
    have hm := (Nmd.get_mem hg).1
    have hb := hD.file e0 hm
    have k0 := hb.cell 0
    have k1 := hb.cell 1
    have hr := hD.row e0 hm
    obtain ⟨A, cap, hv⟩ := hr.form
    have hst := hr.str
    dsimp only [List.getElem?_cons_zero, List.getElem?_cons_succ] at k0 k1
    rw [hv] at k0 hst
    clear hr hb hv hm hg
    unfold str at hl ⊢
    unfold ptrV at hl
    go_enter Try.func16, Try.ntmps16
    go_wp2
    go_ret
    exact ⟨rfl, rfl⟩
theorem bytes_any (n : List UInt8) (hn : n.length ≤ maxLen) : Calls Try.prog 15 #[.pointer (some ⟨d, 0, none⟩), str n] W fun e w' => e = .returned (str (btO (Nmd.get E.nm n es))) ∧ w' = W := by
  have c0 := hD.c.1
  have hl := hD.look n hn
  cases hg : Nmd.get E.nm n es with
  | none =>
    rw [hg] at hl
    unfold str at hl ⊢
    unfold ptrV at hl
    go_enter Try.func15, Try.ntmps15
    go_wp2
    go_ret
    exact ⟨rfl, rfl⟩
  | some e0 =>
    rw [hg] at hl
    have hm := (Nmd.get_mem hg).1
    have hb := hD.file e0 hm
    have k0 := hb.cell 0
    have k1 := hb.cell 1
    have hr := hD.row e0 hm
    obtain ⟨A, cap, hv⟩ := hr.form
    have hst := hr.str
    dsimp only [List.getElem?_cons_zero, List.getElem?_cons_succ] at k0 k1
    rw [hv] at k0 hst
    clear hr hb hv hm hg
    unfold str at hl ⊢
    unfold ptrV at hl
    go_enter Try.func15, Try.ntmps15
    go_wp2
    go_ret
    exact ⟨rfl, rfl⟩
theorem used_any : Calls Try.prog 21 #[.pointer (some ⟨d, 0, none⟩)] W fun e w' => e = .returned (.int .i64 s.used) ∧ w' = W := by
  obtain ⟨c0, c1, c2, c3, c4, c5, c6, c7⟩ := hD.c
  go_enter Try.func21, Try.ntmps21
  go_wp2
  go_ret
  exact ⟨rfl, rfl⟩
theorem ops_any : Calls Try.prog 22 #[.pointer (some ⟨d, 0, none⟩)] W fun e w' => e = .returned (.int .i64 s.ops) ∧ w' = W := by
  obtain ⟨c0, c1, c2, c3, c4, c5, c6, c7⟩ := hD.c
  go_enter Try.func22, Try.ntmps22
  go_wp2
  go_ret
  exact ⟨rfl, rfl⟩
theorem down_any : Calls Try.prog 17 #[.pointer (some ⟨d, 0, none⟩)] W fun e w' => e = .returned (.bool s.off) ∧ w' = W := by
  obtain ⟨c0, c1, c2, c3, c4, c5, c6, c7⟩ := hD.c
  go_enter Try.func17, Try.ntmps17
  go_wp2
  go_ret
  exact ⟨rfl, rfl⟩
end
def H.arm (s : H) (at_ kind more : Int) : H :=
  if at_ < 1 ∨ 1099511627776 < at_ ∨ (kind ≠ 1 ∧ kind ≠ 2) then { s with ak := 0, af := 0, al := 0 }
  else { s with ak := kind, af := s.ops + at_, al := s.ops + at_ + min (max more 0) 1099511627776 }
theorem Dk.setArm {w : World} {d mp : Nat} {es : List E} {s : H} (h : Dk w d mp es s) (k f l : Int) : Dk (((w.setCell ⟨d, 5, none⟩ (.int .i64 k)).setCell ⟨d, 6, none⟩ (.int .i64 f)).setCell ⟨d, 7, none⟩ (.int .i64 l)) d mp es { s with ak := k, af := f, al := l } :=
  ((h.setH (s' := { s with ak := k }) 5 (.int .i64 k) rfl).setH (s' := { s with ak := k, af := f }) 6 (.int .i64 f) rfl).setH 7 (.int .i64 l) rfl
theorem But.setArm {w : World} (d : Nat) (k f l : Int) : But d w (((w.setCell ⟨d, 5, none⟩ (.int .i64 k)).setCell ⟨d, 6, none⟩ (.int .i64 f)).setCell ⟨d, 7, none⟩ (.int .i64 l)) :=
  ((But.set_ d w 5 _).trans (But.set_ d _ 6 _)).trans (But.set_ d _ 7 _)
end Plk
end Go.Proofs.Ytbiikihapfpkfaa

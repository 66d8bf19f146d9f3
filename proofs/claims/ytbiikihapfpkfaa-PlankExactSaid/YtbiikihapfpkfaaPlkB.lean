/- isName, begin. -/
import Derived.Test.YtbiikihapfpkfaaPlkN
import Derived.Test.YtbiikihapfpkfaaLayCF
import Derived.BigQuiet
import Derived.BigRegion
import Derived.Lib.Hide
set_option linter.unusedSimpArgs false
set_option linter.unusedVariables false
set_option linter.unusedSectionVars false
namespace Go.Proofs.Ytbiikihapfpkfaa
open Go Go.RowKit
namespace Plk
def str (n : List UInt8) : Value := .string ⟨n.toArray⟩
theorem isName_any (n : List UInt8) (W : World) : Calls Try.prog 47 #[str n] W fun e w' => e = .returned (.bool (isName n)) ∧ w' = W := by
  have hs : (⟨n.toArray⟩ : ByteArray).size = n.length := by simp [ByteArray.size]
  unfold str isName
  go_enter Try.func47, Try.ntmps47
  by_cases h1 : 1 ≤ n.length
  · by_cases h2 : n.length ≤ 80
    · go_wp2
      go_ret
      exact ⟨by simp [h1, h2, hs] <;> omega, rfl⟩
    · go_wp2
      go_ret
      exact ⟨by simp [h1, h2, hs] <;> omega, rfl⟩
  · go_wp2
    go_ret
    exact ⟨by simp [h1, hs], rfl⟩
theorem pred (w : World) : PredAt Try.prog 55 #[] str (fun n => !isName n) w := fun W n _ => by
  show Calls Try.prog 55 #[str n] W _
  have hc := isName_any n
  go_enter Try.func55, Try.ntmps55
  generalize isName n = b at hc ⊢
  go_wp2_with (go_at_call 47; refine (hc _).mono ?_; rintro e w' ⟨rfl, rfl⟩)
  go_ret
  exact ⟨rfl, 0, rfl⟩
theorem Dk.c {w : World} {d mp : Nat} {es : List E} {s : H} (h : Dk w d mp es s) :
    w.cell? ⟨d, 0, none⟩ = some (.map (some mp)) ∧ w.cell? ⟨d, 1, none⟩ = some (.int .i64 s.room) ∧ w.cell? ⟨d, 2, none⟩ = some (.int .i64 s.used) ∧ w.cell? ⟨d, 3, none⟩ = some (.int .i64 s.ops) ∧
    w.cell? ⟨d, 4, none⟩ = some (.bool s.off) ∧ w.cell? ⟨d, 5, none⟩ = some (.int .i64 s.ak) ∧ w.cell? ⟨d, 6, none⟩ = some (.int .i64 s.af) ∧ w.cell? ⟨d, 7, none⟩ = some (.int .i64 s.al) :=
  ⟨h.blk.cell 0, h.blk.cell 1, h.blk.cell 2, h.blk.cell 3, h.blk.cell 4, h.blk.cell 5, h.blk.cell 6, h.blk.cell 7⟩
theorem cf_any (ns : List (List UInt8)) (b : Nat) (W : World) (hc : ∀ j, j < ns.length → W.cell? ⟨b, 0 + j, none⟩ = some (str ns[j]!)) (hl : ns.length ≤ 9) (c : Nat) :
    Calls Try.prog 54 #[.slice (some ⟨b, 0, none⟩) ns.length c, .func (.func 55) #[] #[]] W fun e w' => e = .returned (.bool (ns.any fun n => !isName n)) ∧ Reg.Ext W w' := by
  have h := AnyE.slices_ContainsFunc Try.layCF str (fun n => !isName n) 55 #[] (enters_of Try.func55 (by kernel_rfl) rfl) b 0 ns.length c ns W (pred W) (Nat.le_refl _) (by omega) hc
  rw [List.take_length] at h
  refine h.mono ?_
  rintro e w' ⟨rfl, q, rfl⟩
  exact ⟨rfl, Reg.Ext.drewN W q⟩
theorem Dk.setH {w : World} {d mp : Nat} {es : List E} {s s' : H} (h : Dk w d mp es s) (i : Nat) (u : Value) (hs : (s.head mp).set i u = s'.head mp) : Dk (w.setCell ⟨d, i, none⟩ u) d mp es s' :=
  h.turn (fun j _ hne => Below.heap_setCell w ⟨d, i, none⟩ u j hne) (by rw [← hs]; exact h.blk.set_ i u)
theorem Turn.of_but {w w' : World} {d mp : Nat} {es : List E} (h : But d w w') : Turn d mp w es w' es :=
  ⟨h.os, h.tape, h.output, h.size, fun i hi hn => h.block i hi fun e => hn (.inl (by injection e)), fun _ h => .inl h⟩
set_option maxHeartbeats 4000000 in
/-- Off -/
theorem off_any (W : World) (d mp : Nat) (es : List E) (s : H) (hD : Dk W d mp es s) : Calls Try.prog 13 #[.pointer (some ⟨d, 0, none⟩)] W fun e w' => e = .returned (.tuple #[]) ∧ Dk w' d mp es { s with off := true, ak := 0, af := 0, al := 0 } ∧ But d W w' := by
  have fz := hD.blk.frozen
  have f4 := fz 4
  have f5 := fz 5
  have f6 := fz 6
  have f7 := fz 7
  obtain ⟨c0, c1, c2, c3, c4, c5, c6, c7⟩ := hD.c
  clear fz
  go_enter Try.func13, Try.ntmps13
  go_wp2
  go_end0
  refine ⟨rfl, ?_, (((But.set_ d W 4 _).trans (But.set_ d _ 5 _)).trans (But.set_ d _ 6 _)).trans (But.set_ d _ 7 _)⟩
  exact (((hD.setH (s' := { s with off := true }) 4 (.bool true) rfl).setH (s' := { s with off := true, ak := 0 }) 5 (.int .i64 0) rfl).setH (s' := { s with off := true, ak := 0, af := 0 }) 6 (.int .i64 0) rfl).setH 7 (.int .i64 0) rfl
set_option maxHeartbeats 1000000 in
/-- begin -/
theorem begin_any (W : World) (d mp : Nat) (es : List E) (s : H) (hD : Dk W d mp es s) (ns : List (List UInt8)) (b : Nat) (hc : ∀ j, j < ns.length → W.cell? ⟨b, 0 + j, none⟩ = some (str ns[j]!)) (hl : ns.length ≤ 9) (c : Nat)
    (h0 : 0 ≤ s.ops) (h1 : s.ops < 4611686018427387904) : Calls Try.prog 42 #[.pointer (some ⟨d, 0, none⟩), .slice (some ⟨b, 0, none⟩) ns.length c] W fun e w' =>
      e = .returned (.int .i64 (s.begin ns).1) ∧ Dk w' d mp es (s.begin ns).2 ∧ But d W w' := by
  have hcf := cf_any ns b W hc hl c
  generalize hr : s.begin ns = r
  unfold H.begin at hr
  generalize (ns.any fun n => !isName n) = bad at hcf hr
  clear hc hl
  obtain ⟨room, used, ops, off, ak, af, al⟩ := s
  dsimp only at hr h0 h1
  have hof := off_any
  go_enter Try.func42, Try.ntmps42
  cases bad with
  | true =>
    rw [if_pos rfl] at hr
    subst hr
    go_wp2_with (go_at_call 54; refine hcf.mono ?_; rintro e w1 ⟨rfl, hx⟩)
    go_ret
    exact ⟨rfl, hD.ext hx, But.of_ext hx⟩
  | false =>
    cases off with
    | true =>
      rw [if_neg Bool.false_ne_true, if_pos rfl] at hr
      subst hr
      go_wp2_with (go_at_call 54; refine hcf.mono ?_; rintro e w1 ⟨rfl, hx⟩; have hD1 := hD.ext hx; obtain ⟨c0, c1, c2, c3, c4, c5, c6, c7⟩ := hD1.c; have f3 := hD1.blk.frozen 3; dsimp only at c1 c2 c3 c4 c5 c6 c7)
      go_ret
      exact ⟨rfl, hD.ext hx, But.of_ext hx⟩
    | false =>
      rw [if_neg Bool.false_ne_true, if_neg Bool.false_ne_true] at hr
      have hrk := Lib.hid hr
      clear hr
      go_wp2_with (go_at_call 54; refine hcf.mono ?_; rintro e w1 ⟨rfl, hx⟩; have hD1 := hD.ext hx; obtain ⟨c0, c1, c2, c3, c4, c5, c6, c7⟩ := hD1.c; have f3 := hD1.blk.frozen 3; dsimp only at c1 c2 c3 c4 c5 c6 c7)
      have hb2 : But d W (w1.setCell ⟨d, 3, none⟩ (.int .i64 (ops + 1))) := (But.of_ext hx).trans (But.set_ d _ 3 _)
      have hD2 : Dk (w1.setCell ⟨d, 3, none⟩ (.int .i64 (ops + 1))) d mp es ⟨room, used, ops + 1, false, ak, af, al⟩ := hD1.setH 3 _ rfl
      generalize w1.setCell ⟨d, 3, none⟩ (.int .i64 (ops + 1)) = w2 at hb2 hD2 ⊢
      generalize ops + 1 = o1 at hD2 hrk
      clear c0 c1 c2 c3 c4 c5 c6 c7 f3 hD hD1 hcf hx h0 h1
      obtain ⟨c0, c1, c2, c3, c4, c5, c6, c7⟩ := hD2.c
      dsimp only at c1 c2 c3 c4 c5 c6 c7
      by_cases k1 : ak = 0
      · have hr := hrk.out
        rw [if_pos (.inl k1)] at hr
        subst hr
        subst k1
        go_quiet (fail)
        go_wp2
        go_ret
        exact ⟨rfl, hD2.ext (Reg.Ext.drewN _ _), hb2.trans (But.of_ext (Reg.Ext.drewN _ _))⟩
      · have q1 : (ak == 0) = false := beq_eq_false_iff_ne.2 k1
        by_cases k2 : o1 < af
        · have q2 : decide (o1 < af) = true := decide_eq_true k2
          have hr := hrk.out
          rw [if_pos (.inr (.inl k2))] at hr
          subst hr
          clear k1 k2
          go_quiet (fail)
          go_wp2
          go_ret
          exact ⟨rfl, hD2.ext (Reg.Ext.drewN _ _), hb2.trans (But.of_ext (Reg.Ext.drewN _ _))⟩
        · have q2 : decide (o1 < af) = false := decide_eq_false k2
          by_cases k3 : al < o1
          · have q3 : decide (al < o1) = true := decide_eq_true k3
            have hr := hrk.out
            rw [if_pos (.inr (.inr k3))] at hr
            subst hr
            clear k1 k2 k3
            go_quiet (fail)
            go_wp2
            go_ret
            exact ⟨rfl, hD2.ext (Reg.Ext.drewN _ _), hb2.trans (But.of_ext (Reg.Ext.drewN _ _))⟩
          · have q3 : decide (al < o1) = false := decide_eq_false k3
            have hr := hrk.out
            rw [if_neg (by rintro (h | h | h); exact k1 h; exact k2 h; exact k3 h)] at hr
            by_cases k4 : ak = 2
            · rw [if_pos k4] at hr
              subst hr
              clear k1 k2 k3
              go_quiet (fail)
              go_wp2_with (go_at_call 13; refine (hof _ d mp es _ (hD2.ext (Reg.Ext.drewN _ _))).mono ?_; rintro e w3 ⟨rfl, hD3, hb3⟩)
              go_ret
              exact ⟨rfl, hD3, (hb2.trans (But.of_ext (Reg.Ext.drewN _ _))).trans hb3⟩
            · rw [if_neg k4] at hr
              subst hr
              clear k1 k2 k3
              go_quiet (fail)
              go_wp2
              go_ret
              exact ⟨rfl, hD2.ext (Reg.Ext.drewN _ _), hb2.trans (But.of_ext (Reg.Ext.drewN _ _))⟩
end Plk
end Go.Proofs.Ytbiikihapfpkfaa

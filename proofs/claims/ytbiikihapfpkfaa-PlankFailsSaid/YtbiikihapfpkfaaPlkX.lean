/- Flip. -/
import Derived.Test.YtbiikihapfpkfaaPlkW
import Derived.Laws.BitsAllLaws
set_option linter.unusedSimpArgs false
set_option linter.unusedVariables false
set_option linter.unusedSectionVars false
namespace Go.Proofs.Ytbiikihapfpkfaa
open Go Go.RowKit
theorem PRow.put {w : World} {g cap : Nat} {l : List UInt8} (h : PRow w (.slice (some ⟨g, 0, none⟩) l.length cap) l) (j : Nat) (hj : j < l.length) (b : UInt8) : PRow (w.setCell ⟨g, j, none⟩ (byteV b)) (.slice (some ⟨g, 0, none⟩) l.length cap) (l.set j b) ∧ w.grownBy (w.setCell ⟨g, j, none⟩ (byteV b)) (some g) ∧ w.cell? ⟨g, j, none⟩ = some (byteV l[j]) ∧ w.frozen? ⟨g, j, none⟩ = false := by
  rcases h with ⟨h1, _⟩ | ⟨g', cap', cur, fz, e, hr, h1, h2, h3, h4, htk⟩
  · have h2 : some g = none := congrArg Value.ownBlock h1
    cases h2
  · have e1 : g = g' := Option.some.inj (congrArg Value.ownBlock e)
    subst e1
    injection e with _ _ e3
    subst e3
    refine ⟨.inr ⟨g, cap, cur.setIfInBounds j (byteV b), fz, by rw [List.length_set], ?_, ?_, ?_, h3, ?_, ?_⟩, But.set_ g w j _, row_cell hr htk j hj, ?_⟩
    · simp [World.setCell, Array.getElem?_modify, hr]
    · rw [Array.size_setIfInBounds]; exact h1
    · rw [List.length_set]; exact h2
    · rw [Array.size_setIfInBounds]; exact h4
    · rw [List.length_set, Array.toList_setIfInBounds, List.take_set, htk, List.map_set]
    · obtain ⟨lo, hi'⟩ := fz
      simp only [World.frozen?, hr, Bool.and_eq_false_iff, decide_eq_false_iff_not]
      simp only at h1
      rcases h1 with h1 | h1
      · right; omega
      · left; omega
namespace Plk
def P.flip (p : P) (n : List UInt8) (x : Int) (b : UInt8) : Bool × P := match Nmd.get F.name n p.fs with
  | none => (false, p)
  | some f => if b = 0 ∨ x < 0 ∨ (f.l.length : Int) ≤ x then (false, p) else (true, ⟨Nmd.upd F.name ⟨f.name, f.l.set x.toNat (f.l[x.toNat]! ^^^ b), f.safe⟩ p.fs, p.h⟩)
theorem flip_pl (es : List E) (s : H) (n : List UInt8) (x : Int) (b : UInt8) : (pl es s).flip n x b = match Nmd.get E.nm n es with
  | none => (false, pl es s)
  | some e => if b = 0 ∨ x < 0 ∨ (e.f.l.length : Int) ≤ x then (false, pl es s) else (true, ⟨Nmd.upd F.name ⟨e.f.name, e.f.l.set x.toNat (e.f.l[x.toNat]! ^^^ b), e.f.safe⟩ (es.map E.f), s⟩) := by
  unfold P.flip pl
  dsimp only
  rw [get_pl]
  cases Nmd.get E.nm n es <;> rfl
theorem xor_u8 (a b : UInt8) : Go.bits .xor .u8 ((a.toNat : Nat) : Int) ((b.toNat : Nat) : Int) = (((a ^^^ b).toNat : Nat) : Int) := by
  rw [u8_xor_nat _ _ (UInt8.toNat_lt _) (UInt8.toNat_lt _), UInt8.toNat_xor]
def ResB (d mp : Nat) (W : World) (es : List E) (r : Bool × P) (e : Ending) (w' : World) : Prop := ∃ es' s', e = .returned (.bool r.1) ∧ Dk w' d mp es' s' ∧ Turn d mp W es w' es' ∧ pl es' s' = r.2
set_option maxHeartbeats 1000000 in
set_option maxRecDepth 100000 in
theorem flip_any (W : World) (d mp : Nat) (es : List E) (s : H) (hD : Dk W d mp es s) (n : List UInt8) (x : Int) (b : UInt8) (hle : ∀ e ∈ es, e.f.l.length ≤ 4194304) (hnl : n.length ≤ maxLen) :
    Calls Try.prog 26 #[.pointer (some ⟨d, 0, none⟩), str n, .int .i64 x, byteV b] W (ResB d mp W es ((pl es s).flip n x b)) := by
  have hS := size_any W d mp es s hD n hnl
  have c0 := hD.c.1
  have hl := hD.look n hnl
  have hb256 : b.toNat < 256 := b.toNat_lt
  unfold byteV
  by_cases hb0 : b = 0
  · have hr : (pl es s).flip n x b = (false, pl es s) := by
      rw [flip_pl]
      cases Nmd.get E.nm n es with
      | none => rfl
      | some e => exact if_pos (.inl hb0)
    rw [hr]
    subst hb0
    clear hr hS hl
    unfold str
    go_enter Try.func26, Try.ntmps26
    go_wp2
    go_ret
    exact ⟨es, s, rfl, hD, Turn.refl _ _ _ _, rfl⟩
  · have q0 : (((b.toNat : Nat) : Int) == 0) = false := beq_eq_false_iff_ne.2 fun e => hb0 (UInt8.toNat_inj.1 (by simpa using e))
    have hb0k := Lib.hid hb0
    clear hb0
    by_cases hx0 : x < 0
    · have hr : (pl es s).flip n x b = (false, pl es s) := by
        rw [flip_pl]
        cases Nmd.get E.nm n es with
        | none => rfl
        | some e => exact if_pos (.inr (.inl hx0))
      rw [hr]
      clear hr hS hl
      unfold str
      go_enter Try.func26, Try.ntmps26
      go_wp2
      go_ret
      exact ⟨es, s, rfl, hD, Turn.refl _ _ _ _, rfl⟩
    · obtain ⟨j, rfl⟩ := Int.eq_ofNat_of_zero_le (Int.not_lt.1 hx0)
      clear hx0
      rw [flip_pl]
      cases hg : Nmd.get E.nm n es with
      | none =>
        rw [hg] at hS
        dsimp only [szO] at hS ⊢
        clear hl
        unfold str at hS ⊢
        go_enter Try.func26, Try.ntmps26
        go_wp2_with (go_at_call 24; refine hS.mono ?_; rintro e _ ⟨rfl, rfl⟩)
        go_ret
        exact ⟨es, s, rfl, hD, Turn.refl _ _ _ _, rfl⟩
      | some e0 =>
        rw [hg] at hS hl
        have hm := (Nmd.get_mem hg).1
        have hll := hle e0 hm
        dsimp only [szO] at hS ⊢
        by_cases hj : j < e0.f.l.length
        · rw [if_neg (by rintro (h | h | h); exact hb0k.out h; omega; omega)]
          have hbk := hD.file e0 hm
          have k0 := hbk.cell 0
          dsimp only [List.getElem?_cons_zero] at k0
          have hrow := hD.row e0 hm
          rcases hrow.form2 with ⟨_, h2⟩ | ⟨g, cap, hv, hc1, hc2⟩
          · rw [h2] at hj; exact absurd hj (Nat.not_lt_zero _)
          · rw [hv] at hrow k0
            obtain ⟨p1, p2, p3, p4⟩ := hrow.put j hj (e0.f.l[j] ^^^ b)
            have hP := Lib.hid p1
            have hG := Lib.hid p2
            have hV := Lib.hid hv
            clear p1 p2 hv hbk
            have hjb : e0.f.l[j].toNat < 256 := e0.f.l[j].toNat_lt
            have hxo : byteV (e0.f.l[j] ^^^ b) = .int .u8 ((e0.f.l[j].toNat ^^^ b.toNat : Nat) : Int) := rfl
            have hgb : e0.f.l[j]! = e0.f.l[j] := getElem!_pos e0.f.l j hj
            have hgk := Lib.hid hgb
            have hxk := Lib.hid hxo
            clear hgb hxo
            unfold byteV at p3
            unfold str ptrV at hl
            unfold str at hS ⊢
            go_enter Try.func26, Try.ntmps26
            go_wp2_with (go_at_call 24; refine hS.mono ?_; rintro e W2 ⟨rfl, rfl⟩)
            go_ret
            rw [Int.toNat_natCast, hgk.out]
            have e : Value.int .u8 (Go.bits .xor .u8 ((e0.f.l[j].toNat : Nat) : Int) ((b.toNat : Nat) : Int)) = byteV (e0.f.l[j] ^^^ b) := by
              rw [xor_u8]; rfl
            rw [e]
            have hg2 := hG.out
            have hv2 : e0.v.ownBlock = some g := congrArg Value.ownBlock hV.out
            rw [← hv2] at hg2
            have hne : e0.v.ownBlock ≠ some e0.g := hD.self e0 hm
            have hP2 : PRow (W2.setCell ⟨g, j, none⟩ (byteV (e0.f.l[j] ^^^ b))) e0.v (e0.f.l.set j (e0.f.l[j] ^^^ b)) := by
              have := hP.out
              rw [← hV.out] at this
              exact this
            obtain ⟨h5, h6⟩ := hD.setRow hm e0.v (e0.f.l.set j (e0.f.l[j] ^^^ b)) e0.f.safe hP2 hg2 (.inl rfl) _ (But.refl _ _) ((hD.grown hm hg2).2)
            exact ⟨_, s, rfl, h5, h6, pl_upd _ _ _⟩
        · rw [if_pos (.inr (.inr (by omega)))]
          clear hl
          unfold str at hS ⊢
          go_enter Try.func26, Try.ntmps26
          go_wp2_with (go_at_call 24; refine hS.mono ?_; rintro e _ ⟨rfl, rfl⟩)
          go_ret
          exact ⟨es, s, rfl, hD, Turn.refl _ _ _ _, rfl⟩
end Plk
end Go.Proofs.Ytbiikihapfpkfaa

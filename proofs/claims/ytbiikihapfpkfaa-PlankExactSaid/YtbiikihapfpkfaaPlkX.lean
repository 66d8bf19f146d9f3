/- Flip; Good stays. -/
import Derived.Test.YtbiikihapfpkfaaPlkW
import Derived.Laws.BitsAllLaws
set_option linter.unusedSimpArgs false
set_option linter.unusedVariables false
set_option linter.unusedSectionVars false
namespace Go.Proofs.Ytbiikihapfpkfaa
section
open Go Go.RowKit
theorem PRow.put {w : World} {g cap : Nat} {l : List UInt8} (h : PRow w (.slice (some ⟨g, 0, none⟩) l.length cap) l) (j : Nat) (hj : j < l.length) (b : UInt8) : PRow (w.setCell ⟨g, j, none⟩ (byteV b)) (.slice (some ⟨g, 0, none⟩) l.length cap) (l.set j b) ∧ w.grownBy (w.setCell ⟨g, j, none⟩ (byteV b)) (some g) ∧ w.cell? ⟨g, j, none⟩ = some (byteV l[j]) ∧ w.frozen? ⟨g, j, none⟩ = false := by
  rcases h with ⟨h1, _⟩ | ⟨g', cap', cur, fz, e, hr, h1, h2, h3, h4, htk⟩
  · have h2 : some g = none := congrArg Value.ownBlock h1
    cases h2
  · have e1 : g = g' := Option.some.inj (congrArg Value.ownBlock e)
    subst e1
    injection e with _ _ e3
    subst e3
    refine ⟨.inr ⟨g, cap, cur.setIfInBounds j (byteV b), fz, by rw [List.length_set], ?_, ?_, ?_, h3, ?_, ?_⟩, But.set_ g w j _, row_cell hr htk j hj, ?_⟩
    · simp [World.setCell, Array.getElem?_modify, hr]
    · rw [Array.size_setIfInBounds]; exact h1
    · rw [List.length_set]; exact h2
    · rw [Array.size_setIfInBounds]; exact h4
    · rw [List.length_set, Array.toList_setIfInBounds, List.take_set, htk, List.map_set]
    · obtain ⟨lo, hi'⟩ := fz
      simp only [World.frozen?, hr, Bool.and_eq_false_iff, decide_eq_false_iff_not]
      simp only at h1
      rcases h1 with h1 | h1
      · right; omega
      · left; omega
namespace Plk
def P.flip (p : P) (n : List UInt8) (x : Int) (b : UInt8) : Bool × P := match Nmd.get F.name n p.fs with
  | none => (false, p)
  | some f => if b = 0 ∨ x < 0 ∨ (f.l.length : Int) ≤ x then (false, p) else (true, ⟨Nmd.upd F.name ⟨f.name, f.l.set x.toNat (f.l[x.toNat]! ^^^ b), f.safe⟩ p.fs, p.h⟩)
theorem flip_pl (es : List E) (s : H) (n : List UInt8) (x : Int) (b : UInt8) : (pl es s).flip n x b = match Nmd.get E.nm n es with
  | none => (false, pl es s)
  | some e => if b = 0 ∨ x < 0 ∨ (e.f.l.length : Int) ≤ x then (false, pl es s) else (true, ⟨Nmd.upd F.name ⟨e.f.name, e.f.l.set x.toNat (e.f.l[x.toNat]! ^^^ b), e.f.safe⟩ (es.map E.f), s⟩) := by
  unfold P.flip pl
  dsimp only
  rw [get_pl]
  cases Nmd.get E.nm n es <;> rfl
theorem xor_u8 (a b : UInt8) : Go.bits .xor .u8 ((a.toNat : Nat) : Int) ((b.toNat : Nat) : Int) = (((a ^^^ b).toNat : Nat) : Int) := by
  rw [u8_xor_nat _ _ (UInt8.toNat_lt _) (UInt8.toNat_lt _), UInt8.toNat_xor]
def ResB (d mp : Nat) (W : World) (es : List E) (r : Bool × P) (e : Ending) (w' : World) : Prop := ∃ es' s', e = .returned (.bool r.1) ∧ Dk w' d mp es' s' ∧ Turn d mp W es w' es' ∧ pl es' s' = r.2
set_option maxHeartbeats 1000000 in
set_option maxRecDepth 100000 in
theorem flip_any (W : World) (d mp : Nat) (es : List E) (s : H) (hD : Dk W d mp es s) (n : List UInt8) (x : Int) (b : UInt8) (hle : ∀ e ∈ es, e.f.l.length ≤ 4194304) (hnl : n.length ≤ maxLen) :
    Calls Try.prog 26 #[.pointer (some ⟨d, 0, none⟩), str n, .int .i64 x, byteV b] W (ResB d mp W es ((pl es s).flip n x b)) := by
  have hS := size_any W d mp es s hD n hnl
  have c0 := hD.c.1
  have hl := hD.look n hnl
  have hb256 : b.toNat < 256 := b.toNat_lt
  unfold byteV
  by_cases hb0 : b = 0
  · have hr : (pl es s).flip n x b = (false, pl es s) := by
      rw [flip_pl]
      cases Nmd.get E.nm n es with
      | none => rfl
      | some e => exact if_pos (.inl hb0)
    rw [hr]
    subst hb0
    clear hr hS hl
    unfold str
    go_enter Try.func26, Try.ntmps26
    go_wp2
    go_ret
    exact ⟨es, s, rfl, hD, Turn.refl _ _ _ _, rfl⟩
  · have q0 : (((b.toNat : Nat) : Int) == 0) = false := beq_eq_false_iff_ne.2 fun e => hb0 (UInt8.toNat_inj.1 (by simpa using e))
    have hb0k := Lib.hid hb0
    clear hb0
    by_cases hx0 : x < 0
    · have hr : (pl es s).flip n x b = (false, pl es s) := by
        rw [flip_pl]
        cases Nmd.get E.nm n es with
        | none => rfl
        | some e => exact if_pos (.inr (.inl hx0))
      rw [hr]
      clear hr hS hl
      unfold str
      go_enter Try.func26, Try.ntmps26
      go_wp2
      go_ret
      exact ⟨es, s, rfl, hD, Turn.refl _ _ _ _, rfl⟩
    · obtain ⟨j, rfl⟩ := Int.eq_ofNat_of_zero_le (Int.not_lt.1 hx0)
      clear hx0
      rw [flip_pl]
      cases hg : Nmd.get E.nm n es with
      | none =>
        rw [hg] at hS
        dsimp only [szO] at hS ⊢
        clear hl
        unfold str at hS ⊢
        go_enter Try.func26, Try.ntmps26
        go_wp2_with (go_at_call 24; refine hS.mono ?_; rintro e _ ⟨rfl, rfl⟩)
        go_ret
        exact ⟨es, s, rfl, hD, Turn.refl _ _ _ _, rfl⟩
      | some e0 =>
        rw [hg] at hS hl
        have hm := (Nmd.get_mem hg).1
        have hll := hle e0 hm
        dsimp only [szO] at hS ⊢
        by_cases hj : j < e0.f.l.length
        · rw [if_neg (by rintro (h | h | h); exact hb0k.out h; omega; omega)]
          have hbk := hD.file e0 hm
          have k0 := hbk.cell 0
          dsimp only [List.getElem?_cons_zero] at k0
          have hrow := hD.row e0 hm
          rcases hrow.form2 with ⟨_, h2⟩ | ⟨g, cap, hv, hc1, hc2⟩
          · rw [h2] at hj; exact absurd hj (Nat.not_lt_zero _)
          · rw [hv] at hrow k0
            obtain ⟨p1, p2, p3, p4⟩ := hrow.put j hj (e0.f.l[j] ^^^ b)
            have hP := Lib.hid p1
            have hG := Lib.hid p2
            have hV := Lib.hid hv
            clear p1 p2 hv hbk
            have hjb : e0.f.l[j].toNat < 256 := e0.f.l[j].toNat_lt
            have hxo : byteV (e0.f.l[j] ^^^ b) = .int .u8 ((e0.f.l[j].toNat ^^^ b.toNat : Nat) : Int) := rfl
            have hgb : e0.f.l[j]! = e0.f.l[j] := getElem!_pos e0.f.l j hj
            have hgk := Lib.hid hgb
            have hxk := Lib.hid hxo
            clear hgb hxo
            unfold byteV at p3
            unfold str ptrV at hl
            unfold str at hS ⊢
            go_enter Try.func26, Try.ntmps26
            go_wp2_with (go_at_call 24; refine hS.mono ?_; rintro e W2 ⟨rfl, rfl⟩)
            go_ret
            rw [Int.toNat_natCast, hgk.out]
            have e : Value.int .u8 (Go.bits .xor .u8 ((e0.f.l[j].toNat : Nat) : Int) ((b.toNat : Nat) : Int)) = byteV (e0.f.l[j] ^^^ b) := by
              rw [xor_u8]; rfl
            rw [e]
            have hg2 := hG.out
            have hv2 : e0.v.ownBlock = some g := congrArg Value.ownBlock hV.out
            rw [← hv2] at hg2
            have hne : e0.v.ownBlock ≠ some e0.g := hD.self e0 hm
            have hP2 : PRow (W2.setCell ⟨g, j, none⟩ (byteV (e0.f.l[j] ^^^ b))) e0.v (e0.f.l.set j (e0.f.l[j] ^^^ b)) := by
              have := hP.out
              rw [← hV.out] at this
              exact this
            obtain ⟨h5, h6⟩ := hD.setRow hm e0.v (e0.f.l.set j (e0.f.l[j] ^^^ b)) e0.f.safe hP2 hg2 (.inl rfl) _ (But.refl _ _) ((hD.grown hm hg2).2)
            exact ⟨_, s, rfl, h5, h6, pl_upd _ _ _⟩
        · rw [if_pos (.inr (.inr (by omega)))]
          clear hl
          unfold str at hS ⊢
          go_enter Try.func26, Try.ntmps26
          go_wp2_with (go_at_call 24; refine hS.mono ?_; rintro e _ ⟨rfl, rfl⟩)
          go_ret
          exact ⟨es, s, rfl, hD, Turn.refl _ _ _ _, rfl⟩
end Plk
end
section
open Go Go.RowKit
namespace Plk
theorem Good.del {fs : List F} {s : H} (h : Good ⟨fs, s⟩) {n : List UInt8} {f : F} (hg : Nmd.get F.name n fs = some f) : Good ⟨Nmd.del F.name n fs, { s with used := s.used - f.l.length }⟩ := by
  have hsum : sum (Nmd.del F.name n fs) + f.l.length = sum fs := sum_del h.up hg
  have hus := h.used
  have hro := h.room
  dsimp only at hus hro
  refine ⟨h.up.del n, ?_, ⟨?_, hro.2⟩, ?_, ?_, ?_, h.ops⟩
  · dsimp only; omega
  · dsimp only; omega
  · intro y hy; exact h.safe y (Nmd.mem_del.1 hy).1
  · exact Nat.le_trans (List.length_filter_le _ _) h.cnt
  · intro y hy; exact h.names y (Nmd.mem_del.1 hy).1
theorem Good.ins_ {fs : List F} {s : H} (h : Good ⟨fs, s⟩) (x : F) (hg : Nmd.get F.name x.name fs = none) (hc : fs.length < 200) (hn : isName x.name = true) (hs : x.safe ≤ x.l.length) (hr : s.used + x.l.length ≤ s.room) : Good ⟨Nmd.ins F.name x fs, { s with used := s.used + x.l.length }⟩ := by
  have hsum := sum_ins x fs
  have hus := h.used
  have hro := h.room
  dsimp only at hus hro
  refine ⟨h.up.ins (Nmd.get_none hg), ?_, ⟨hr, hro.2⟩, ?_, ?_, ?_, h.ops⟩
  · dsimp only; omega
  · intro f hf
    rcases Nmd.mem_ins.1 hf with rfl | hf
    · exact hs
    · exact h.safe f hf
  · show (Nmd.ins F.name x fs).length ≤ 200
    rw [Nmd.length_ins]; omega
  · intro f hf
    rcases Nmd.mem_ins.1 hf with rfl | hf
    · exact hn
    · exact h.names f hf
theorem fget_del {fs : List F} {n t : List UInt8} (h : Nmd.get F.name t fs = none) : Nmd.get F.name t (Nmd.del F.name n fs) = none := by
  rw [Nmd.get_del]
  split
  · rfl
  · exact h
theorem Good.moved {fs : List F} {s : H} (h : Good ⟨fs, s⟩) {n t : List UInt8} {f : F} (hg : Nmd.get F.name n fs = some f) (ht : Nmd.get F.name t fs = none) (hn : isName t = true) : Good ⟨Nmd.ins F.name ⟨t, f.l, f.safe⟩ (Nmd.del F.name n fs), s⟩ := by
  have h1 := h.del hg
  have hl := Nmd.length_del h.up hg
  have hc := h.cnt
  have hro := h.room
  dsimp only at hl hc hro
  have h2 := h1.ins_ ⟨t, f.l, f.safe⟩ (fget_del ht) (by omega) hn (h.safe f (Nmd.get_mem hg).1) (by dsimp only; omega)
  dsimp only at h2
  rw [show s.used - (f.l.length : Int) + (f.l.length : Int) = s.used by omega] at h2
  exact h2
theorem begin_names2 {s : H} {n t : List UInt8} (h : (s.begin [n, t]).1 = 0) : isName n = true ∧ isName t = true := by
  unfold H.begin at h
  by_cases hb : ([n, t].any fun n => !isName n) = true
  · rw [if_pos hb] at h; cases h
  · simpa using hb
theorem Good.rename {p : P} (h : Good p) (n t : List UInt8) : Good (p.rename n t).2 := by
  unfold P.rename
  have hb := h.begin_ [n, t]
  by_cases h1 : (p.h.begin [n, t]).1 ≠ 0
  · rw [if_pos h1]; exact hb
  · rw [if_neg h1]
    have ht := (begin_names2 (Decidable.not_not.1 h1)).2
    cases hg : Nmd.get F.name n p.fs with
    | none => exact hb
    | some f =>
      dsimp only
      by_cases hnt : n = t
      · rw [if_pos hnt]; exact hb
      · rw [if_neg hnt]
        cases hg2 : Nmd.get F.name t p.fs with
        | none => exact hb.moved hg hg2 ht
        | some y =>
          have h2 := hb.del hg2
          refine h2.moved ?_ ?_ ht
          · rw [Nmd.get_del, if_neg (fun e => hnt e.symm)]; exact hg
          · rw [Nmd.get_del, if_pos rfl]
theorem Good.lay {p : P} (h : Good p) (n t : List UInt8) : Good (p.lay n t).2 := by
  unfold P.lay
  have hcn := h.cnt
  by_cases h1 : isName n = false
  · rw [if_pos h1]; exact h
  · rw [if_neg h1]
    have hn : isName n = true := by simpa using h1
    cases hg : Nmd.get F.name n p.fs with
    | none =>
      dsimp only
      by_cases h2 : 200 ≤ p.fs.length ∨ p.h.room - p.h.used < t.length
      · rw [if_pos h2]; exact h
      · rw [if_neg h2]
        exact Good.ins_ (fs := p.fs) (s := p.h) h ⟨n, t, t.length⟩ hg (by omega) hn (Nat.le_refl _) (by dsimp only; omega)
    | some f =>
      dsimp only
      by_cases h2 : p.h.room - p.h.used + f.l.length < t.length
      · rw [if_pos h2]; exact h
      · rw [if_neg h2]
        have hl := Nmd.length_del h.up hg
        exact Good.ins_ (Good.del (fs := p.fs) (s := p.h) h hg) ⟨n, t, t.length⟩ (by rw [Nmd.get_del, if_pos rfl]) (by omega) hn (Nat.le_refl _) (by dsimp only; omega)
theorem Good.flip {p : P} (h : Good p) (n : List UInt8) (x : Int) (b : UInt8) : Good (p.flip n x b).2 := by
  unfold P.flip
  cases hg : Nmd.get F.name n p.fs with
  | none => exact h
  | some f =>
    dsimp only
    by_cases h2 : b = 0 ∨ x < 0 ∨ (f.l.length : Int) ≤ x
    · rw [if_pos h2]; exact h
    · rw [if_neg h2]
      have hm := (Nmd.get_mem hg).1
      refine Good.upd (fs := p.fs) (s := p.h) h (x := ⟨f.name, f.l.set x.toNat (f.l[x.toNat]! ^^^ b), f.safe⟩) hm rfl ?_ p.h ?_ h.room h.ops
      · show f.safe ≤ (f.l.set _ _).length
        rw [List.length_set]; exact h.safe f hm
      · dsimp only
        rw [List.length_set]; omega
end Plk
end
end Go.Proofs.Ytbiikihapfpkfaa

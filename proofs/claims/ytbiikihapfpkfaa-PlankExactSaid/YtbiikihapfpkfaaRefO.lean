/- The document's disk beside the plain one: Flip. -/
import Derived.Test.YtbiikihapfpkfaaRefN
import Derived.Test.YtbiikihapfpkfaaPlkX
import Derived.BigRegion
set_option linter.unusedSimpArgs false
set_option linter.unusedVariables false
set_option linter.unusedSectionVars false
namespace Go.Proofs.Ytbiikihapfpkfaa
open Go Go.RowKit
namespace Rk
open Plk (F P H isName sum xor_u8)
theorem flip_ext (l : List UInt8) (j : Nat) (c : UInt8) (hj : j < l.length) : (⟨l.toArray⟩ : ByteArray).extract 0 j ++ (⟨#[c]⟩ : ByteArray) ++ (⟨l.toArray⟩ : ByteArray).extract (j + 1) l.length = ⟨(l.set j c).toArray⟩ := by
  apply ByteArray.ext
  rw [ByteArray.data_append, ByteArray.data_append, ByteArray.data_extract, ByteArray.data_extract]
  apply Array.ext'
  rw [List.set_eq_take_append_cons_drop, if_pos hj]
  simp [List.extract_eq_take_drop]
  exact List.take_of_length_le (by rw [List.length_drop]; exact Nat.le_refl _)
set_option maxRecDepth 100000 in
set_option maxHeartbeats 1000000 in
theorem flip_ref {w : World} {b : Nat} {v : Value} {r : R} {p : P} (h : Both w b v r p) (n : List UInt8) (x : Int) (y : UInt8) :
    Calls Try.prog 39 #[.pointer (some ⟨b, 0, none⟩), .string ⟨n.toArray⟩, .int .i64 x, .int .u8 (y.toNat : Int)] w (RP b w v (.bool (p.flip n x y).1) (p.flip n x y).2) := by
  have hR := h.rd
  have hS := h.sim
  obtain ⟨A, cap, hv⟩ := h.rd.row.len
  rw [h.sim.l] at hv
  subst hv
  have hu := h.good.up
  have hcn := h.good.cnt
  have hgood := Lib.hid h.good
  obtain ⟨fs, s⟩ := p
  dsimp only at *
  have hpl := Both.placed hR hS.l hcn n
  have HL := Lib.hid hS.l
  have y256 : y.toNat < 256 := y.toNat_lt
  generalize hres : P.flip ⟨fs, s⟩ n x y = res
  unfold P.flip at hres
  have hrk := Lib.hid hres
  clear hres h
  rcases place_get hu n with ⟨hg, hpv⟩ | ⟨k, f, hk, hf, hg, hpv, hd, hx⟩
  · have hrs := hrk.out
    rw [hg] at hrs
    dsimp only at hrs
    subst hrs
    rw [hpv] at hpl
    clear hrk hpv hg hu
    go_enter Try.func39, Try.ntmps39
    go_wp2_with (go_at_call 50; refine hpl.mono ?_; rintro e w2 ⟨rfl, e2⟩; subst e2)
    go_ret
    exact ⟨rfl, _, r, hR, hS, But.refl _ _, Newer.refl _ _⟩
  · have hrs := hrk.out
    rw [hg] at hrs
    dsimp only at hrs
    rw [hpv] at hpl
    have hll : f.l.length ≤ 4194304 := by
      have h1 := Plk.len_sum (show f ∈ fs by rw [← hf]; exact List.getElem_mem hk)
      have h2 := hgood.out.used
      have h3 := hgood.out.room
      dsimp only at h2 h3
      omega
    have z3 := bz f.l
    have hrow : LV w (.slice A fs.length cap) fs := by
      have := hR.row
      rw [HL.out] at this
      exact this
    rcases hrow.form with ⟨_, h2⟩ | ⟨g, cap', h2, _, _, _⟩
    · rw [h2] at hk; exact absurd hk (Nat.not_lt_zero _)
    injection h2 with h2 h2b h3
    clear h2b
    subst h2 h3
    have k1 := hrow.at_ k hk 1 (by omega)
    rw [hf] at k1
    dsimp only [fcs, List.getElem?_cons_zero, List.getElem?_cons_succ] at k1
    have c0 := hR.c.1
    have hrg := hrow.range k hk
    rw [hf] at hrg
    have HXX := Lib.hid hx
    clear hrk hd hx hpv hg hu
    by_cases hy0 : y = 0
    · rw [if_pos (.inl hy0)] at hrs
      subst hrs hy0
      go_enter Try.func39, Try.ntmps39
      go_wp2_with (go_at_call 50; refine hpl.mono ?_; rintro e w2 ⟨rfl, e2⟩; subst e2)
      go_ret
      exact ⟨rfl, _, r, hR, hS, But.refl _ _, Newer.refl _ _⟩
    · have q0 : (((y.toNat : Nat) : Int) == 0) = false := beq_eq_false_iff_ne.2 fun e => hy0 (UInt8.toNat_inj.1 (by simpa using e))
      have hy0k := Lib.hid hy0
      clear hy0
      by_cases hx0 : x < 0
      · rw [if_pos (.inr (.inl hx0))] at hrs
        subst hrs
        go_enter Try.func39, Try.ntmps39
        go_wp2_with (go_at_call 50; refine hpl.mono ?_; rintro e w2 ⟨rfl, e2⟩; subst e2)
        go_ret
        exact ⟨rfl, _, r, hR, hS, But.refl _ _, Newer.refl _ _⟩
      · obtain ⟨j, rfl⟩ := Int.eq_ofNat_of_zero_le (Int.not_lt.1 hx0)
        clear hx0
        by_cases hj : f.l.length ≤ j
        · rw [if_pos (.inr (.inr (by omega)))] at hrs
          subst hrs
          go_enter Try.func39, Try.ntmps39
          go_wp2_with (go_at_call 50; refine hpl.mono ?_; rintro e w2 ⟨rfl, e2⟩; subst e2)
          go_ret
          exact ⟨rfl, _, r, hR, hS, But.refl _ _, Newer.refl _ _⟩
        · rw [if_neg (by rintro (h | h | h); exact hy0k.out h; omega; omega)] at hrs
          subst hrs
          have hj : j < f.l.length := by omega
          go_enter Try.func39, Try.ntmps39
          go_upto_region 4 with (go_at_call 50; refine hpl.mono ?_; rintro e w2 ⟨rfl, e2⟩; subst e2)
          refine wp_region_lit ?_
          iterate 18 go_step
          refine wpList_file rfl _ rfl g (k * 3) rfl f hrg ?_
          simp only [Act.put, Act.eval, List.setIfInBounds_toArray, List.set_cons_zero, List.set_cons_succ, Nat.reduceAdd, Array.getD_eq_getD_getElem?, List.getElem?_toArray, List.getElem?_cons_succ, List.getElem?_cons_zero, Option.getD_some]
          iterate 3 go_step
          have hbf := Blk.new w2 59 #[.string ⟨#[]⟩, .string ⟨#[]⟩, .int .i64 0]
          refine wpList_stfile rfl _ _ rfl (w2).heap.size 0 f rfl rfl (hbf.there 3 (Nat.le_refl _)) ?_
          simp only [Act.put, Act.eval, List.setIfInBounds_toArray, List.set_cons_zero, List.set_cons_succ, Nat.reduceAdd, Array.getD_eq_getD_getElem?, List.getElem?_toArray, List.getElem?_cons_succ, List.getElem?_cons_zero, Option.getD_some]
          clear hbf
          obtain ⟨hb8, hx8⟩ := newfile w2 f #[.string ⟨#[]⟩, .string ⟨#[]⟩, .int .i64 0] rfl
          generalize hw8 : ((w2).alloc (Obj.cells #[.string ⟨#[]⟩, .string ⟨#[]⟩, .int .i64 0] 59)).setCells (w2).heap.size 0 (fcs f) = w8 at *
          clear hw8
          have m1 := hb8.cell 1
          have fz1 := hb8.frozen 1
          dsimp only [fcs, List.getElem?_cons_zero, List.getElem?_cons_succ] at m1
          have HB8 := Lib.hid hb8
          have HX8 := Lib.hid hx8
          clear hb8 hx8 k1 c0 hrg
          go_wp2_with fail
          obtain ⟨cb, hcb⟩ : ∃ cb : UInt8, f.l[j] ^^^ y = cb := ⟨_, rfl⟩
          have hX : Go.bits .xor .u8 (((⟨f.l.toArray⟩ : ByteArray)[j]'(by rw [z3]; exact hj)).toNat : Int) ((y.toNat : Nat) : Int) = ((cb.toNat : Nat) : Int) := by
            rw [← hcb, ← xor_u8]
            rfl
          have hcv : (convert 67 9 (.slice (some ⟨w8.heap.size, 0, none⟩) 1 1)).run Try.prog ((w8.alloc (.cells #[.int .u8 ((cb.toNat : Nat) : Int)] 5)).drew) = .ok (.string ⟨#[cb]⟩) ((w8.alloc (.cells #[.int .u8 ((cb.toNat : Nat) : Int)] 5)).drew) := by
            refine conv_bytes _ _ _ 5 Try.underlying67 Try.underlying5 Try.underlying9 w8.heap.size 0 1 1 [cb] rfl ?_
            intro i hi
            have : i = 0 := by simpa using hi
            subst this
            have := (Blk.new w8 5 #[.int .u8 ((cb.toNat : Nat) : Int)]).cell 0
            exact this
          have HCB := Lib.hid hcb
          clear hcb
          have hxa : Reg.Ext w8 ((w8.alloc (.cells #[.int .u8 ((cb.toNat : Nat) : Int)] 5)).drew) := (Reg.Ext.alloc _ _).trans (Reg.Ext.drew _)
          have hba := HB8.out.ext hxa
          have m2 := hba.cell 1
          have fz2 := hba.frozen 1
          dsimp only [fcs, List.getElem?_cons_zero, List.getElem?_cons_succ] at m2
          have HBA := Lib.hid hba
          have HXA := Lib.hid hxa
          clear hba hxa
          go_region
          rw [flip_ext f.l j cb hj]
          have hb9 : Blk (((w8.alloc (.cells #[.int .u8 ((cb.toNat : Nat) : Int)] 5)).setCell ⟨w2.heap.size, 1, none⟩ (.string ⟨(f.l.set j cb).toArray⟩)).drew) w2.heap.size 59 (fcs ⟨f.name, f.l.set j cb, f.safe⟩) :=
            (HB8.out.ext (Reg.Ext.alloc w8 (.cells #[.int .u8 ((cb.toNat : Nat) : Int)] 5))).set_ 1 _
          have hx9 : Reg.Ext w2 (((w8.alloc (.cells #[.int .u8 ((cb.toNat : Nat) : Int)] 5)).setCell ⟨w2.heap.size, 1, none⟩ (.string ⟨(f.l.set j cb).toArray⟩)).drew) :=
            ((HX8.out.trans (Reg.Ext.alloc w8 _)).trans_but (But.set_ w2.heap.size _ 1 _) (Nat.le_refl _)).trans (Reg.Ext.drew _)
          have HB9 := Lib.hid hb9
          have HX9 := Lib.hid hx9
          clear hb9 hx9 m1 m2 fz1 fz2
          generalize ((w8.alloc (.cells #[.int .u8 ((cb.toNat : Nat) : Int)] 5)).setCell ⟨w2.heap.size, 1, none⟩ (.string ⟨(f.l.set j cb).toArray⟩)).drew = w9 at *
          go_upto_region 6 with (fail)
          refine wp_region_lit ?_
          iterate 6 go_step
          refine wpList_file rfl _ rfl w2.heap.size 0 rfl ⟨f.name, f.l.set j cb, f.safe⟩ (blk_range HB9.out) ?_
          simp only [Act.put, Act.eval, List.setIfInBounds_toArray, List.set_cons_zero, List.set_cons_succ, Nat.reduceAdd, Array.getD_eq_getD_getElem?, List.getElem?_toArray, List.getElem?_cons_succ, List.getElem?_cons_zero, Option.getD_some]
          go_wp2_with (go_at_call 52; refine (turn_any _ b _ r (hR.ext HX9.out) k ⟨f.name, f.l.set j cb, f.safe⟩ (by rw [HL.out]; exact hk) (by rw [HL.out]; exact hcn)).mono ?_; rintro e w5 ⟨rfl, v5, hR5, hB5, hN5⟩)
          go_ret
          refine ⟨rfl, v5, _, hR5, ?_, (But.of_ext HX9.out).trans hB5, (Newer.refl _ _).trans hN5 HX9.out.size⟩
          rw [HL.out, HXX.out ⟨f.name, f.l.set j cb, f.safe⟩ rfl]
          have e1 : f.l[(j : Int).toNat]! ^^^ y = cb := by
            rw [Int.toNat_natCast, getElem!_pos f.l j hj]
            exact HCB.out
          rw [e1, Int.toNat_natCast]
          exact hS.with_ _ _
end Rk
end Go.Proofs.Ytbiikihapfpkfaa

/- Lay. -/
import Derived.Test.YtbiikihapfpkfaaPlkV
import Derived.Test.YtbiikihapfpkfaaReg
set_option linter.unusedSimpArgs false
set_option linter.unusedVariables false
set_option linter.unusedSectionVars false
namespace Go.Proofs.Ytbiikihapfpkfaa
open Go Go.RowKit
namespace Plk
def P.lay (p : P) (n t : List UInt8) : Int × P :=
  if isName n = false then (1, p) else match Nmd.get F.name n p.fs with
  | none => if 200 ≤ p.fs.length ∨ p.h.room - p.h.used < t.length then (6, p) else (0, ⟨Nmd.ins F.name ⟨n, t, t.length⟩ p.fs, { p.h with used := p.h.used + t.length }⟩)
  | some f => if p.h.room - p.h.used + f.l.length < t.length then (6, p) else (0, ⟨Nmd.ins F.name ⟨n, t, t.length⟩ (Nmd.del F.name n p.fs), { p.h with used := p.h.used - f.l.length + t.length }⟩)
theorem lay_pl (es : List E) (s : H) (n t : List UInt8) : (pl es s).lay n t =
  if isName n = false then ((1 : Int), pl es s) else match Nmd.get E.nm n es with
  | none => if 200 ≤ es.length ∨ s.room - s.used < t.length then ((6 : Int), pl es s) else ((0 : Int), (⟨Nmd.ins F.name ⟨n, t, t.length⟩ (es.map E.f), { s with used := s.used + t.length }⟩ : P))
  | some e => if s.room - s.used + e.f.l.length < t.length then ((6 : Int), pl es s) else ((0 : Int), (⟨Nmd.ins F.name ⟨n, t, t.length⟩ ((Nmd.del E.nm n es).map E.f), { s with used := s.used - e.f.l.length + t.length }⟩ : P)) := by
  unfold P.lay pl
  dsimp only
  rw [get_pl, List.length_map]
  cases Nmd.get E.nm n es with
  | none => rfl
  | some e =>
    dsimp only [Option.map_some]
    rw [Nmd.del_map F.name E.f]
theorem isName_len {n : List UInt8} (h : isName n = true) : n.length ≤ 80 := by
  unfold isName at h
  simp at h
  exact h.2
/-- a new file's block and row -/
theorem Dk.laid {w wb w4 : World} {d mp : Nat} {es : List E} {s : H} {D : DataW Unit} (h : Dk w d mp es s) (n t : List UInt8) (hg : Nmd.get E.nm n es = none) (cap : Nat) (hx : Reg.Ext w wb)
    (hr : PRow wb (.slice (some ⟨w.heap.size, 0, none⟩) t.length cap) t) (hD : MapD D es) (hm0 : (wb.alloc (.cells #[.slice (some ⟨w.heap.size, 0, none⟩) t.length cap, .int .i64 (t.length : Int)] 69)).ownsMap Try.prog 9 ptrR mp es.length D)
    (hm : w4.ownsMap Try.prog 9 ptrR mp (es.length + 1) (D.put (.string n) (.lit (.int .i64 ((wb.heap.size : Int) + 1)))))
    (ht : (wb.alloc (.cells #[.slice (some ⟨w.heap.size, 0, none⟩) t.length cap, .int .i64 (t.length : Int)] 69)).mapTurned w4 mp) :
    Dk w4 d mp (Nmd.ins E.nm ⟨⟨n, t, t.length⟩, wb.heap.size, .slice (some ⟨w.heap.size, 0, none⟩) t.length cap⟩ es) s ∧ Turn d mp w es w4 (Nmd.ins E.nm ⟨⟨n, t, t.length⟩, wb.heap.size, .slice (some ⟨w.heap.size, 0, none⟩) t.length cap⟩ es) := by
  have hlt : w.heap.size < wb.heap.size := hr.lt rfl
  have hal := Reg.Ext.alloc wb (.cells #[.slice (some ⟨w.heap.size, 0, none⟩) t.length cap, .int .i64 (t.length : Int)] 69)
  obtain ⟨h1, h2⟩ := (h.ext (hx.trans hal)).added n hg hD wb.heap.size (.slice (some ⟨w.heap.size, 0, none⟩) t.length cap) t t.length (Blk.new wb _ _) (hr.ext hal)
    (fun e => by have e : some w.heap.size = some wb.heap.size := e; injection e; omega)
    ⟨fun o => by have := h.own_lt o; omega, fun x hx o => by have hx : some w.heap.size = some x := hx; injection hx with hx; have := h.own_lt o; omega⟩ hm0 hm ht
  refine ⟨h1, (Turn.ext (hx.trans hal)).add h2 _ fun x hx => .inr ?_⟩
  rcases mem_blocks.1 hx with rfl | hx
  · exact Nat.le_of_lt hlt
  · have hx : some w.heap.size = some x := hx
    injection hx with hx
    omega
theorem ba_size (t : List UInt8) : (⟨t.toArray⟩ : ByteArray).size = t.length := by simp [ByteArray.size]
theorem PRow.of_list (t : List UInt8) (W : World) (ht : t.length ≤ 274877906944) : ∃ cap w1, (convert 9 67 (.string ⟨t.toArray⟩)).run Try.prog W = .ok (.slice (some ⟨W.heap.size, 0, none⟩) t.length cap) w1 ∧
    PRow w1 (.slice (some ⟨W.heap.size, 0, none⟩) t.length cap) t ∧ Reg.Ext W w1 := by
  have h := PRow.of ⟨t.toArray⟩ W (by rw [ba_size]; exact ht)
  rw [ba_size] at h
  exact h
theorem map_ext {w w' : World} {mp n : Nat} {D : DataW Unit} (h : w.ownsMap Try.prog 9 ptrR mp n D) (hx : Reg.Ext w w') : w'.ownsMap Try.prog 9 ptrR mp n D := map_same h (hx.block mp h.lt)
set_option maxHeartbeats 1000000 in
set_option maxRecDepth 100000 in
theorem lay_any (W : World) (d mp : Nat) (es : List E) (s : H) (hD : Dk W d mp es s) (n t : List UInt8) (hc : es.length ≤ 200) (hu : 0 ≤ s.used ∧ s.used ≤ s.room ∧ s.room ≤ 4194304) (hle : ∀ e ∈ es, e.f.l.length ≤ 4194304) (hsu : ∀ e ∈ es, (e.f.l.length : Int) ≤ s.used) (ht : t.length ≤ 4294967296) (hnl : n.length ≤ maxLen) :
    Calls Try.prog 25 #[.pointer (some ⟨d, 0, none⟩), str n, str t] W (Res d mp W es ((pl es s).lay n t)) := by
  have hN := isName_any n
  have hS := fun w1 h => size_any w1 d mp es s h n hnl
  have hZ := ba_size t
  rw [lay_pl]
  have kun := Maps.string_keyed Try.underlying9
  obtain ⟨c0, c1, c2, c3, c4, c5, c6, c7⟩ := hD.c
  clear c3 c4 c5 c6 c7
  obtain ⟨u1, u2, u3⟩ := hu
  cases hnm : isName n with
  | false =>
    rw [if_pos rfl]
    rw [hnm] at hN
    unfold str at hN ⊢
    go_enter Try.func25, Try.ntmps25
    go_wp2_with (go_at_call 47; refine (hN _).mono ?_; rintro e _ ⟨rfl, rfl⟩)
    go_ret
    exact ⟨es, s, rfl, hD, Turn.refl _ _ _ _, rfl⟩
  | true =>
    rw [if_neg (by decide)]
    rw [hnm] at hN
    have hn80 := Lib.hid (isName_len hnm)
    have hl := hD.look n hnl
    have hcm := Lib.hid (show es.length < maxLen by unfold maxLen; omega)
    obtain ⟨D, hm0, hMD0⟩ := hD.map
    have hlen := hm0.len Try.underlying60 3
    rw [hMD0.1] at hlen
    have hmk := Lib.hid hm0
    have hMD := Lib.hid hMD0
    clear hm0 hMD0
    cases hg : Nmd.get E.nm n es with
    | none =>
      rw [hg] at hl hS
      obtain ⟨kk, hkk0⟩ : ∃ kk, kk = es.length := ⟨_, rfl⟩
      have hkk := Lib.hid hkk0
      dsimp only
      rw [← hkk0]
      rw [← hkk0] at hc hlen
      clear hkk0
      by_cases h2 : 200 ≤ kk
      · rw [if_pos (.inl h2)]
        unfold str at hl hN ⊢
        unfold ptrV at hl
        go_enter Try.func25, Try.ntmps25
        go_wp2_with (first
          | (go_at_call 47; refine (hN _).mono ?_; rintro e _ ⟨rfl, rfl⟩)
          | fail)
        go_ret
        exact ⟨es, s, rfl, hD, Turn.refl _ _ _ _, rfl⟩
      · have h2 : kk < 200 := by omega
        unfold str at hl hN hS ⊢
        unfold ptrV at hl
        dsimp only [szO] at hS
        have hDk := Lib.hid hD
        have hSk := Lib.hid hS
        clear hD hS hle hsu hnm
        by_cases hf : s.room - s.used < t.length
        · rw [if_pos (.inr hf)]
          have hq : decide (s.room - s.used + max (-1) 0 < (t.length : Int)) = true := decide_eq_true (by omega)
          clear hf
          go_enter Try.func25, Try.ntmps25
          go_wp2_with (go_at_call 47; refine (hN _).mono ?_; rintro e _ ⟨rfl, rfl⟩)
          apply Reg.wp_tab Reg.Ext (by kernel_rfl) (by kernel_rfl) Reg.Ext.refl (fun _ _ _ => Reg.Ext.trans) (Reg.Ext.drew _)
          case' h =>
            intro O
            repeat (first
              | (apply Reg.TW.move_ Reg.Ext.refl _ rfl rfl
                 · simp only [Act.put, Act.eval, List.setIfInBounds_toArray, List.set_cons_zero, List.set_cons_succ, Nat.reduceAdd, Array.getD_eq_getD_getElem?, List.getElem?_toArray, List.getElem?_cons_succ, List.getElem?_cons_zero, Option.getD_some]
                   rfl)
              | (apply Reg.TW.assign_ Reg.Ext.refl _ rfl rfl
                 · simp only [Act.put, Act.eval, List.setIfInBounds_toArray, List.set_cons_zero, List.set_cons_succ, Nat.reduceAdd, Array.getD_eq_getD_getElem?, List.getElem?_toArray, List.getElem?_cons_succ, List.getElem?_cons_zero, Option.getD_some]
                   rfl)
              | (apply Reg.TW.skip_ rfl
                 · simp only [Act.put, Act.eval, List.setIfInBounds_toArray, List.set_cons_zero, List.set_cons_succ, Nat.reduceAdd, Array.getD_eq_getD_getElem?, List.getElem?_toArray, List.getElem?_cons_succ, List.getElem?_cons_zero, Option.getD_some]
                   rfl)
              | (apply Reg.TW.pure_ rfl
                 · intro w1 hw1 hf K hK
                   simp only [Act.put, List.setIfInBounds_toArray, List.set_cons_zero, List.set_cons_succ] at hK
                   have HK := Lib.hid hK
                   clear hf hK
                   have c1 := (hDk.out.ext hw1).c.2.1; have c2 := (hDk.out.ext hw1).c.2.2.1
                   unfold Reg.One; dsimp only
                   go_wp2_with fail
                   exact HK.out _ (Reg.Ext.refl _)
                 · simp only [Act.put, Act.eval, List.setIfInBounds_toArray, List.set_cons_zero, List.set_cons_succ, Nat.reduceAdd, Array.getD_eq_getD_getElem?, List.getElem?_toArray, List.getElem?_cons_succ, List.getElem?_cons_zero, Option.getD_some]
                   rfl))
            apply Reg.TW.call_ (c := .int .i64 (-1)) (fun _ => True) rfl (fun _ _ _ h => h)
            · intro w1 hw1 hf K hK
              simp only [Act.put, List.setIfInBounds_toArray, List.set_cons_zero, List.set_cons_succ] at hK
              have HK := Lib.hid hK
              clear hK
              unfold Reg.One; dsimp only
              go_wp2_with fail
              refine (hSk.out _ (hDk.out.ext hw1)).mono ?_
              rintro e w' ⟨rfl, rfl⟩
              go_wp2_with fail
              exact HK.out _ (Reg.Ext.refl _) trivial
            · simp only [Act.put, Act.eval, List.setIfInBounds_toArray, List.set_cons_zero, List.set_cons_succ, Nat.reduceAdd, Array.getD_eq_getD_getElem?, List.getElem?_toArray, List.getElem?_cons_succ, List.getElem?_cons_zero, Option.getD_some]
              rfl
            repeat (first
              | (apply Reg.TW.move_ Reg.Ext.refl _ rfl rfl
                 · simp only [Act.put, Act.eval, List.setIfInBounds_toArray, List.set_cons_zero, List.set_cons_succ, Nat.reduceAdd, Array.getD_eq_getD_getElem?, List.getElem?_toArray, List.getElem?_cons_succ, List.getElem?_cons_zero, Option.getD_some]
                   rfl)
              | (apply Reg.TW.assign_ Reg.Ext.refl _ rfl rfl
                 · simp only [Act.put, Act.eval, List.setIfInBounds_toArray, List.set_cons_zero, List.set_cons_succ, Nat.reduceAdd, Array.getD_eq_getD_getElem?, List.getElem?_toArray, List.getElem?_cons_succ, List.getElem?_cons_zero, Option.getD_some]
                   rfl)
              | (apply Reg.TW.skip_ rfl
                 · simp only [Act.put, Act.eval, List.setIfInBounds_toArray, List.set_cons_zero, List.set_cons_succ, Nat.reduceAdd, Array.getD_eq_getD_getElem?, List.getElem?_toArray, List.getElem?_cons_succ, List.getElem?_cons_zero, Option.getD_some]
                   rfl)
              | (apply Reg.TW.pure_ rfl
                 · intro w1 hw1 hf K hK
                   simp only [Act.put, List.setIfInBounds_toArray, List.set_cons_zero, List.set_cons_succ] at hK
                   have HK := Lib.hid hK
                   clear hf hK
                   have c1 := (hDk.out.ext hw1).c.2.1; have c2 := (hDk.out.ext hw1).c.2.2.1
                   unfold Reg.One; dsimp only
                   go_wp2_with fail
                   exact HK.out _ (Reg.Ext.refl _)
                 · simp only [Act.put, Act.eval, List.setIfInBounds_toArray, List.set_cons_zero, List.set_cons_succ, Nat.reduceAdd, Array.getD_eq_getD_getElem?, List.getElem?_toArray, List.getElem?_cons_succ, List.getElem?_cons_zero, Option.getD_some]
                   rfl))
            refine Reg.TW.nil_ ?_
            intro wa hwa _
            have hDa := hDk.out.ext hwa
            try rw [hq]
            clear hl c1 c2 c0
            go_wp2_with fail
            go_ret
            exact ⟨es, s, rfl, hDa, Turn.ext hwa, rfl⟩
          all_goals rfl
        · rw [if_neg (by omega)]
          have hq : decide (s.room - s.used + max (-1) 0 < (t.length : Int)) = false := decide_eq_false (by omega)
          clear hf
          go_enter Try.func25, Try.ntmps25
          go_wp2_with (go_at_call 47; refine (hN _).mono ?_; rintro e _ ⟨rfl, rfl⟩)
          apply Reg.wp_tab Reg.Ext (by kernel_rfl) (by kernel_rfl) Reg.Ext.refl (fun _ _ _ => Reg.Ext.trans) (Reg.Ext.drew _)
          case' h =>
            intro O
            repeat (first
              | (apply Reg.TW.move_ Reg.Ext.refl _ rfl rfl
                 · simp only [Act.put, Act.eval, List.setIfInBounds_toArray, List.set_cons_zero, List.set_cons_succ, Nat.reduceAdd, Array.getD_eq_getD_getElem?, List.getElem?_toArray, List.getElem?_cons_succ, List.getElem?_cons_zero, Option.getD_some]
                   rfl)
              | (apply Reg.TW.assign_ Reg.Ext.refl _ rfl rfl
                 · simp only [Act.put, Act.eval, List.setIfInBounds_toArray, List.set_cons_zero, List.set_cons_succ, Nat.reduceAdd, Array.getD_eq_getD_getElem?, List.getElem?_toArray, List.getElem?_cons_succ, List.getElem?_cons_zero, Option.getD_some]
                   rfl)
              | (apply Reg.TW.skip_ rfl
                 · simp only [Act.put, Act.eval, List.setIfInBounds_toArray, List.set_cons_zero, List.set_cons_succ, Nat.reduceAdd, Array.getD_eq_getD_getElem?, List.getElem?_toArray, List.getElem?_cons_succ, List.getElem?_cons_zero, Option.getD_some]
                   rfl)
              | (apply Reg.TW.pure_ rfl
                 · intro w1 hw1 hf K hK
                   simp only [Act.put, List.setIfInBounds_toArray, List.set_cons_zero, List.set_cons_succ] at hK
                   have HK := Lib.hid hK
                   clear hf hK
                   have c1 := (hDk.out.ext hw1).c.2.1; have c2 := (hDk.out.ext hw1).c.2.2.1
                   unfold Reg.One; dsimp only
                   go_wp2_with fail
                   exact HK.out _ (Reg.Ext.refl _)
                 · simp only [Act.put, Act.eval, List.setIfInBounds_toArray, List.set_cons_zero, List.set_cons_succ, Nat.reduceAdd, Array.getD_eq_getD_getElem?, List.getElem?_toArray, List.getElem?_cons_succ, List.getElem?_cons_zero, Option.getD_some]
                   rfl))
            apply Reg.TW.call_ (c := .int .i64 (-1)) (fun _ => True) rfl (fun _ _ _ h => h)
            · intro w1 hw1 hf K hK
              simp only [Act.put, List.setIfInBounds_toArray, List.set_cons_zero, List.set_cons_succ] at hK
              have HK := Lib.hid hK
              clear hK
              unfold Reg.One; dsimp only
              go_wp2_with fail
              refine (hSk.out _ (hDk.out.ext hw1)).mono ?_
              rintro e w' ⟨rfl, rfl⟩
              go_wp2_with fail
              exact HK.out _ (Reg.Ext.refl _) trivial
            · simp only [Act.put, Act.eval, List.setIfInBounds_toArray, List.set_cons_zero, List.set_cons_succ, Nat.reduceAdd, Array.getD_eq_getD_getElem?, List.getElem?_toArray, List.getElem?_cons_succ, List.getElem?_cons_zero, Option.getD_some]
              rfl
            repeat (first
              | (apply Reg.TW.move_ Reg.Ext.refl _ rfl rfl
                 · simp only [Act.put, Act.eval, List.setIfInBounds_toArray, List.set_cons_zero, List.set_cons_succ, Nat.reduceAdd, Array.getD_eq_getD_getElem?, List.getElem?_toArray, List.getElem?_cons_succ, List.getElem?_cons_zero, Option.getD_some]
                   rfl)
              | (apply Reg.TW.assign_ Reg.Ext.refl _ rfl rfl
                 · simp only [Act.put, Act.eval, List.setIfInBounds_toArray, List.set_cons_zero, List.set_cons_succ, Nat.reduceAdd, Array.getD_eq_getD_getElem?, List.getElem?_toArray, List.getElem?_cons_succ, List.getElem?_cons_zero, Option.getD_some]
                   rfl)
              | (apply Reg.TW.skip_ rfl
                 · simp only [Act.put, Act.eval, List.setIfInBounds_toArray, List.set_cons_zero, List.set_cons_succ, Nat.reduceAdd, Array.getD_eq_getD_getElem?, List.getElem?_toArray, List.getElem?_cons_succ, List.getElem?_cons_zero, Option.getD_some]
                   rfl)
              | (apply Reg.TW.pure_ rfl
                 · intro w1 hw1 hf K hK
                   simp only [Act.put, List.setIfInBounds_toArray, List.set_cons_zero, List.set_cons_succ] at hK
                   have HK := Lib.hid hK
                   clear hf hK
                   have c1 := (hDk.out.ext hw1).c.2.1; have c2 := (hDk.out.ext hw1).c.2.2.1
                   unfold Reg.One; dsimp only
                   go_wp2_with fail
                   exact HK.out _ (Reg.Ext.refl _)
                 · simp only [Act.put, Act.eval, List.setIfInBounds_toArray, List.set_cons_zero, List.set_cons_succ, Nat.reduceAdd, Array.getD_eq_getD_getElem?, List.getElem?_toArray, List.getElem?_cons_succ, List.getElem?_cons_zero, Option.getD_some]
                   rfl))
            refine Reg.TW.nil_ ?_
            intro wa hwa _
            have hDa := hDk.out.ext hwa
            try rw [hq]
            clear hl c1 c2 c0
            have c0 := hDa.c.1
            have hl := hDa.look n hnl
            rw [hg] at hl
            unfold str ptrV at hl
            obtain ⟨D2, hm2, hMD2⟩ := hDa.map
            have hm2k := Lib.hid hm2
            have hMD2k := Lib.hid hMD2
            obtain ⟨cap, wb, hcv, hrow, hxb⟩ := PRow.of_list t wa (by omega)
            clear hm2 hMD2
            go_wp2_with (at_mapUpdate; refine wpList_mapUpdate_in _ rfl _ _ _ _ rfl _ _ kun Try.underlying60 ptrR mp _ _ rfl (map_ext hm2k.out (hxb.trans (Reg.Ext.alloc _ _))) hcm.out _ _ _ rfl rfl (str_key n hnl) _ [] (ptrR_some _) ?_; intro w4 hm4 ht4; obtain ⟨hD4, hT4⟩ := hDa.laid n t hg cap hxb hrow hMD2k.out (map_ext hm2k.out (hxb.trans (Reg.Ext.alloc _ _))) hm4 ht4; have c2 := hD4.c.2.2.1; have f2 := hD4.blk.frozen 2)
            go_ret
            refine ⟨_, _, rfl, hD4.setH (s' := { s with used := s.used + t.length }) 2 _ rfl, ((Turn.ext hwa).trans hT4).trans (Turn.of_but (But.set_ d _ 2 _)), ?_⟩
            unfold pl
            rw [← Nmd.ins_map F.name E.f]
          all_goals rfl
    | some e0 =>
      obtain ⟨hm, hnn⟩ := Nmd.get_mem hg
      rw [hg] at hl hS
      have hl0 := hle e0 hm
      have hu0 := hsu e0 hm
      subst hnn
      dsimp only
      have hDk := Lib.hid hD
      have hrm := fun w1 h => remove_any w1 d mp es s h e0 hm (by have := hn80.out; unfold maxLen; omega) ⟨u1, by omega⟩ hl0
      clear hD hle hsu hnm hmk hMD hlen
      unfold str at hl hN hS hrm ⊢
      unfold ptrV at hl
      dsimp only [szO] at hS
      have hSk := Lib.hid hS
      clear hS
      by_cases hf : s.room - s.used + e0.f.l.length < t.length
      · rw [if_pos hf]
        have hq : decide (s.room - s.used + (e0.f.l.length : Int) < (t.length : Int)) = true := decide_eq_true (by omega)
        clear hf
        go_enter Try.func25, Try.ntmps25
        go_wp2_with (go_at_call 47; refine (hN _).mono ?_; rintro e _ ⟨rfl, rfl⟩)
        apply Reg.wp_tab Reg.Ext (by kernel_rfl) (by kernel_rfl) Reg.Ext.refl (fun _ _ _ => Reg.Ext.trans) (Reg.Ext.drew _)
        case' h =>
          intro O
          repeat (first
            | (apply Reg.TW.move_ Reg.Ext.refl _ rfl rfl
               · simp only [Act.put, Act.eval, List.setIfInBounds_toArray, List.set_cons_zero, List.set_cons_succ, Nat.reduceAdd, Array.getD_eq_getD_getElem?, List.getElem?_toArray, List.getElem?_cons_succ, List.getElem?_cons_zero, Option.getD_some]
                 rfl)
            | (apply Reg.TW.assign_ Reg.Ext.refl _ rfl rfl
               · simp only [Act.put, Act.eval, List.setIfInBounds_toArray, List.set_cons_zero, List.set_cons_succ, Nat.reduceAdd, Array.getD_eq_getD_getElem?, List.getElem?_toArray, List.getElem?_cons_succ, List.getElem?_cons_zero, Option.getD_some]
                 rfl)
            | (apply Reg.TW.skip_ rfl
               · simp only [Act.put, Act.eval, List.setIfInBounds_toArray, List.set_cons_zero, List.set_cons_succ, Nat.reduceAdd, Array.getD_eq_getD_getElem?, List.getElem?_toArray, List.getElem?_cons_succ, List.getElem?_cons_zero, Option.getD_some]
                 rfl)
            | (apply Reg.TW.pure_ rfl
               · intro w1 hw1 hf K hK
                 simp only [Act.put, List.setIfInBounds_toArray, List.set_cons_zero, List.set_cons_succ] at hK
                 have HK := Lib.hid hK
                 clear hf hK
                 have c1 := (hDk.out.ext hw1).c.2.1; have c2 := (hDk.out.ext hw1).c.2.2.1
                 unfold Reg.One; dsimp only
                 go_wp2_with fail
                 exact HK.out _ (Reg.Ext.refl _)
               · simp only [Act.put, Act.eval, List.setIfInBounds_toArray, List.set_cons_zero, List.set_cons_succ, Nat.reduceAdd, Array.getD_eq_getD_getElem?, List.getElem?_toArray, List.getElem?_cons_succ, List.getElem?_cons_zero, Option.getD_some]
                 rfl))
          apply Reg.TW.call_ (c := .int .i64 ((e0.f.l.length : Int))) (fun _ => True) rfl (fun _ _ _ h => h)
          · intro w1 hw1 hf K hK
            simp only [Act.put, List.setIfInBounds_toArray, List.set_cons_zero, List.set_cons_succ] at hK
            have HK := Lib.hid hK
            clear hK
            unfold Reg.One; dsimp only
            go_wp2_with fail
            refine (hSk.out _ (hDk.out.ext hw1)).mono ?_
            rintro e w' ⟨rfl, rfl⟩
            go_wp2_with fail
            exact HK.out _ (Reg.Ext.refl _) trivial
          · simp only [Act.put, Act.eval, List.setIfInBounds_toArray, List.set_cons_zero, List.set_cons_succ, Nat.reduceAdd, Array.getD_eq_getD_getElem?, List.getElem?_toArray, List.getElem?_cons_succ, List.getElem?_cons_zero, Option.getD_some]
            rfl
          repeat (first
            | (apply Reg.TW.move_ Reg.Ext.refl _ rfl rfl
               · simp only [Act.put, Act.eval, List.setIfInBounds_toArray, List.set_cons_zero, List.set_cons_succ, Nat.reduceAdd, Array.getD_eq_getD_getElem?, List.getElem?_toArray, List.getElem?_cons_succ, List.getElem?_cons_zero, Option.getD_some]
                 rfl)
            | (apply Reg.TW.assign_ Reg.Ext.refl _ rfl rfl
               · simp only [Act.put, Act.eval, List.setIfInBounds_toArray, List.set_cons_zero, List.set_cons_succ, Nat.reduceAdd, Array.getD_eq_getD_getElem?, List.getElem?_toArray, List.getElem?_cons_succ, List.getElem?_cons_zero, Option.getD_some]
                 rfl)
            | (apply Reg.TW.skip_ rfl
               · simp only [Act.put, Act.eval, List.setIfInBounds_toArray, List.set_cons_zero, List.set_cons_succ, Nat.reduceAdd, Array.getD_eq_getD_getElem?, List.getElem?_toArray, List.getElem?_cons_succ, List.getElem?_cons_zero, Option.getD_some]
                 rfl)
            | (apply Reg.TW.pure_ rfl
               · intro w1 hw1 hf K hK
                 simp only [Act.put, List.setIfInBounds_toArray, List.set_cons_zero, List.set_cons_succ] at hK
                 have HK := Lib.hid hK
                 clear hf hK
                 have c1 := (hDk.out.ext hw1).c.2.1; have c2 := (hDk.out.ext hw1).c.2.2.1
                 unfold Reg.One; dsimp only
                 go_wp2_with fail
                 exact HK.out _ (Reg.Ext.refl _)
               · simp only [Act.put, Act.eval, List.setIfInBounds_toArray, List.set_cons_zero, List.set_cons_succ, Nat.reduceAdd, Array.getD_eq_getD_getElem?, List.getElem?_toArray, List.getElem?_cons_succ, List.getElem?_cons_zero, Option.getD_some]
                 rfl))
          refine Reg.TW.nil_ ?_
          intro wa hwa _
          have hDa := hDk.out.ext hwa
          try rw [hq]
          clear hl c1 c2 c0
          go_wp2_with fail
          go_ret
          exact ⟨es, s, rfl, hDa, Turn.ext hwa, rfl⟩
        all_goals rfl
      · rw [if_neg hf]
        have hq : decide (s.room - s.used + (e0.f.l.length : Int) < (t.length : Int)) = false := decide_eq_false (by omega)
        clear hf
        have hgd : Nmd.get E.nm e0.nm (Nmd.del E.nm e0.nm es) = none := by rw [Nmd.get_del, if_pos rfl]
        go_enter Try.func25, Try.ntmps25
        go_wp2_with (go_at_call 47; refine (hN _).mono ?_; rintro e _ ⟨rfl, rfl⟩)
        apply Reg.wp_tab Reg.Ext (by kernel_rfl) (by kernel_rfl) Reg.Ext.refl (fun _ _ _ => Reg.Ext.trans) (Reg.Ext.drew _)
        case' h =>
          intro O
          repeat (first
            | (apply Reg.TW.move_ Reg.Ext.refl _ rfl rfl
               · simp only [Act.put, Act.eval, List.setIfInBounds_toArray, List.set_cons_zero, List.set_cons_succ, Nat.reduceAdd, Array.getD_eq_getD_getElem?, List.getElem?_toArray, List.getElem?_cons_succ, List.getElem?_cons_zero, Option.getD_some]
                 rfl)
            | (apply Reg.TW.assign_ Reg.Ext.refl _ rfl rfl
               · simp only [Act.put, Act.eval, List.setIfInBounds_toArray, List.set_cons_zero, List.set_cons_succ, Nat.reduceAdd, Array.getD_eq_getD_getElem?, List.getElem?_toArray, List.getElem?_cons_succ, List.getElem?_cons_zero, Option.getD_some]
                 rfl)
            | (apply Reg.TW.skip_ rfl
               · simp only [Act.put, Act.eval, List.setIfInBounds_toArray, List.set_cons_zero, List.set_cons_succ, Nat.reduceAdd, Array.getD_eq_getD_getElem?, List.getElem?_toArray, List.getElem?_cons_succ, List.getElem?_cons_zero, Option.getD_some]
                 rfl)
            | (apply Reg.TW.pure_ rfl
               · intro w1 hw1 hf K hK
                 simp only [Act.put, List.setIfInBounds_toArray, List.set_cons_zero, List.set_cons_succ] at hK
                 have HK := Lib.hid hK
                 clear hf hK
                 have c1 := (hDk.out.ext hw1).c.2.1; have c2 := (hDk.out.ext hw1).c.2.2.1
                 unfold Reg.One; dsimp only
                 go_wp2_with fail
                 exact HK.out _ (Reg.Ext.refl _)
               · simp only [Act.put, Act.eval, List.setIfInBounds_toArray, List.set_cons_zero, List.set_cons_succ, Nat.reduceAdd, Array.getD_eq_getD_getElem?, List.getElem?_toArray, List.getElem?_cons_succ, List.getElem?_cons_zero, Option.getD_some]
                 rfl))
          apply Reg.TW.call_ (c := .int .i64 ((e0.f.l.length : Int))) (fun _ => True) rfl (fun _ _ _ h => h)
          · intro w1 hw1 hf K hK
            simp only [Act.put, List.setIfInBounds_toArray, List.set_cons_zero, List.set_cons_succ] at hK
            have HK := Lib.hid hK
            clear hK
            unfold Reg.One; dsimp only
            go_wp2_with fail
            refine (hSk.out _ (hDk.out.ext hw1)).mono ?_
            rintro e w' ⟨rfl, rfl⟩
            go_wp2_with fail
            exact HK.out _ (Reg.Ext.refl _) trivial
          · simp only [Act.put, Act.eval, List.setIfInBounds_toArray, List.set_cons_zero, List.set_cons_succ, Nat.reduceAdd, Array.getD_eq_getD_getElem?, List.getElem?_toArray, List.getElem?_cons_succ, List.getElem?_cons_zero, Option.getD_some]
            rfl
          repeat (first
            | (apply Reg.TW.move_ Reg.Ext.refl _ rfl rfl
               · simp only [Act.put, Act.eval, List.setIfInBounds_toArray, List.set_cons_zero, List.set_cons_succ, Nat.reduceAdd, Array.getD_eq_getD_getElem?, List.getElem?_toArray, List.getElem?_cons_succ, List.getElem?_cons_zero, Option.getD_some]
                 rfl)
            | (apply Reg.TW.assign_ Reg.Ext.refl _ rfl rfl
               · simp only [Act.put, Act.eval, List.setIfInBounds_toArray, List.set_cons_zero, List.set_cons_succ, Nat.reduceAdd, Array.getD_eq_getD_getElem?, List.getElem?_toArray, List.getElem?_cons_succ, List.getElem?_cons_zero, Option.getD_some]
                 rfl)
            | (apply Reg.TW.skip_ rfl
               · simp only [Act.put, Act.eval, List.setIfInBounds_toArray, List.set_cons_zero, List.set_cons_succ, Nat.reduceAdd, Array.getD_eq_getD_getElem?, List.getElem?_toArray, List.getElem?_cons_succ, List.getElem?_cons_zero, Option.getD_some]
                 rfl)
            | (apply Reg.TW.pure_ rfl
               · intro w1 hw1 hf K hK
                 simp only [Act.put, List.setIfInBounds_toArray, List.set_cons_zero, List.set_cons_succ] at hK
                 have HK := Lib.hid hK
                 clear hf hK
                 have c1 := (hDk.out.ext hw1).c.2.1; have c2 := (hDk.out.ext hw1).c.2.2.1
                 unfold Reg.One; dsimp only
                 go_wp2_with fail
                 exact HK.out _ (Reg.Ext.refl _)
               · simp only [Act.put, Act.eval, List.setIfInBounds_toArray, List.set_cons_zero, List.set_cons_succ, Nat.reduceAdd, Array.getD_eq_getD_getElem?, List.getElem?_toArray, List.getElem?_cons_succ, List.getElem?_cons_zero, Option.getD_some]
                 rfl))
          refine Reg.TW.nil_ ?_
          intro wa hwa _
          have hDa := hDk.out.ext hwa
          try rw [hq]
          clear hl c1 c2 c0
          have c0 := hDa.c.1
          have hl := hDa.look e0.nm hnl
          rw [hg] at hl
          unfold str ptrV at hl
          go_wp2_with (first
            | (go_at_call 48; refine (hrm _ hDa).mono ?_; rintro e w2 ⟨rfl, hD2, hT2⟩; have c02 := hD2.c.1; obtain ⟨D2, hm2, hMD2⟩ := hD2.map; have hm2k := Lib.hid hm2; have hMD2k := Lib.hid hMD2; obtain ⟨cap, wb, hcv, hrow, hxb⟩ := PRow.of_list t w2 (by omega); clear hm2 hMD2 c0 hl)
            | (at_mapUpdate; refine wpList_mapUpdate_in _ rfl _ _ _ _ rfl _ _ kun Try.underlying60 ptrR mp _ _ rfl (map_ext hm2k.out (hxb.trans (Reg.Ext.alloc _ _))) (Nat.lt_of_le_of_lt (List.length_filter_le _ _) hcm.out) _ _ _ rfl rfl (str_key e0.nm hnl) _ [] (ptrR_some _) ?_; intro w4 hm4 ht4; obtain ⟨hD4, hT4⟩ := hD2.laid e0.nm t hgd cap hxb hrow hMD2k.out (map_ext hm2k.out (hxb.trans (Reg.Ext.alloc _ _))) hm4 ht4; have c2 := hD4.c.2.2.1; have f2 := hD4.blk.frozen 2))
          go_ret
          refine ⟨_, _, rfl, hD4.setH (s' := { s with used := s.used - e0.f.l.length + t.length }) 2 _ rfl, (((Turn.ext hwa).trans hT2).trans hT4).trans (Turn.of_but (But.set_ d _ 2 _)), ?_⟩
          unfold pl
          rw [← Nmd.ins_map F.name E.f]
        all_goals rfl
end Plk
end Go.Proofs.Ytbiikihapfpkfaa

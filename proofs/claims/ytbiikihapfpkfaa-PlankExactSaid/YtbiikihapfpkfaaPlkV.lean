/- Rename. -/
import Derived.Test.YtbiikihapfpkfaaPlkS
set_option linter.unusedSimpArgs false
set_option linter.unusedVariables false
set_option linter.unusedSectionVars false
namespace Go.Proofs.Ytbiikihapfpkfaa
open Go Go.RowKit
namespace Plk
def P.rename (p : P) (n t : List UInt8) : Int × P :=
  if (p.h.begin [n, t]).1 ≠ 0 then ((p.h.begin [n, t]).1, ⟨p.fs, (p.h.begin [n, t]).2⟩) else match Nmd.get F.name n p.fs with
  | none => (7, ⟨p.fs, (p.h.begin [n, t]).2⟩)
  | some f => if n = t then (0, ⟨p.fs, (p.h.begin [n, t]).2⟩) else match Nmd.get F.name t p.fs with
    | none => (0, ⟨Nmd.ins F.name ⟨t, f.l, f.safe⟩ (Nmd.del F.name n p.fs), (p.h.begin [n, t]).2⟩)
    | some g => (0, ⟨Nmd.ins F.name ⟨t, f.l, f.safe⟩ (Nmd.del F.name n (Nmd.del F.name t p.fs)), { (p.h.begin [n, t]).2 with used := (p.h.begin [n, t]).2.used - g.l.length }⟩)
theorem two_cells (W : World) (n t : List UInt8) : ∀ j, j < [n, t].length → (W.alloc (.cells #[str n, str t] 9)).cell? ⟨W.heap.size, 0 + j, none⟩ = some (str [n, t][j]!) := by
  intro j hj
  have : j = 0 ∨ j = 1 := by simp at hj; omega
  rcases this with rfl | rfl
  · simp
  · simp
theorem own_not {w : World} {d mp : Nat} {es : List E} {s : H} (h : Dk w d mp es s) {e : E} (he : e ∈ es) {x : Nat} (hx : x ∈ e.blocks) : ¬ Own d mp (Nmd.del E.nm e.nm es) x := by
  rintro (rfl | rfl | ⟨y, hy, hyx⟩)
  · exact (h.out e he _ hx).1 rfl
  · exact (h.out e he _ hx).2 rfl
  · obtain ⟨hy, hyn⟩ := Nmd.mem_del.1 hy
    exact h.apart e he y hy (fun e1 => hyn e1.symm) x hx hyx
/-- out of the map: what its step leaves -/
theorem Dk.gone {w w1 : World} {d mp : Nat} {es : List E} {s : H} {e : E} {D : DataW Unit} (h : Dk w d mp es s) (he : e ∈ es) (hD : MapD D es) (hm0 : w.ownsMap Try.prog 9 ptrR mp es.length D)
    (hm : w1.ownsMap Try.prog 9 ptrR mp es.length (D.del (.string e.nm))) (ht : w.mapTurned w1 mp) :
    Dk w1 d mp (Nmd.del E.nm e.nm es) s ∧ Turn d mp w es w1 (Nmd.del E.nm e.nm es) ∧ Blk w1 e.g 69 [e.v, .int .i64 (e.f.safe : Int)] ∧ PRow w1 e.v e.f.l := by
  have hgr := ht.grown
  have hk : ∀ i, i < w.heap.size → i ≠ mp → w1.heap[i]? = w.heap[i]? := fun i hi hne => hgr.block i hi fun e1 => hne (by injection e1)
  refine ⟨h.drop he hD (hm0.tidy (Maps.string_keyed Try.underlying9)) hm hk, ⟨hgr.os, hgr.tape, hgr.output, hgr.size, fun i hi hno => hk i hi fun e1 => hno (.inr (.inl e1)), fun i hi => .inl (own_drop hi)⟩, ?_, ?_⟩
  · exact (hk e.g (h.file e he).lt (h.out e he e.g (mem_blocks.2 (.inl rfl))).2).trans (h.file e he)
  · exact (h.row e he).same fun x hx => hk x ((h.row e he).lt hx) (h.out e he x (mem_blocks.2 (.inr hx))).2
/-- and back into it by another name -/
theorem Dk.again {w0 w w1 : World} {d mp : Nat} {es : List E} {s : H} {e : E} {D : DataW Unit} (h0 : Dk w0 d mp es s) (he : e ∈ es) (hT : Turn d mp w0 es w (Nmd.del E.nm e.nm es)) (h : Dk w d mp (Nmd.del E.nm e.nm es) s) (t : List UInt8) (hg : Nmd.get E.nm t (Nmd.del E.nm e.nm es) = none) (hD : MapD D (Nmd.del E.nm e.nm es))
    (hf : Blk w e.g 69 [e.v, .int .i64 (e.f.safe : Int)]) (hr : PRow w e.v e.f.l) (hm0 : w.ownsMap Try.prog 9 ptrR mp (Nmd.del E.nm e.nm es).length D)
    (hm : w1.ownsMap Try.prog 9 ptrR mp ((Nmd.del E.nm e.nm es).length + 1) (D.put (.string t) (.lit (.int .i64 ((e.g : Int) + 1))))) (ht : w.mapTurned w1 mp) :
    Dk w1 d mp (Nmd.ins E.nm ⟨⟨t, e.f.l, e.f.safe⟩, e.g, e.v⟩ (Nmd.del E.nm e.nm es)) s ∧ Turn d mp w0 es w1 (Nmd.ins E.nm ⟨⟨t, e.f.l, e.f.safe⟩, e.g, e.v⟩ (Nmd.del E.nm e.nm es)) := by
  obtain ⟨h1, h2⟩ := h.added t hg hD e.g e.v e.f.l e.f.safe hf hr (h0.self e he) ⟨own_not h0 he (mem_blocks.2 (.inl rfl)), fun x hx => own_not h0 he (mem_blocks.2 (.inr hx))⟩ hm0 hm ht
  refine ⟨h1, hT.add h2 _ fun x hx => .inl (.inr (.inr ⟨e, he, ?_⟩))⟩
  exact mem_blocks.2 (mem_blocks.1 hx)
theorem get_del_of {es : List E} {n t : List UInt8} (h : Nmd.get E.nm t es = none) : Nmd.get E.nm t (Nmd.del E.nm n es) = none := by
  rw [Nmd.get_del]
  split
  · rfl
  · exact h
theorem rename_pl (es : List E) (s : H) (n t : List UInt8) : (pl es s).rename n t =
  if (s.begin [n, t]).1 ≠ 0 then ((s.begin [n, t]).1, pl es (s.begin [n, t]).2) else match Nmd.get E.nm n es with
  | none => (7, pl es (s.begin [n, t]).2)
  | some e => if n = t then (0, pl es (s.begin [n, t]).2) else match Nmd.get E.nm t es with
    | none => (0, pl (Nmd.ins E.nm ⟨⟨t, e.f.l, e.f.safe⟩, e.g, e.v⟩ (Nmd.del E.nm n es)) (s.begin [n, t]).2)
    | some y => (0, pl (Nmd.ins E.nm ⟨⟨t, e.f.l, e.f.safe⟩, e.g, e.v⟩ (Nmd.del E.nm n (Nmd.del E.nm t es))) { (s.begin [n, t]).2 with used := (s.begin [n, t]).2.used - y.f.l.length }) := by
  unfold P.rename pl
  dsimp only
  rw [get_pl, get_pl]
  cases Nmd.get E.nm n es with
  | none => rfl
  | some e =>
    dsimp only [Option.map_some]
    cases Nmd.get E.nm t es with
    | none =>
      dsimp only [Option.map_none]
      rw [Nmd.del_map F.name E.f, ← Nmd.ins_map F.name E.f]
    | some y =>
      dsimp only [Option.map_some]
      rw [Nmd.del_map F.name E.f, Nmd.del_map F.name E.f, ← Nmd.ins_map F.name E.f]
set_option maxHeartbeats 1000000 in
set_option maxRecDepth 100000 in
theorem rename_any (W : World) (d mp : Nat) (es : List E) (s : H) (hD : Dk W d mp es s) (n t : List UInt8) (h0 : 0 ≤ s.ops) (h1 : s.ops < 4611686018427387904) (hc : es.length ≤ 200) (hu : 0 ≤ s.used ∧ s.used ≤ 4194304) (hle : ∀ e ∈ es, e.f.l.length ≤ 4194304) :
    Calls Try.prog 32 #[.pointer (some ⟨d, 0, none⟩), str n, str t] W (Res d mp W es ((pl es s).rename n t)) := by
  have hxa := Reg.Ext.alloc W (.cells #[str n, str t] 9)
  have hb := begin_any _ d mp es s (hD.ext hxa) [n, t] W.heap.size (two_cells W n t) (show 2 ≤ 9 by decide) 2 h0 h1
  have hok := begin_ok (s := s) (ns := [n, t])
  have hkp := begin_keep s [n, t]
  rw [rename_pl]
  generalize s.begin [n, t] = b at hb hok hkp ⊢
  obtain ⟨er, s1⟩ := b
  dsimp only at hb hok hkp ⊢
  have kun := Maps.string_keyed Try.underlying9
  by_cases he : er = 0
  · have hn := hok he n List.mem_cons_self
    have ht := hok he t (List.mem_cons_of_mem _ List.mem_cons_self)
    clear hok
    subst he
    rw [if_neg (fun h => h rfl)]
    cases hg : Nmd.get E.nm n es with
    | none =>
      dsimp only
      unfold str at hb ⊢
      change Calls _ _ #[_, .slice _ 2 2] _ _ at hb
      go_enter Try.func32, Try.ntmps32
      go_wp2_with (go_at_call 42; refine hb.mono ?_; rintro e w1 ⟨rfl, hD1, hb1⟩; have c0 := hD1.c.1; have hl := hD1.look n (by unfold maxLen; omega); rw [hg] at hl; unfold str ptrV at hl)
      go_ret
      exact ⟨es, s1, rfl, hD1, (Turn.ext hxa).trans (Turn.of_but hb1), rfl⟩
    | some e0 =>
      obtain ⟨hm, hnm⟩ := Nmd.get_mem hg
      dsimp only
      by_cases hnt : n = t
      · rw [if_pos hnt]
        subst hnt
        unfold str at hb ⊢
        change Calls _ _ #[_, .slice _ 2 2] _ _ at hb
        go_enter Try.func32, Try.ntmps32
        go_wp2_with (go_at_call 42; refine hb.mono ?_; rintro e w1 ⟨rfl, hD1, hb1⟩; have c0 := hD1.c.1; have hl := hD1.look n (by unfold maxLen; omega); rw [hg] at hl; unfold str ptrV at hl)
        go_ret
        exact ⟨es, s1, rfl, hD1, (Turn.ext hxa).trans (Turn.of_but hb1), rfl⟩
      · rw [if_neg hnt]
        have hne : (n == t) = false := beq_eq_false_iff_ne.2 hnt
        have hnek := Lib.hid hnt
        have hlm := Lib.hid (show es.length < maxLen by unfold maxLen; omega)
        clear hnt hc h0 h1
        subst hnm
        cases hg2 : Nmd.get E.nm t es with
        | none =>
          dsimp only
          clear hle
          unfold str at hb ⊢
          change Calls _ _ #[_, .slice _ 2 2] _ _ at hb
          go_enter Try.func32, Try.ntmps32
          go_wp2_with (first
            | (go_at_call 42; refine hb.mono ?_; rintro e w1 ⟨rfl, hD1, hb1⟩; have c0 := hD1.c.1; have hl := hD1.look e0.nm (by unfold maxLen; omega); rw [hg] at hl; have hl2 := hD1.look t (by unfold maxLen; omega); rw [hg2] at hl2; unfold str ptrV at hl hl2; obtain ⟨D, hm0, hMD0⟩ := hD1.map; have hmk := Lib.hid hm0; have hMD := Lib.hid hMD0; clear hm0 hMD0)
            | (at_delete; refine wpList_delete_own _ rfl _ _ 60 9 rfl _ kun Try.underlying60 _ mp _ D rfl hmk.out _ _ rfl (str_key e0.nm (by unfold maxLen; omega)) ?_; intro w3 hm3 ht3; obtain ⟨hD3, hT3, hf3, hr3⟩ := hD1.gone hm hMD.out hmk.out hm3 ht3; have c3 := hD3.c.1; obtain ⟨D3, hq3, hMD3⟩ := hD3.map; have hq3k := Lib.hid hq3; have hMD3k := Lib.hid hMD3; have hf3k := Lib.hid hf3; have hT3k := Lib.hid hT3; clear hq3 hMD3 hf3 hT3 c0)
            | (at_mapUpdate; refine wpList_mapUpdate_in _ rfl _ _ _ _ rfl _ _ kun Try.underlying60 ptrR mp _ _ rfl hq3k.out (Nat.lt_of_le_of_lt (List.length_filter_le _ _) hlm.out) _ _ _ rfl rfl (str_key t (by unfold maxLen; omega)) _ [] (ptrR_some _) ?_; intro w4 hm4 ht4))
          go_ret
          obtain ⟨hD4, hT4⟩ := hD1.again hm hT3k.out hD3 t (get_del_of hg2) hMD3k.out hf3k.out hr3 hq3k.out hm4 ht4
          exact ⟨_, s1, rfl, hD4, ((Turn.ext hxa).trans (Turn.of_but hb1)).trans hT4, rfl⟩
        | some y =>
          dsimp only
          obtain ⟨hmy, hny⟩ := Nmd.get_mem hg2
          subst hny
          have hly := hle y hmy
          have hrm := fun w1 h => remove_any w1 d mp es s1 h y hmy (by unfold maxLen; omega) (by rw [hkp.2.1]; exact hu) hly
          have hgd : Nmd.get E.nm e0.nm (Nmd.del E.nm y.nm es) = some e0 := by
            rw [Nmd.get_del, if_neg (fun e1 => hnek.out e1.symm)]; exact hg
          have hmd := (Nmd.get_mem hgd).1
          clear hle hly hu hkp
          unfold str at hb hrm ⊢
          change Calls _ _ #[_, .slice _ 2 2] _ _ at hb
          go_enter Try.func32, Try.ntmps32
          go_wp2_with (first
            | (go_at_call 42; refine hb.mono ?_; rintro e w1 ⟨rfl, hD1, hb1⟩; have c0 := hD1.c.1; have hl := hD1.look e0.nm (by unfold maxLen; omega); rw [hg] at hl; have hl2 := hD1.look y.nm (by unfold maxLen; omega); rw [hg2] at hl2; unfold str ptrV at hl hl2)
            | (go_at_call 48; refine (hrm _ hD1).mono ?_; rintro e w2 ⟨rfl, hD2, hT2⟩; have c2 := hD2.c.1; obtain ⟨D, hm0, hMD0⟩ := hD2.map; have hmk := Lib.hid hm0; have hMD := Lib.hid hMD0; clear hm0 hMD0 c0 hl hl2)
            | (at_delete; refine wpList_delete_own _ rfl _ _ 60 9 rfl _ kun Try.underlying60 _ mp _ D rfl hmk.out _ _ rfl (str_key e0.nm (by unfold maxLen; omega)) ?_; intro w3 hm3 ht3; obtain ⟨hD3, hT3, hf3, hr3⟩ := hD2.gone hmd hMD.out hmk.out hm3 ht3; have c3 := hD3.c.1; obtain ⟨D3, hq3, hMD3⟩ := hD3.map; have hq3k := Lib.hid hq3; have hMD3k := Lib.hid hMD3; have hf3k := Lib.hid hf3; have hT3k := Lib.hid hT3; clear hq3 hMD3 hf3 hT3 c2)
            | (at_mapUpdate; refine wpList_mapUpdate_in _ rfl _ _ _ _ rfl _ _ kun Try.underlying60 ptrR mp _ _ rfl hq3k.out (Nat.lt_of_le_of_lt (List.length_filter_le _ _) (Nat.lt_of_le_of_lt (List.length_filter_le _ _) hlm.out)) _ _ _ rfl rfl (str_key y.nm (by unfold maxLen; omega)) _ [] (ptrR_some _) ?_; intro w4 hm4 ht4))
          go_ret
          have hgt : Nmd.get E.nm y.nm (Nmd.del E.nm e0.nm (Nmd.del E.nm y.nm es)) = none := get_del_of (by rw [Nmd.get_del, if_pos rfl])
          obtain ⟨hD4, hT4⟩ := hD2.again hmd hT3k.out hD3 y.nm hgt hMD3k.out hf3k.out hr3 hq3k.out hm4 ht4
          exact ⟨_, _, rfl, hD4, (((Turn.ext hxa).trans (Turn.of_but hb1)).trans hT2).trans hT4, rfl⟩
  · rw [if_pos he]
    have he' : (er == 0) = false := beq_eq_false_iff_ne.2 he
    clear hok
    unfold str at hb ⊢
    change Calls _ _ #[_, .slice _ 2 2] _ _ at hb
    go_enter Try.func32, Try.ntmps32
    go_wp2_with (go_at_call 42; refine hb.mono ?_; rintro e w1 ⟨rfl, hD1, hb1⟩)
    go_ret
    exact ⟨es, s1, rfl, hD1, (Turn.ext hxa).trans (Turn.of_but hb1), rfl⟩
end Plk
end Go.Proofs.Ytbiikihapfpkfaa

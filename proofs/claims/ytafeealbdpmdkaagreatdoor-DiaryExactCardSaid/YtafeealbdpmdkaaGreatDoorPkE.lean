/- Made by merge.py from: PlkV PlkW PlkX PlkZ Dg. -/
import Derived.Test.YtafeealbdpmdkaaGreatDoorPkD
import Derived.Test.YtafeealbdpmdkaaGreatDoorReg
import Derived.Laws.BitsAllLaws
set_option linter.unusedSimpArgs false
set_option linter.unusedVariables false
set_option linter.unusedSectionVars false
set_option maxRecDepth 100000
/- Rename. -/
open Go.Lib renaming hid → y_
-- squeezed
namespace Go.Proofs.YtafeealbdpmdkaaGreatDoor
open Go Go.RowKit
namespace Plk
def P.rename (p : P) (n t : List UInt8) : Int × P :=
 if (p.h.begin [n, t]).1 ≠ 0 then ((p.h.begin [n, t]).1, ⟨p.fs, (p.h.begin [n, t]).2⟩) else match Nmd.get F.name n p.fs with
 | none => (7, ⟨p.fs, (p.h.begin [n, t]).2⟩)
 | some f => if n = t then (0, ⟨p.fs, (p.h.begin [n, t]).2⟩) else match Nmd.get F.name t p.fs with
   | none => (0, ⟨Nmd.ins F.name ⟨t, f.l, f.safe⟩ (Nmd.del F.name n p.fs), (p.h.begin [n, t]).2⟩)
   | some g => (0, ⟨Nmd.ins F.name ⟨t, f.l, f.safe⟩ (Nmd.del F.name n (Nmd.del F.name t p.fs)), { (p.h.begin [n, t]).2 with used := (p.h.begin [n, t]).2.used - g.l.length }⟩)
theorem two_cells (W : World) (n t : List UInt8) : ∀ j, j < [n, t].length → (W.alloc (.cells #[str n, str t] 9)).cell? ⟨W.heap.size, 0 + j, none⟩ = some (str [n, t][j]!) := by
 intro j hj
 have : j = 0 ∨ j = 1 := by simp at hj; omega
 rcases this with rfl | rfl
 ·simp
 ·simp
theorem own_not {w : World} {d mp : Nat} {es : List E} {s : H} (h : Dk w d mp es s) {e : E} (he : e ∈ es) {x : Nat} (hx : x ∈ e.blocks) : ¬ Own d mp (Nmd.del E.nm e.nm es) x := by
 rintro (rfl | rfl | ⟨y, hy, hyx⟩)
 ·exact (h.out e he _ hx).1 rfl
 ·exact (h.out e he _ hx).2 rfl
 ·obtain ⟨hy, hyn⟩ := Nmd.mem_del.1 hy
  exact h.apart e he y hy (fun e1 => hyn e1.symm) x hx hyx
/-- out of the map: what its step leaves -/
theorem Dk.gone {w w1 : World} {d mp : Nat} {es : List E} {s : H} {e : E} {D : DataW Unit} (h : Dk w d mp es s) (he : e ∈ es) (hD : MapD D es) (hm0 : w.ownsMap Tryz.prog 9 ptrR mp es.length D)
  (hm : w1.ownsMap Tryz.prog 9 ptrR mp es.length (D.del (.string e.nm))) (ht : w.mapTurned w1 mp) :
  Dk w1 d mp (Nmd.del E.nm e.nm es) s ∧ Turn d mp w es w1 (Nmd.del E.nm e.nm es) ∧ Blk w1 e.g 86 [e.v, .int .i64 (e.f.safe : Int)] ∧ PRow w1 e.v e.f.l := by
 have hgr := ht.grown
 have hk : ∀ i, i < w.heap.size → i ≠ mp → w1.heap[i]? = w.heap[i]? := fun i hi hne => hgr.block i hi fun e1 => hne (by injection e1)
 refine ⟨h.drop he hD (hm0.tidy (Maps.string_keyed Tryz.underlying9)) hm hk, ⟨hgr.os, hgr.tape, hgr.output, hgr.size, fun i hi hno => hk i hi fun e1 => hno (.inr (.inl e1)), fun i hi => .inl (own_drop hi)⟩, ?_, ?_⟩
 ·exact (hk e.g (h.file e he).lt (h.out e he e.g (mem_blocks.2 (.inl rfl))).2).trans (h.file e he)
 ·exact (h.row e he).same fun x hx => hk x ((h.row e he).lt hx) (h.out e he x (mem_blocks.2 (.inr hx))).2
/-- and back into it by another name -/
theorem Dk.again {w0 w w1 : World} {d mp : Nat} {es : List E} {s : H} {e : E} {D : DataW Unit} (h0 : Dk w0 d mp es s) (he : e ∈ es) (hT : Turn d mp w0 es w (Nmd.del E.nm e.nm es)) (h : Dk w d mp (Nmd.del E.nm e.nm es) s) (t : List UInt8) (hg : Nmd.get E.nm t (Nmd.del E.nm e.nm es) = none) (hD : MapD D (Nmd.del E.nm e.nm es))
  (hf : Blk w e.g 86 [e.v, .int .i64 (e.f.safe : Int)]) (hr : PRow w e.v e.f.l) (hm0 : w.ownsMap Tryz.prog 9 ptrR mp (Nmd.del E.nm e.nm es).length D)
  (hm : w1.ownsMap Tryz.prog 9 ptrR mp ((Nmd.del E.nm e.nm es).length + 1) (D.put (.string t) (.lit (.int .i64 ((e.g : Int) + 1))))) (ht : w.mapTurned w1 mp) :
  Dk w1 d mp (Nmd.ins E.nm ⟨⟨t, e.f.l, e.f.safe⟩, e.g, e.v⟩ (Nmd.del E.nm e.nm es)) s ∧ Turn d mp w0 es w1 (Nmd.ins E.nm ⟨⟨t, e.f.l, e.f.safe⟩, e.g, e.v⟩ (Nmd.del E.nm e.nm es)) := by
 obtain ⟨h1, h2⟩ := h.added t hg hD e.g e.v e.f.l e.f.safe hf hr (h0.self e he) ⟨own_not h0 he (mem_blocks.2 (.inl rfl)), fun x hx => own_not h0 he (mem_blocks.2 (.inr hx))⟩ hm0 hm ht
 refine ⟨h1, hT.add h2 _ fun x hx => .inl (.inr (.inr ⟨e, he, ?_⟩))⟩
 exact mem_blocks.2 (mem_blocks.1 hx)
theorem get_del_of {es : List E} {n t : List UInt8} (h : Nmd.get E.nm t es = none) : Nmd.get E.nm t (Nmd.del E.nm n es) = none := by
 rw [Nmd.get_del]
 split
 ·rfl
 ·exact h
theorem rename_pl (es : List E) (s : H) (n t : List UInt8) : (pl es s).rename n t =
 if (s.begin [n, t]).1 ≠ 0 then ((s.begin [n, t]).1, pl es (s.begin [n, t]).2) else match Nmd.get E.nm n es with
 | none => (7, pl es (s.begin [n, t]).2)
 | some e => if n = t then (0, pl es (s.begin [n, t]).2) else match Nmd.get E.nm t es with
   | none => (0, pl (Nmd.ins E.nm ⟨⟨t, e.f.l, e.f.safe⟩, e.g, e.v⟩ (Nmd.del E.nm n es)) (s.begin [n, t]).2)
   | some y => (0, pl (Nmd.ins E.nm ⟨⟨t, e.f.l, e.f.safe⟩, e.g, e.v⟩ (Nmd.del E.nm n (Nmd.del E.nm t es))) { (s.begin [n, t]).2 with used := (s.begin [n, t]).2.used - y.f.l.length }) := by
 unfold P.rename pl
 dsimp only
 rw [get_pl, get_pl]
 cases Nmd.get E.nm n es with
 | none => rfl
 | some e =>
   dsimp only [Option.map_some]
   cases Nmd.get E.nm t es with
   | none =>
     dsimp only [Option.map_none]
     rw [Nmd.del_map F.name E.f, ← Nmd.ins_map F.name E.f]
   | some y =>
     dsimp only [Option.map_some]
     rw [Nmd.del_map F.name E.f, Nmd.del_map F.name E.f, ← Nmd.ins_map F.name E.f]
set_option maxHeartbeats 1000000 in
set_option maxRecDepth 100000 in
theorem rename_any (W : World) (d mp : Nat) (es : List E) (s : H) (hD : Dk W d mp es s) (n t : List UInt8) (h0 : 0 ≤ s.ops) (h1 : s.ops < 4611686018427387904) (hc : es.length ≤ 200) (hu : 0 ≤ s.used ∧ s.used ≤ 4194304) (hle : ∀ e ∈ es, e.f.l.length ≤ 4194304) :
  Calls Tryz.prog 82 #[.pointer (some ⟨d, 0, none⟩), str n, str t] W (Res d mp W es ((pl es s).rename n t)) := by
 have hxa := Reg.Ext.alloc W (.cells #[str n, str t] 9)
 have hb := begin_any _ d mp es s (hD.ext hxa) [n, t] W.heap.size (two_cells W n t) (show 2 ≤ 9 by decide) 2 h0 h1
 have hok := begin_ok (s := s) (ns := [n, t])
 have hkp := begin_keep s [n, t]
 rw [rename_pl]
 generalize s.begin [n, t] = b at hb hok hkp ⊢
 obtain ⟨er, s1⟩ := b
 dsimp only at hb hok hkp ⊢
 have kun := Maps.string_keyed Tryz.underlying9
 by_cases he : er = 0
 ·have hn := hok he n List.mem_cons_self
  have ht := hok he t (List.mem_cons_of_mem _ List.mem_cons_self)
  clear hok
  subst he
  rw [if_neg (fun h => h rfl)]
  cases hg : Nmd.get E.nm n es with
  | none =>
    dsimp only
    unfold str at hb ⊢
    change Calls _ _ #[_, .slice _ 2 2] _ _ at hb
    go_enter Tryz.func82, Tryz.ntmps82
    go_wp2_with (go_at_call 68; refine hb.mono ?_; rintro e w1 ⟨rfl, hD1, hb1⟩; have c0 := hD1.c.1; have hl := hD1.look n (by unfold maxLen; omega); rw [hg] at hl; unfold str ptrV at hl)
    go_ret
    exact ⟨es, s1, rfl, hD1, (Turn.ext hxa).trans (Turn.of_but hb1), rfl⟩
  | some e0 =>
    obtain ⟨hm, hnm⟩ := Nmd.get_mem hg
    dsimp only
    by_cases hnt : n = t
    ·rw [if_pos hnt]
     subst hnt
     unfold str at hb ⊢
     change Calls _ _ #[_, .slice _ 2 2] _ _ at hb
     go_enter Tryz.func82, Tryz.ntmps82
     go_wp2_with (go_at_call 68; refine hb.mono ?_; rintro e w1 ⟨rfl, hD1, hb1⟩; have c0 := hD1.c.1; have hl := hD1.look n (by unfold maxLen; omega); rw [hg] at hl; unfold str ptrV at hl)
     go_ret
     exact ⟨es, s1, rfl, hD1, (Turn.ext hxa).trans (Turn.of_but hb1), rfl⟩
    ·rw [if_neg hnt]
     have hne : (n == t) = false := beq_eq_false_iff_ne.2 hnt
     have hnek := y_ hnt
     have hlm := y_ (show es.length < maxLen by unfold maxLen; omega)
     clear hnt hc h0 h1
     subst hnm
     cases hg2 : Nmd.get E.nm t es with
     | none =>
       dsimp only
       clear hle
       unfold str at hb ⊢
       change Calls _ _ #[_, .slice _ 2 2] _ _ at hb
       go_enter Tryz.func82, Tryz.ntmps82
       go_wp2_with (first
        | (go_at_call 68; refine hb.mono ?_; rintro e w1 ⟨rfl, hD1, hb1⟩; have c0 := hD1.c.1; have hl := hD1.look e0.nm (by unfold maxLen; omega); rw [hg] at hl; have hl2 := hD1.look t (by unfold maxLen; omega); rw [hg2] at hl2; unfold str ptrV at hl hl2; obtain ⟨D, hm0, hMD0⟩ := hD1.map; have hmk := y_ hm0; have hMD := y_ hMD0; clear hm0 hMD0)
        | (at_delete; refine wpList_delete_own _ rfl _ _ 70 9 rfl _ kun Tryz.underlying70 _ mp _ D rfl hmk.out _ _ rfl (str_key e0.nm (by unfold maxLen; omega)) ?_; intro w3 hm3 ht3; obtain ⟨hD3, hT3, hf3, hr3⟩ := hD1.gone hm hMD.out hmk.out hm3 ht3; have c3 := hD3.c.1; obtain ⟨D3, hq3, hMD3⟩ := hD3.map; have hq3k := y_ hq3; have hMD3k := y_ hMD3; have hf3k := y_ hf3; have hT3k := y_ hT3; clear hq3 hMD3 hf3 hT3 c0)
        | (at_mapUpdate; refine wpList_mapUpdate_in _ rfl _ _ _ _ rfl _ _ kun Tryz.underlying70 ptrR mp _ _ rfl hq3k.out (Nat.lt_of_le_of_lt (List.length_filter_le _ _) hlm.out) _ _ _ rfl rfl (str_key t (by unfold maxLen; omega)) _ [] (ptrR_some _) ?_; intro w4 hm4 ht4))
       go_ret
       obtain ⟨hD4, hT4⟩ := hD1.again hm hT3k.out hD3 t (get_del_of hg2) hMD3k.out hf3k.out hr3 hq3k.out hm4 ht4
       exact ⟨_, s1, rfl, hD4, ((Turn.ext hxa).trans (Turn.of_but hb1)).trans hT4, rfl⟩
     | some y =>
       dsimp only
       obtain ⟨hmy, hny⟩ := Nmd.get_mem hg2
       subst hny
       have hly := hle y hmy
       have hrm := fun w1 h => remove_any w1 d mp es s1 h y hmy (by unfold maxLen; omega) (by rw [hkp.2.1]; exact hu) hly
       have hgd : Nmd.get E.nm e0.nm (Nmd.del E.nm y.nm es) = some e0 := by
        rw [Nmd.get_del, if_neg (fun e1 => hnek.out e1.symm)]; exact hg
       have hmd := (Nmd.get_mem hgd).1
       clear hle hly hu hkp
       unfold str at hb hrm ⊢
       change Calls _ _ #[_, .slice _ 2 2] _ _ at hb
       go_enter Tryz.func82, Tryz.ntmps82
       go_wp2_with (first
        | (go_at_call 68; refine hb.mono ?_; rintro e w1 ⟨rfl, hD1, hb1⟩; have c0 := hD1.c.1; have hl := hD1.look e0.nm (by unfold maxLen; omega); rw [hg] at hl; have hl2 := hD1.look y.nm (by unfold maxLen; omega); rw [hg2] at hl2; unfold str ptrV at hl hl2)
        | (go_at_call 97; refine (hrm _ hD1).mono ?_; rintro e w2 ⟨rfl, hD2, hT2⟩; have c2 := hD2.c.1; obtain ⟨D, hm0, hMD0⟩ := hD2.map; have hmk := y_ hm0; have hMD := y_ hMD0; clear hm0 hMD0 c0 hl hl2)
        | (at_delete; refine wpList_delete_own _ rfl _ _ 70 9 rfl _ kun Tryz.underlying70 _ mp _ D rfl hmk.out _ _ rfl (str_key e0.nm (by unfold maxLen; omega)) ?_; intro w3 hm3 ht3; obtain ⟨hD3, hT3, hf3, hr3⟩ := hD2.gone hmd hMD.out hmk.out hm3 ht3; have c3 := hD3.c.1; obtain ⟨D3, hq3, hMD3⟩ := hD3.map; have hq3k := y_ hq3; have hMD3k := y_ hMD3; have hf3k := y_ hf3; have hT3k := y_ hT3; clear hq3 hMD3 hf3 hT3 c2)
        | (at_mapUpdate; refine wpList_mapUpdate_in _ rfl _ _ _ _ rfl _ _ kun Tryz.underlying70 ptrR mp _ _ rfl hq3k.out (Nat.lt_of_le_of_lt (List.length_filter_le _ _) (Nat.lt_of_le_of_lt (List.length_filter_le _ _) hlm.out)) _ _ _ rfl rfl (str_key y.nm (by unfold maxLen; omega)) _ [] (ptrR_some _) ?_; intro w4 hm4 ht4))
       go_ret
       have hgt : Nmd.get E.nm y.nm (Nmd.del E.nm e0.nm (Nmd.del E.nm y.nm es)) = none := get_del_of (by rw [Nmd.get_del, if_pos rfl])
       obtain ⟨hD4, hT4⟩ := hD2.again hmd hT3k.out hD3 y.nm hgt hMD3k.out hf3k.out hr3 hq3k.out hm4 ht4
       exact ⟨_, _, rfl, hD4, (((Turn.ext hxa).trans (Turn.of_but hb1)).trans hT2).trans hT4, rfl⟩
 ·rw [if_pos he]
  have he' : (er == 0) = false := beq_eq_false_iff_ne.2 he
  clear hok
  unfold str at hb ⊢
  change Calls _ _ #[_, .slice _ 2 2] _ _ at hb
  go_enter Tryz.func82, Tryz.ntmps82
  go_wp2_with (go_at_call 68; refine hb.mono ?_; rintro e w1 ⟨rfl, hD1, hb1⟩)
  go_ret
  exact ⟨es, s1, rfl, hD1, (Turn.ext hxa).trans (Turn.of_but hb1), rfl⟩
end Plk
end Go.Proofs.YtafeealbdpmdkaaGreatDoor
/- Lay. -/
namespace Go.Proofs.YtafeealbdpmdkaaGreatDoor
open Go Go.RowKit
namespace Plk
theorem isName_len {n : List UInt8} (h : isName n = true) : n.length ≤ 80 := by
 unfold isName at h
 simp at h
 exact h.2
/-- a new file's block and row -/
theorem Dk.laid {w wb w4 : World} {d mp : Nat} {es : List E} {s : H} {D : DataW Unit} (h : Dk w d mp es s) (n t : List UInt8) (hg : Nmd.get E.nm n es = none) (cap : Nat) (hx : Reg.Ext w wb)
  (hr : PRow wb (.slice (some ⟨w.heap.size, 0, none⟩) t.length cap) t) (hD : MapD D es) (hm0 : (wb.alloc (.cells #[.slice (some ⟨w.heap.size, 0, none⟩) t.length cap, .int .i64 (t.length : Int)] 86)).ownsMap Tryz.prog 9 ptrR mp es.length D)
  (hm : w4.ownsMap Tryz.prog 9 ptrR mp (es.length + 1) (D.put (.string n) (.lit (.int .i64 ((wb.heap.size : Int) + 1)))))
  (ht : (wb.alloc (.cells #[.slice (some ⟨w.heap.size, 0, none⟩) t.length cap, .int .i64 (t.length : Int)] 86)).mapTurned w4 mp) :
  Dk w4 d mp (Nmd.ins E.nm ⟨⟨n, t, t.length⟩, wb.heap.size, .slice (some ⟨w.heap.size, 0, none⟩) t.length cap⟩ es) s ∧ Turn d mp w es w4 (Nmd.ins E.nm ⟨⟨n, t, t.length⟩, wb.heap.size, .slice (some ⟨w.heap.size, 0, none⟩) t.length cap⟩ es) := by
 have hlt : w.heap.size < wb.heap.size := hr.lt rfl
 have hal := Reg.Ext.alloc wb (.cells #[.slice (some ⟨w.heap.size, 0, none⟩) t.length cap, .int .i64 (t.length : Int)] 86)
 obtain ⟨h1, h2⟩ := (h.ext (hx.trans hal)).added n hg hD wb.heap.size (.slice (some ⟨w.heap.size, 0, none⟩) t.length cap) t t.length (Blk.new wb _ _) (hr.ext hal)
  (fun e => by have e : some w.heap.size = some wb.heap.size := e; injection e; omega)
  ⟨fun o => by have := h.own_lt o; omega, fun x hx o => by have hx : some w.heap.size = some x := hx; injection hx with hx; have := h.own_lt o; omega⟩ hm0 hm ht
 refine ⟨h1, (Turn.ext (hx.trans hal)).add h2 _ fun x hx => .inr ?_⟩
 rcases mem_blocks.1 hx with rfl | hx
 ·exact Nat.le_of_lt hlt
 ·have hx : some w.heap.size = some x := hx
  injection hx with hx
  omega
theorem ba_size (t : List UInt8) : (⟨t.toArray⟩ : ByteArray).size = t.length := by simp [ByteArray.size]
theorem PRow.of_list (t : List UInt8) (W : World) (ht : t.length ≤ 274877906944) : ∃ cap w1, (convert 9 84 (.string ⟨t.toArray⟩)).run Tryz.prog W = .ok (.slice (some ⟨W.heap.size, 0, none⟩) t.length cap) w1 ∧
  PRow w1 (.slice (some ⟨W.heap.size, 0, none⟩) t.length cap) t ∧ Reg.Ext W w1 := by
 have h := PRow.of ⟨t.toArray⟩ W (by rw [ba_size]; exact ht)
 rw [ba_size] at h
 exact h
end Plk
end Go.Proofs.YtafeealbdpmdkaaGreatDoor
/- Flip; Good stays. -/
namespace Go.Proofs.YtafeealbdpmdkaaGreatDoor
section
open Go Go.RowKit
theorem PRow.put {w : World} {g cap : Nat} {l : List UInt8} (h : PRow w (.slice (some ⟨g, 0, none⟩) l.length cap) l) (j : Nat) (hj : j < l.length) (b : UInt8) : PRow (w.setCell ⟨g, j, none⟩ (byteV b)) (.slice (some ⟨g, 0, none⟩) l.length cap) (l.set j b) ∧ w.grownBy (w.setCell ⟨g, j, none⟩ (byteV b)) (some g) ∧ w.cell? ⟨g, j, none⟩ = some (byteV l[j]) ∧ w.frozen? ⟨g, j, none⟩ = false := by
 rcases h with ⟨h1, _⟩ | ⟨g', cap', cur, fz, e, hr, h1, h2, h3, h4, htk⟩
 ·have h2 : some g = none := congrArg Value.ownBlock h1
  cases h2
 ·have e1 : g = g' := Option.some.inj (congrArg Value.ownBlock e)
  subst e1
  injection e with _ _ e3
  subst e3
  refine ⟨.inr ⟨g, cap, cur.setIfInBounds j (byteV b), fz, by rw [List.length_set], ?_, ?_, ?_, h3, ?_, ?_⟩, But.set_ g w j _, row_cell hr htk j hj, ?_⟩
  ·simp [World.setCell, Array.getElem?_modify, hr]
  ·rw [Array.size_setIfInBounds]; exact h1
  ·rw [List.length_set]; exact h2
  ·rw [Array.size_setIfInBounds]; exact h4
  ·rw [List.length_set, Array.toList_setIfInBounds, List.take_set, htk, List.map_set]
  ·obtain ⟨lo, hi'⟩ := fz
   simp only [World.frozen?, hr, Bool.and_eq_false_iff, decide_eq_false_iff_not]
   simp only at h1
   rcases h1 with h1 | h1
   ·right; omega
   ·left; omega
namespace Plk
def P.flip (p : P) (n : List UInt8) (x : Int) (b : UInt8) : Bool × P := match Nmd.get F.name n p.fs with
 | none => (false, p)
 | some f => if b = 0 ∨ x < 0 ∨ (f.l.length : Int) ≤ x then (false, p) else (true, ⟨Nmd.upd F.name ⟨f.name, f.l.set x.toNat (f.l[x.toNat]! ^^^ b), f.safe⟩ p.fs, p.h⟩)
theorem flip_pl (es : List E) (s : H) (n : List UInt8) (x : Int) (b : UInt8) : (pl es s).flip n x b = match Nmd.get E.nm n es with
 | none => (false, pl es s)
 | some e => if b = 0 ∨ x < 0 ∨ (e.f.l.length : Int) ≤ x then (false, pl es s) else (true, ⟨Nmd.upd F.name ⟨e.f.name, e.f.l.set x.toNat (e.f.l[x.toNat]! ^^^ b), e.f.safe⟩ (es.map E.f), s⟩) := by
 unfold P.flip pl
 dsimp only
 rw [get_pl]
 cases Nmd.get E.nm n es <;> rfl
theorem xor_u8 (a b : UInt8) : Go.bits .xor .u8 ((a.toNat : Nat) : Int) ((b.toNat : Nat) : Int) = (((a ^^^ b).toNat : Nat) : Int) := by
 rw [u8_xor_nat _ _ (UInt8.toNat_lt _) (UInt8.toNat_lt _), UInt8.toNat_xor]
def ResB (d mp : Nat) (W : World) (es : List E) (r : Bool × P) (e : Ending) (w' : World) : Prop := ∃ es' s', e = .returned (.bool r.1) ∧ Dk w' d mp es' s' ∧ Turn d mp W es w' es' ∧ pl es' s' = r.2
set_option maxHeartbeats 1000000 in
set_option maxRecDepth 100000 in
theorem flip_any (W : World) (d mp : Nat) (es : List E) (s : H) (hD : Dk W d mp es s) (n : List UInt8) (x : Int) (b : UInt8) (hle : ∀ e ∈ es, e.f.l.length ≤ 4194304) (hnl : n.length ≤ maxLen) :
  Calls Tryz.prog 17 #[.pointer (some ⟨d, 0, none⟩), str n, .int .i64 x, byteV b] W (ResB d mp W es ((pl es s).flip n x b)) := by
 have hS := size_any W d mp es s hD n hnl
 have c0 := hD.c.1
 have hl := hD.look n hnl
 have hb256 : b.toNat < 256 := b.toNat_lt
 unfold byteV
 by_cases hb0 : b = 0
 ·have hr : (pl es s).flip n x b = (false, pl es s) := by
   rw [flip_pl]
   cases Nmd.get E.nm n es with
   | none => rfl
   | some e => exact if_pos (.inl hb0)
  rw [hr]
  subst hb0
  clear hr hS hl
  unfold str
  go_enter Tryz.func17, Tryz.ntmps17
  go_wp2
  go_ret
  exact ⟨es, s, rfl, hD, Turn.refl _ _ _ _, rfl⟩
 ·have q0 : (((b.toNat : Nat) : Int) == 0) = false := beq_eq_false_iff_ne.2 fun e => hb0 (UInt8.toNat_inj.1 (by simpa using e))
  have hb0k := y_ hb0
  clear hb0
  by_cases hx0 : x < 0
  ·have hr : (pl es s).flip n x b = (false, pl es s) := by
    rw [flip_pl]
    cases Nmd.get E.nm n es with
    | none => rfl
    | some e => exact if_pos (.inr (.inl hx0))
   rw [hr]
   clear hr hS hl
   unfold str
   go_enter Tryz.func17, Tryz.ntmps17
   go_wp2
   go_ret
   exact ⟨es, s, rfl, hD, Turn.refl _ _ _ _, rfl⟩
  ·obtain ⟨j, rfl⟩ := Int.eq_ofNat_of_zero_le (Int.not_lt.1 hx0)
   clear hx0
   rw [flip_pl]
   cases hg : Nmd.get E.nm n es with
   | none =>
     rw [hg] at hS
     dsimp only [szO] at hS ⊢
     clear hl
     unfold str at hS ⊢
     go_enter Tryz.func17, Tryz.ntmps17
     go_wp2_with (go_at_call 45; refine hS.mono ?_; rintro e _ ⟨rfl, rfl⟩)
     go_ret
     exact ⟨es, s, rfl, hD, Turn.refl _ _ _ _, rfl⟩
   | some e0 =>
     rw [hg] at hS hl
     have hm := (Nmd.get_mem hg).1
     have hll := hle e0 hm
     dsimp only [szO] at hS ⊢
     by_cases hj : j < e0.f.l.length
     ·rw [if_neg (by rintro (h | h | h); exact hb0k.out h; omega; omega)]
      have hbk := hD.file e0 hm
      have k0 := hbk.cell 0
      dsimp only [List.getElem?_cons_zero] at k0
      have hrow := hD.row e0 hm
      rcases hrow.form2 with ⟨_, h2⟩ | ⟨g, cap, hv, hc1, hc2⟩
      ·rw [h2] at hj; exact absurd hj (Nat.not_lt_zero _)
      ·rw [hv] at hrow k0
       obtain ⟨p1, p2, p3, p4⟩ := hrow.put j hj (e0.f.l[j] ^^^ b)
       have hP := y_ p1
       have hG := y_ p2
       have hV := y_ hv
       clear p1 p2 hv hbk
       have hjb : e0.f.l[j].toNat < 256 := e0.f.l[j].toNat_lt
       have hxo : byteV (e0.f.l[j] ^^^ b) = .int .u8 ((e0.f.l[j].toNat ^^^ b.toNat : Nat) : Int) := rfl
       have hgb : e0.f.l[j]! = e0.f.l[j] := getElem!_pos e0.f.l j hj
       have hgk := y_ hgb
       have hxk := y_ hxo
       clear hgb hxo
       unfold byteV at p3
       unfold str ptrV at hl
       unfold str at hS ⊢
       go_enter Tryz.func17, Tryz.ntmps17
       go_wp2_with (go_at_call 45; refine hS.mono ?_; rintro e W2 ⟨rfl, rfl⟩)
       go_ret
       rw [Int.toNat_natCast, hgk.out]
       have e : Value.int .u8 (Go.bits .xor .u8 ((e0.f.l[j].toNat : Nat) : Int) ((b.toNat : Nat) : Int)) = byteV (e0.f.l[j] ^^^ b) := by
        rw [xor_u8]; rfl
       rw [e]
       have hg2 := hG.out
       have hv2 : e0.v.ownBlock = some g := congrArg Value.ownBlock hV.out
       rw [← hv2] at hg2
       have hne : e0.v.ownBlock ≠ some e0.g := hD.self e0 hm
       have hP2 : PRow (W2.setCell ⟨g, j, none⟩ (byteV (e0.f.l[j] ^^^ b))) e0.v (e0.f.l.set j (e0.f.l[j] ^^^ b)) := by
        have := hP.out
        rw [← hV.out] at this
        exact this
       obtain ⟨h5, h6⟩ := hD.setRow hm e0.v (e0.f.l.set j (e0.f.l[j] ^^^ b)) e0.f.safe hP2 hg2 (.inl rfl) _ (But.refl _ _) ((hD.grown hm hg2).2)
       exact ⟨_, s, rfl, h5, h6, pl_upd _ _ _⟩
     ·rw [if_pos (.inr (.inr (by omega)))]
      clear hl
      unfold str at hS ⊢
      go_enter Tryz.func17, Tryz.ntmps17
      go_wp2_with (go_at_call 45; refine hS.mono ?_; rintro e _ ⟨rfl, rfl⟩)
      go_ret
      exact ⟨es, s, rfl, hD, Turn.refl _ _ _ _, rfl⟩
end Plk
end
section
open Go Go.RowKit
namespace Plk
theorem Good.del {fs : List F} {s : H} (h : Good ⟨fs, s⟩) {n : List UInt8} {f : F} (hg : Nmd.get F.name n fs = some f) : Good ⟨Nmd.del F.name n fs, { s with used := s.used - f.l.length }⟩ := by
 have hsum : sum (Nmd.del F.name n fs) + f.l.length = sum fs := sum_del h.up hg
 have hus := h.used
 have hro := h.room
 dsimp only at hus hro
 refine ⟨h.up.del n, ?_, ⟨?_, hro.2⟩, ?_, ?_, ?_, h.ops⟩
 ·dsimp only; omega
 ·dsimp only; omega
 ·intro y hy; exact h.safe y (Nmd.mem_del.1 hy).1
 ·exact Nat.le_trans (List.length_filter_le _ _) h.cnt
 ·intro y hy; exact h.names y (Nmd.mem_del.1 hy).1
theorem Good.ins_ {fs : List F} {s : H} (h : Good ⟨fs, s⟩) (x : F) (hg : Nmd.get F.name x.name fs = none) (hc : fs.length < 200) (hn : isName x.name = true) (hs : x.safe ≤ x.l.length) (hr : s.used + x.l.length ≤ s.room) : Good ⟨Nmd.ins F.name x fs, { s with used := s.used + x.l.length }⟩ := by
 have hsum := sum_ins x fs
 have hus := h.used
 have hro := h.room
 dsimp only at hus hro
 refine ⟨h.up.ins (Nmd.get_none hg), ?_, ⟨hr, hro.2⟩, ?_, ?_, ?_, h.ops⟩
 ·dsimp only; omega
 ·intro f hf
  rcases Nmd.mem_ins.1 hf with rfl | hf
  ·exact hs
  ·exact h.safe f hf
 ·show (Nmd.ins F.name x fs).length ≤ 200
  rw [Nmd.length_ins]; omega
 ·intro f hf
  rcases Nmd.mem_ins.1 hf with rfl | hf
  ·exact hn
  ·exact h.names f hf
theorem fget_del {fs : List F} {n t : List UInt8} (h : Nmd.get F.name t fs = none) : Nmd.get F.name t (Nmd.del F.name n fs) = none := by
 rw [Nmd.get_del]
 split
 ·rfl
 ·exact h
theorem Good.moved {fs : List F} {s : H} (h : Good ⟨fs, s⟩) {n t : List UInt8} {f : F} (hg : Nmd.get F.name n fs = some f) (ht : Nmd.get F.name t fs = none) (hn : isName t = true) : Good ⟨Nmd.ins F.name ⟨t, f.l, f.safe⟩ (Nmd.del F.name n fs), s⟩ := by
 have h1 := h.del hg
 have hl := Nmd.length_del h.up hg
 have hc := h.cnt
 have hro := h.room
 dsimp only at hl hc hro
 have h2 := h1.ins_ ⟨t, f.l, f.safe⟩ (fget_del ht) (by omega) hn (h.safe f (Nmd.get_mem hg).1) (by dsimp only; omega)
 dsimp only at h2
 rw [show s.used - (f.l.length : Int) + (f.l.length : Int) = s.used by omega] at h2
 exact h2
theorem begin_names2 {s : H} {n t : List UInt8} (h : (s.begin [n, t]).1 = 0) : isName n = true ∧ isName t = true := by
 unfold H.begin at h
 by_cases hb : ([n, t].any fun n => !isName n) = true
 ·rw [if_pos hb] at h; cases h
 ·simpa using hb
theorem Good.rename {p : P} (h : Good p) (n t : List UInt8) : Good (p.rename n t).2 := by
 unfold P.rename
 have hb := h.begin_ [n, t]
 by_cases h1 : (p.h.begin [n, t]).1 ≠ 0
 ·rw [if_pos h1]; exact hb
 ·rw [if_neg h1]
  have ht := (begin_names2 (Decidable.not_not.1 h1)).2
  cases hg : Nmd.get F.name n p.fs with
  | none => exact hb
  | some f =>
    dsimp only
    by_cases hnt : n = t
    ·rw [if_pos hnt]; exact hb
    ·rw [if_neg hnt]
     cases hg2 : Nmd.get F.name t p.fs with
     | none => exact hb.moved hg hg2 ht
     | some y =>
       have h2 := hb.del hg2
       refine h2.moved ?_ ?_ ht
       ·rw [Nmd.get_del, if_neg (fun e => hnt e.symm)]; exact hg
       ·rw [Nmd.get_del, if_pos rfl]
theorem Good.flip {p : P} (h : Good p) (n : List UInt8) (x : Int) (b : UInt8) : Good (p.flip n x b).2 := by
 unfold P.flip
 cases hg : Nmd.get F.name n p.fs with
 | none => exact h
 | some f =>
   dsimp only
   by_cases h2 : b = 0 ∨ x < 0 ∨ (f.l.length : Int) ≤ x
   ·rw [if_pos h2]; exact h
   ·rw [if_neg h2]
    have hm := (Nmd.get_mem hg).1
    refine Good.upd (fs := p.fs) (s := p.h) h (x := ⟨f.name, f.l.set x.toNat (f.l[x.toNat]! ^^^ b), f.safe⟩) hm rfl ?_ p.h ?_ h.room h.ops
    ·show f.safe ≤ (f.l.set _ _).length
     rw [List.length_set]; exact h.safe f hm
    ·dsimp only
     rw [List.length_set]; omega
end Plk
end
end Go.Proofs.YtafeealbdpmdkaaGreatDoor
/- More operations on a disk that a law holds. -/
namespace Go.Proofs.YtafeealbdpmdkaaGreatDoor
open Go Go.RowKit
namespace Plk
section
variable {W0 w : World} {d : Nat} {p : P} (h : Hold W0 w d p)
include h
theorem Hold.rename (n t : List UInt8) (h1 : p.h.ops < big) : Calls Tryz.prog 82 #[.pointer (some ⟨d, 0, none⟩), str n, str t] w fun e w' => e = .returned (.int .i64 (p.rename n t).1) ∧ Hold W0 w' d (p.rename n t).2 := by
 obtain ⟨hx, hg, mp, es, hD, hfs, ho⟩ := h
 obtain ⟨fs, s⟩ := p
 dsimp only at hD hfs
 subst hfs
 refine (rename_any w d mp es s hD n t hg.ops h1 (by have := hg.cnt; simpa using this) (by have := good_room hg; dsimp only at this; omega) (good_len hg)).mono ?_
 rintro e w' ⟨es', s', rfl, h2, h3, h4⟩
 exact ⟨rfl, Hold.step hx ho h2 h3 h4 (hg.rename n t)⟩
theorem Hold.flip (n : List UInt8) (x : Int) (b : UInt8) (hn : n.length ≤ maxLen) : Calls Tryz.prog 17 #[.pointer (some ⟨d, 0, none⟩), str n, .int .i64 x, byteV b] w fun e w' => e = .returned (.bool (p.flip n x b).1) ∧ Hold W0 w' d (p.flip n x b).2 := by
 obtain ⟨hx, hg, mp, es, hD, hfs, ho⟩ := h
 obtain ⟨fs, s⟩ := p
 dsimp only at hD hfs
 subst hfs
 refine (flip_any w d mp es s hD n x b (good_len hg) hn).mono ?_
 rintro e w' ⟨es', s', rfl, h2, h3, h4⟩
 exact ⟨rfl, Hold.step hx ho h2 h3 h4 (hg.flip n x b)⟩
theorem Hold.size (n : List UInt8) (hn : n.length ≤ maxLen) : Calls Tryz.prog 45 #[.pointer (some ⟨d, 0, none⟩), str n] w fun e w' => e = .returned (.int .i64 (match Nmd.get F.name n p.fs with | none => -1 | some f => (f.l.length : Int))) ∧ w' = w := by
 obtain ⟨hx, hg, mp, es, hD, hfs, ho⟩ := h
 obtain ⟨fs, s⟩ := p
 dsimp only at hD hfs
 subst hfs
 dsimp only
 rw [get_pl]
 refine (size_any w d mp es s hD n hn).mono ?_
 rintro e w' ⟨rfl, rfl⟩
 cases Nmd.get E.nm n es <;> exact ⟨rfl, rfl⟩
theorem Hold.ops : Calls Tryz.prog 32 #[.pointer (some ⟨d, 0, none⟩)] w fun e w' => e = .returned (.int .i64 p.h.ops) ∧ w' = w := by
 obtain ⟨hx, hg, mp, es, hD, hfs, ho⟩ := h
 obtain ⟨fs, s⟩ := p
 dsimp only at hD hfs
 subst hfs
 exact ops_any w d mp es s hD
/-- the names, in a row of their own -/
theorem Hold.names : Calls Tryz.prog 31 #[.pointer (some ⟨d, 0, none⟩)] w fun e w' => ∃ A c, e = .returned (.slice A p.fs.length c) ∧ p.fs.length ≤ c ∧ Rd w' A (p.fs.map fun f => str f.name) ∧ Hold W0 w' d p := by
 obtain ⟨hx, hg, mp, es, hD, hfs, ho⟩ := h
 obtain ⟨fs, s⟩ := p
 dsimp only at hD hfs
 subst hfs
 refine (names_any w d mp es s hD (by have := hg.cnt; simpa using this)).mono ?_
 rintro e w' ⟨v, rfl, hr, hx'⟩
 obtain ⟨NA, ncap, rfl, hncap, hcell⟩ := NR.of hr
 refine ⟨NA, ncap, by simp, by simpa using hncap, ?_, ?_⟩
 ·intro j hj
  rw [List.length_map, List.length_map] at hj
  obtain ⟨rb, h1, h2, h3, h4⟩ := hcell j (by rw [List.length_map]; exact hj)
  refine ⟨_, h1, h3, ?_⟩
  rw [add_plain, Nat.zero_add, h4]
  simp [str]
 ·exact Hold.more ⟨hx, hg, mp, es, hD, rfl, ho⟩ hx'
end
end Plk
end Go.Proofs.YtafeealbdpmdkaaGreatDoor
/- A disk with its blocks in sight. -/
namespace Go.Proofs.YtafeealbdpmdkaaGreatDoor
section
open Go Go.RowKit
namespace Plk
structure Dg (w : World) (d mp : Nat) (es : List E) (p : P) : Prop where
 dk : Dk w d mp es p.h
 fs : es.map E.f = p.fs
 good : Good p
def ResG (d mp : Nat) (W : World) (es : List E) (v : Value) (p' : P) (e : Ending) (w' : World) : Prop := e = .returned v ∧ ∃ es', Dg w' d mp es' p' ∧ Turn d mp W es w' es'
/-- a block that the disk doesn't own -/
def Out (w : World) (d mp : Nat) (es : List E) (g : Nat) : Prop := g < w.heap.size ∧ ¬ Own d mp es g
theorem Turn.out {d mp : Nat} {w w' : World} {es es' : List E} (h : Turn d mp w es w' es') {g : Nat} (ho : Out w d mp es g) : Out w' d mp es' g ∧ w'.heap[g]? = w.heap[g]? := by
 refine ⟨⟨Nat.lt_of_lt_of_le ho.1 h.size, fun o => ?_⟩, h.kept g ho.1 ho.2⟩
 rcases h.own g o with h1 | h1
 ·exact ho.2 h1
 ·have := ho.1; omega
theorem Turn.blk {d mp : Nat} {w w' : World} {es es' : List E} (h : Turn d mp w es w' es') {g : Nat} {t : TypeId} {cs : List Value} (ho : Out w d mp es g) (hb : Blk w g t cs) : Blk w' g t cs := (h.out ho).2.trans hb
theorem Dg.ext {w w' : World} {d mp : Nat} {es : List E} {p : P} (h : Dg w d mp es p) (hx : Reg.Ext w w') : Dg w' d mp es p := ⟨h.dk.ext hx, h.fs, h.good⟩
theorem Out.ext {w w' : World} {d mp : Nat} {es : List E} {g : Nat} (h : Out w d mp es g) (hx : Reg.Ext w w') : Out w' d mp es g := ⟨Nat.lt_of_lt_of_le h.1 hx.size, h.2⟩
theorem Dg.fresh {w w' : World} {d mp : Nat} {es : List E} {p : P} (h : Dg w d mp es p) {g : Nat} (h1 : w.heap.size ≤ g) (h2 : g < w'.heap.size) : Out w' d mp es g := ⟨h2, fun o => by have := h.dk.own_lt o; omega⟩
/-- all that was there ahead of the disk is as it was -/
theorem Turn.base {W0 w w' : World} {d mp : Nat} {es es' : List E} (h : Turn d mp w es w' es') (hx : Reg.Ext W0 w) (ho : ∀ i, Own d mp es i → W0.heap.size ≤ i) : Reg.Ext W0 w' ∧ ∀ i, Own d mp es' i → W0.heap.size ≤ i := by
 refine ⟨⟨h.os.trans hx.os, h.tape.trans hx.tape, h.output.trans hx.output, Nat.le_trans hx.size h.size, fun i hi => ?_⟩, fun i hi => ?_⟩
 ·refine (h.kept i (Nat.lt_of_lt_of_le hi hx.size) fun o => ?_).trans (hx.block i hi)
  have := ho i o
  omega
 ·rcases h.own i hi with h1 | h1
  ·exact ho i h1
  ·exact Nat.le_trans hx.size h1
theorem Dg.new (room : Int) (W : World) : Calls Tryz.prog 5 #[.int .i64 room] W fun e w' => ∃ d mp, e = .returned (.pointer (some ⟨d, 0, none⟩)) ∧ Dg w' d mp [] (new room) ∧ Reg.Ext W w' ∧ ∀ i, Own d mp [] i → W.heap.size ≤ i := by
 refine (new_any room W).mono ?_
 rintro e w' ⟨d, mp, rfl, hD, h1, h2, hx⟩
 refine ⟨d, mp, rfl, ⟨hD, rfl, good_new room⟩, hx, fun i hi => ?_⟩
 rcases hi with rfl | rfl | ⟨e, he, _⟩
 ·exact h1
 ·exact h2
 ·cases he
section
variable {w : World} {d mp : Nat} {es : List E} {p : P} (h : Dg w d mp es p)
include h
theorem Dg.cnt : es.length ≤ 200 := by
 have := h.good.cnt
 rw [← h.fs, List.length_map] at this
 exact this
theorem Dg.create (n : List UInt8) (h1 : p.h.ops < big) : Calls Tryz.prog 62 #[.pointer (some ⟨d, 0, none⟩), str n] w (ResG d mp w es (.int .i64 (p.create n).1) (p.create n).2) := by
 have hcn := h.cnt
 obtain ⟨hD, hfs, hg⟩ := h
 obtain ⟨fs, s⟩ := p
 dsimp only at hD hfs
 subst hfs
 refine (create_any w d mp es s hD n hg.ops h1 hcn).mono ?_
 rintro e w' ⟨es', s', rfl, h2, h3, h4⟩
 exact ⟨rfl, es', ⟨by rw [show (P.create ⟨es.map E.f, s⟩ n).2 = pl es' s' from h4.symm]; exact h2, by rw [show (P.create ⟨es.map E.f, s⟩ n).2 = pl es' s' from h4.symm]; rfl, hg.create n⟩, h3⟩
end
section
variable {w : World} {d mp : Nat} {es : List E} {p : P} (h : Dg w d mp es p)
include h
theorem Dg.append (n t : List UInt8) (h1 : p.h.ops < big) (ht : t.length ≤ 4294967296) : Calls Tryz.prog 19 #[.pointer (some ⟨d, 0, none⟩), str n, str t] w (ResG d mp w es (.int .i64 (p.append n t).1) (p.append n t).2) := by
 obtain ⟨hD, hfs, hg⟩ := h
 obtain ⟨fs, s⟩ := p
 dsimp only at hD hfs
 subst hfs
 refine (append_any w d mp es s hD n t hg.ops h1 (good_room hg) (good_len hg) ht).mono ?_
 rintro e w' ⟨es', s', rfl, h2, h3, h4⟩
 exact ⟨rfl, es', ⟨by rw [show (P.append ⟨es.map E.f, s⟩ n t).2 = pl es' s' from h4.symm]; exact h2, by rw [show (P.append ⟨es.map E.f, s⟩ n t).2 = pl es' s' from h4.symm]; rfl, hg.append n t⟩, h3⟩
theorem Dg.sync (n : List UInt8) (h1 : p.h.ops < big) : Calls Tryz.prog 55 #[.pointer (some ⟨d, 0, none⟩), str n] w (ResG d mp w es (.int .i64 (p.sync n).1) (p.sync n).2) := by
 obtain ⟨hD, hfs, hg⟩ := h
 obtain ⟨fs, s⟩ := p
 dsimp only at hD hfs
 subst hfs
 refine (sync_any w d mp es s hD n hg.ops h1).mono ?_
 rintro e w' ⟨es', s', rfl, h2, h3, h4⟩
 exact ⟨rfl, es', ⟨by rw [show (P.sync ⟨es.map E.f, s⟩ n).2 = pl es' s' from h4.symm]; exact h2, by rw [show (P.sync ⟨es.map E.f, s⟩ n).2 = pl es' s' from h4.symm]; rfl, hg.sync n⟩, h3⟩
theorem Dg.delete (n : List UInt8) (h1 : p.h.ops < big) : Calls Tryz.prog 86 #[.pointer (some ⟨d, 0, none⟩), str n] w (ResG d mp w es (.int .i64 (p.delete n).1) (p.delete n).2) := by
 obtain ⟨hD, hfs, hg⟩ := h
 obtain ⟨fs, s⟩ := p
 dsimp only at hD hfs
 subst hfs
 refine (delete_any w d mp es s hD n hg.ops h1 (by have := good_room hg; dsimp only at this; omega) (good_len hg)).mono ?_
 rintro e w' ⟨es', s', rfl, h2, h3, h4⟩
 exact ⟨rfl, es', ⟨by rw [show (P.delete ⟨es.map E.f, s⟩ n).2 = pl es' s' from h4.symm]; exact h2, by rw [show (P.delete ⟨es.map E.f, s⟩ n).2 = pl es' s' from h4.symm]; rfl, hg.delete n⟩, h3⟩
theorem Dg.rename (n t : List UInt8) (h1 : p.h.ops < big) : Calls Tryz.prog 82 #[.pointer (some ⟨d, 0, none⟩), str n, str t] w (ResG d mp w es (.int .i64 (p.rename n t).1) (p.rename n t).2) := by
 have hcn := h.cnt
 obtain ⟨hD, hfs, hg⟩ := h
 obtain ⟨fs, s⟩ := p
 dsimp only at hD hfs
 subst hfs
 refine (rename_any w d mp es s hD n t hg.ops h1 hcn (by have := good_room hg; dsimp only at this; omega) (good_len hg)).mono ?_
 rintro e w' ⟨es', s', rfl, h2, h3, h4⟩
 exact ⟨rfl, es', ⟨by rw [show (P.rename ⟨es.map E.f, s⟩ n t).2 = pl es' s' from h4.symm]; exact h2, by rw [show (P.rename ⟨es.map E.f, s⟩ n t).2 = pl es' s' from h4.symm]; rfl, hg.rename n t⟩, h3⟩
theorem Dg.flip (n : List UInt8) (x : Int) (b : UInt8) (hn : n.length ≤ maxLen) : Calls Tryz.prog 17 #[.pointer (some ⟨d, 0, none⟩), str n, .int .i64 x, byteV b] w (ResG d mp w es (.bool (p.flip n x b).1) (p.flip n x b).2) := by
 obtain ⟨hD, hfs, hg⟩ := h
 obtain ⟨fs, s⟩ := p
 dsimp only at hD hfs
 subst hfs
 refine (flip_any w d mp es s hD n x b (good_len hg) hn).mono ?_
 rintro e w' ⟨es', s', rfl, h2, h3, h4⟩
 exact ⟨rfl, es', ⟨by rw [show (P.flip ⟨es.map E.f, s⟩ n x b).2 = pl es' s' from h4.symm]; exact h2, by rw [show (P.flip ⟨es.map E.f, s⟩ n x b).2 = pl es' s' from h4.symm]; rfl, hg.flip n x b⟩, h3⟩
theorem Dg.read (n : List UInt8) (x k : Int) (h1 : p.h.ops < big) : Calls Tryz.prog 63 #[.pointer (some ⟨d, 0, none⟩), str n, .int .i64 x, .int .i64 k] w (ResG d mp w es (.tuple #[str (p.read n x k).1, .int .i64 (p.read n x k).2.1]) (p.read n x k).2.2) := by
 obtain ⟨hD, hfs, hg⟩ := h
 obtain ⟨fs, s⟩ := p
 dsimp only at hD hfs
 subst hfs
 refine (read_any w d mp es s hD n x k hg.ops h1 (good_len hg)).mono ?_
 rintro e w' ⟨s', rfl, h2, h3, h4⟩
 refine ⟨rfl, es, ⟨by rw [show (P.read ⟨es.map E.f, s⟩ n x k).2.2 = pl es s' from h4.symm]; exact h2, by rw [show (P.read ⟨es.map E.f, s⟩ n x k).2.2 = pl es s' from h4.symm]; rfl, ?_⟩, Turn.of_but h3⟩
 have hb := hg.find_ n
 unfold P.read
 split
 ·exact hg
 ·split
  ·exact hb
  ·split
   ·exact hb
   ·exact hb
theorem Dg.off : Calls Tryz.prog 13 #[.pointer (some ⟨d, 0, none⟩)] w (ResG d mp w es (.tuple #[]) ⟨p.fs, { p.h with off := true, ak := 0, af := 0, al := 0 }⟩) := by
 obtain ⟨hD, hfs, hg⟩ := h
 obtain ⟨fs, s⟩ := p
 dsimp only at hD hfs
 subst hfs
 refine (off_any w d mp es s hD).mono ?_
 rintro e w' ⟨rfl, h2, h3⟩
 exact ⟨rfl, es, ⟨h2, rfl, ⟨hg.up, hg.used, hg.room, hg.safe, hg.cnt, hg.names, hg.ops⟩⟩, Turn.of_but h3⟩
theorem Dg.arm (x k m : Int) (h1 : p.h.ops < big) : Calls Tryz.prog 11 #[.pointer (some ⟨d, 0, none⟩), .int .i64 x, .int .i64 k, .int .i64 m] w (ResG d mp w es (.tuple #[]) ⟨p.fs, p.h.arm x k m⟩) := by
 obtain ⟨hD, hfs, hg⟩ := h
 obtain ⟨fs, s⟩ := p
 dsimp only at hD hfs
 subst hfs
 refine (arm_any w d mp es s hD x k m hg.ops h1).mono ?_
 rintro e w' ⟨rfl, h2, h3⟩
 obtain ⟨k1, k2, k3, _⟩ := arm_keep s x k m
 refine ⟨rfl, es, ⟨h2, rfl, ⟨hg.up, ?_, ?_, hg.safe, hg.cnt, hg.names, ?_⟩⟩, Turn.of_but h3⟩
 ·exact k2.trans hg.used
 ·show (s.arm x k m).used ≤ (s.arm x k m).room ∧ (s.arm x k m).room ≤ _
  rw [k1, k2]; exact hg.room
 ·show 0 ≤ (s.arm x k m).ops
  rw [k3]; exact hg.ops
theorem Dg.on (v : Value) (ks : List Int) (hk : KR w d mp es v ks) : Calls Tryz.prog 15 #[.pointer (some ⟨d, 0, none⟩), v] w (ResG d mp w es (.tuple #[]) (p.on ks)) := by
 have hcn := h.cnt
 obtain ⟨hD, hfs, hg⟩ := h
 obtain ⟨fs, s⟩ := p
 dsimp only at hD hfs
 subst hfs
 have hr := good_room hg
 dsimp only at hr
 refine (on_any _ d mp es s hD v ks hk hcn (fun e he => hg.safe e.f (List.mem_map.2 ⟨e, he, rfl⟩)) hg.used (by omega) (fun e he => ?_)).mono ?_
 ·have := hg.names e.f (List.mem_map.2 ⟨e, he, rfl⟩)
  unfold isName at this
  simp at this
  exact this.2
 ·rintro e w' ⟨rfl, es', s', h2, h3, h4⟩
  exact ⟨rfl, es', ⟨by rw [show (P.on ⟨es.map E.f, s⟩ ks) = pl es' s' from h4.symm]; exact h2, by rw [show (P.on ⟨es.map E.f, s⟩ ks) = pl es' s' from h4.symm]; rfl, hg.on ks⟩, h3⟩
theorem Dg.ops : Calls Tryz.prog 32 #[.pointer (some ⟨d, 0, none⟩)] w fun e w' => e = .returned (.int .i64 p.h.ops) ∧ w' = w := ops_any w d mp es p.h h.dk
theorem Dg.bytes (n : List UInt8) (hn : n.length ≤ maxLen) : Calls Tryz.prog 33 #[.pointer (some ⟨d, 0, none⟩), str n] w fun e w' => e = .returned (str (match Nmd.get F.name n p.fs with | none => [] | some f => f.l)) ∧ w' = w := by
 obtain ⟨hD, hfs, hg⟩ := h
 obtain ⟨fs, s⟩ := p
 dsimp only at hD hfs
 subst hfs
 dsimp only
 rw [get_pl]
 refine (bytes_any w d mp es s hD n hn).mono ?_
 rintro e w' ⟨rfl, rfl⟩
 cases Nmd.get E.nm n es <;> exact ⟨rfl, rfl⟩
theorem Dg.safe (n : List UInt8) (hn : n.length ≤ maxLen) : Calls Tryz.prog 34 #[.pointer (some ⟨d, 0, none⟩), str n] w fun e w' => e = .returned (.int .i64 (match Nmd.get F.name n p.fs with | none => 0 | some f => (f.safe : Int))) ∧ w' = w := by
 obtain ⟨hD, hfs, hg⟩ := h
 obtain ⟨fs, s⟩ := p
 dsimp only at hD hfs
 subst hfs
 dsimp only
 rw [get_pl]
 refine (safe_any w d mp es s hD n hn).mono ?_
 rintro e w' ⟨rfl, rfl⟩
 cases Nmd.get E.nm n es <;> exact ⟨rfl, rfl⟩
theorem Dg.size (n : List UInt8) (hn : n.length ≤ maxLen) : Calls Tryz.prog 45 #[.pointer (some ⟨d, 0, none⟩), str n] w fun e w' => e = .returned (.int .i64 (match Nmd.get F.name n p.fs with | none => -1 | some f => (f.l.length : Int))) ∧ w' = w := by
 obtain ⟨hD, hfs, hg⟩ := h
 obtain ⟨fs, s⟩ := p
 dsimp only at hD hfs
 subst hfs
 dsimp only
 rw [get_pl]
 refine (size_any w d mp es s hD n hn).mono ?_
 rintro e w' ⟨rfl, rfl⟩
 cases Nmd.get E.nm n es <;> exact ⟨rfl, rfl⟩
theorem Dg.names : Calls Tryz.prog 31 #[.pointer (some ⟨d, 0, none⟩)] w fun e w' => ∃ A c, e = .returned (.slice A p.fs.length c) ∧ p.fs.length ≤ c ∧ (∀ i (_ : i < p.fs.length), ∃ rb, A = some ⟨rb, 0, none⟩ ∧ Out w' d mp es rb ∧ w'.cell? ⟨rb, i, none⟩ = some (str p.fs[i].name)) ∧ Reg.Ext w w' := by
 have hcn := h.cnt
 obtain ⟨hD, hfs, hg⟩ := h
 obtain ⟨fs, s⟩ := p
 dsimp only at hD hfs
 subst hfs
 refine (names_any w d mp es s hD hcn).mono ?_
 rintro e w' ⟨v, rfl, hr, hx'⟩
 obtain ⟨NA, ncap, rfl, hncap, hcell⟩ := NR.of hr
 refine ⟨NA, ncap, by simp, by simpa using hncap, ?_, hx'⟩
 intro j hj
 dsimp only at hj
 rw [List.length_map] at hj
 obtain ⟨rb, h1, h2, h3, h4⟩ := hcell j (by rw [List.length_map]; exact hj)
 refine ⟨rb, h1, ⟨h3, fun o => by have := hD.own_lt o; omega⟩, ?_⟩
 rw [h4]
 simp
end
end Plk
end
end Go.Proofs.YtafeealbdpmdkaaGreatDoor

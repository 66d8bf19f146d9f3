/- The document's tables: Put. -/
import Derived.Test.YtcfdlfedmbmidaaDoorTkU
import Derived.Test.YtcfdlfedmbmidaaDoorTkW
import Derived.Deep.CutBlock
import Derived.Deep.DeepCutAuto
import Derived.BigQuiet
set_option linter.unusedSimpArgs false
set_option linter.unusedVariables false
set_option linter.unusedSectionVars false
namespace Go.Proofs.YtcfdlfedmbmidaaDoor
open Go Go.RowKit
theorem Nmd.tri (a b : Nmd.Nm) : a < b ∨ a = b ∨ b < a := by
  by_cases h1 : a < b
  · exact .inl h1
  · by_cases h2 : b < a
    · exact .inr (.inr h2)
    · exact .inr (.inl (List.le_antisymm (List.not_lt.1 h2) (List.not_lt.1 h1)))
namespace Tk

theorem ins_below (f : T) : ∀ l : List T, (∀ y ∈ l, nm y < nm f) → Nmd.ins nm f l = l ++ [f]
  | [], _ => rfl
  | y :: l, h => by
    unfold Nmd.ins
    rw [if_pos (h y List.mem_cons_self), ins_below f l fun z hz => h z (List.mem_cons_of_mem _ hz)]
    rfl
theorem ins_here (f x : T) (hx : ¬ nm x < nm f) : ∀ l : List T, (∀ y ∈ l, nm y < nm f) → Nmd.ins nm f (l ++ [x]) = l ++ [f, x]
  | [], _ => by
    show Nmd.ins nm f [x] = [f, x]
    unfold Nmd.ins
    rw [if_neg hx]
  | y :: l, h => by
    show Nmd.ins nm f (y :: (l ++ [x])) = _
    unfold Nmd.ins
    rw [if_pos (h y List.mem_cons_self), ins_here f x hx l fun z hz => h z (List.mem_cons_of_mem _ hz)]
    rfl
theorem ins_above (f x : T) : ∀ l : List T, (∃ y ∈ l, ¬ nm y < nm f) → Nmd.ins nm f (l ++ [x]) = Nmd.ins nm f l ++ [x]
  | [], h => by obtain ⟨y, hy, _⟩ := h; cases hy
  | y :: l, h => by
    show Nmd.ins nm f (y :: (l ++ [x])) = _
    unfold Nmd.ins
    by_cases hy : nm y < nm f
    · rw [if_pos hy, if_pos hy, ins_above f x l]
      · rfl
      · obtain ⟨z, hz, hz2⟩ := h
        rcases List.mem_cons.1 hz with rfl | hz
        · exact absurd hy hz2
        · exact ⟨z, hz, hz2⟩
    · rw [if_neg hy, if_neg hy]
      rfl
/-- what put has gathered -/
def PutI (f : T) (l : List T) (k : Nat) (dn : Bool) (out : List T) : Prop := match dn with
  | false => out = l.take k ∧ ∀ y ∈ l.take k, nm y < nm f
  | true => out = Nmd.ins nm f (l.take k) ∧ ∃ y ∈ l.take k, ¬ nm y < nm f
theorem PutI.len {f : T} {l : List T} {k : Nat} {dn : Bool} {out : List T} (h : PutI f l k dn out) : out.length ≤ l.length + 1 := by
  cases dn with
  | false => rw [h.1, List.length_take]; omega
  | true => rw [h.1, Nmd.length_ins, List.length_take]; omega
theorem PutI.keep {f : T} {l : List T} {k : Nat} {out : List T} (hk : k < l.length) (h : PutI f l k true out) : PutI f l (k + 1) true (out ++ [l[k]]) := by
  obtain ⟨h1, y, hy, h2⟩ := h
  have e := List.take_succ_eq_append_getElem hk
  exact ⟨by rw [e, ins_above f _ _ ⟨y, hy, h2⟩, ← h1], y, by rw [e]; exact List.mem_append_left _ hy, h2⟩
theorem PutI.below {f : T} {l : List T} {k : Nat} {out : List T} (hk : k < l.length) (hlt : nm l[k] < nm f) (h : PutI f l k false out) : PutI f l (k + 1) false (out ++ [l[k]]) := by
  obtain ⟨h1, h2⟩ := h
  have e := List.take_succ_eq_append_getElem hk
  refine ⟨by rw [e, h1], fun y hy => ?_⟩
  rw [e] at hy
  rcases List.mem_append.1 hy with hy | hy
  · exact h2 y hy
  · rw [List.mem_singleton.1 hy]; exact hlt
theorem PutI.here {f : T} {l : List T} {k : Nat} {out : List T} (hk : k < l.length) (hlt : ¬ nm l[k] < nm f) (h : PutI f l k false out) : PutI f l (k + 1) true (out ++ [f] ++ [l[k]]) := by
  obtain ⟨h1, h2⟩ := h
  have e := List.take_succ_eq_append_getElem hk
  refine ⟨?_, l[k], by rw [e]; exact List.mem_append_right _ (List.mem_singleton.2 rfl), hlt⟩
  rw [e, ins_here f _ hlt _ h2, h1, List.append_assoc]
  rfl
theorem PutI.done {f : T} {l : List T} {out : List T} (h : PutI f l l.length true out) : out = Nmd.ins nm f l := by have := h.1; rwa [List.take_length] at this
theorem PutI.last {f : T} {l : List T} {out : List T} (h : PutI f l l.length false out) : out ++ [f] = Nmd.ins nm f l := by
  obtain ⟨h1, h2⟩ := h
  rw [List.take_length] at h1 h2
  rw [ins_below f _ h2, h1]
theorem nm_ge {x y : T} (h : nm y ≠ nm x) : decide (nm x < nm y) = !decide (nm y < nm x) := by
  by_cases h1 : nm x < nm y
  · rw [decide_eq_true h1, decide_eq_false (fun h2 => List.lt_irrefl _ (List.lt_trans h1 h2))]; rfl
  · rw [decide_eq_false h1, decide_eq_true]
    · rfl
    · rcases Nmd.tri (nm x) (nm y) with h2 | h2 | h2
      · exact absurd h2 h1
      · exact absurd h2.symm h
      · exact h2
/-- what the document's Put leaves -/
def ResU (b : Nat) (w : World) (v : Value) (o : Option T) (l : List T) (most : Int) (e : Ending) (w' : World) : Prop := e = .returned (.tuple #[.agg (o.getD zT).cells.toArray, .bool o.isSome]) ∧ ∃ v', Tb 44 w' b v' l most ∧ TTurn b w v w' v'
/-- put's blocks, behind a step of its walk -/
structure PV (b g1 g6 : Nat) (x gz : T) (W : World) (v : Value) (w : World) (v' : Value) (l : List T) (most : Int) : Prop where
  tb : Tb 44 w b v' l most
  turn : TTurn b W v w v'
  bx : Blk w g1 25 x.cells
  bz : Blk w (g1 + 1) 25 zT.cells
  b6 : Blk w g6 25 gz.cells
  n1 : ¬ TO b v' g1
  n2 : ¬ TO b v' (g1 + 1)
  n6 : ¬ TO b v' g6
  s1 : W.heap.size ≤ g1
  s6 : g1 + 1 < g6
section
variable {b g1 g6 : Nat} {x gz : T} {W w w' : World} {v v' v2 : Value} {l l2 : List T} {most : Int}
theorem PV.ext (h : PV b g1 g6 x gz W v w v' l most) (hx : Reg.Ext w w') : PV b g1 g6 x gz W v w' v' l most :=
  ⟨h.tb.ext hx, h.turn.trans (TTurn.ext hx), h.bx.ext hx, h.bz.ext hx, h.b6.ext hx, h.n1, h.n2, h.n6, h.s1, h.s6⟩
theorem PV.step (h : PV b g1 g6 x gz W v w v' l most) (ht : TTurn b w v' w' v2) (hb : Tb 44 w' b v2 l2 most) : PV b g1 g6 x gz W v w' v2 l2 most := by
  have key : ∀ i, i < w.heap.size → ¬ TO b v' i → ¬ TO b v2 i := fun i hi hn o => by
    rcases ht.own i o with h1 | h1
    · exact hn h1
    · omega
  exact ⟨hb, h.turn.trans ht, (ht.kept _ h.bx.lt h.n1).trans h.bx, (ht.kept _ h.bz.lt h.n2).trans h.bz, (ht.kept _ h.b6.lt h.n6).trans h.b6, key _ h.bx.lt h.n1, key _ h.bz.lt h.n2, key _ h.b6.lt h.n6, h.s1, h.s6⟩
theorem PV.gone (h : PV b g1 g6 x gz W v w v' l most) (y : T) (hy : y.dig.length = 32) (hz : gz.dig.length = 32) : PV b g1 g6 x y W v (w.setCells g6 0 y.cells) v' l most := by
  have hb := But.setCells g6 y.cells 0 w
  have := h.s6
  have := h.s1
  exact ⟨h.tb.but hb h.n6, h.turn.but hb (by omega), h.bx.but hb (by omega), h.bz.but hb (by omega), h.b6.setAll y.cells (by rw [y.len hy, gz.len hz]), h.n1, h.n2, h.n6, h.s1, h.s6⟩
theorem PV.done (h : PV b g1 g6 x gz W v w v' l most) (y : T) (hy : y.dig.length = 32) : Tb 44 (w.setCells (g1 + 1) 0 y.cells) b v' l most ∧ TTurn b W v (w.setCells (g1 + 1) 0 y.cells) v' ∧ Blk (w.setCells (g1 + 1) 0 y.cells) (g1 + 1) 25 y.cells := by
  have hb := But.setCells (g1 + 1) y.cells 0 w
  have := h.s1
  exact ⟨h.tb.but hb h.n2, h.turn.but hb (by omega), h.bz.setAll y.cells (by rw [y.len hy, zT.len rfl])⟩
end
/-- the least that the loop has found -/
def AtI (l : List T) (m kk : Nat) : Prop := ∃ hk : kk < l.length, (m = 0 ∧ kk = 0) ∨ oldest (l.take m) = some l[kk]
theorem AtI.end_ {l : List T} {kk : Nat} (h : AtI l l.length kk) : ∃ hk : kk < l.length, oldest l = some l[kk] := by
  obtain ⟨hk, h1⟩ := h
  refine ⟨hk, ?_⟩
  rcases h1 with ⟨h1, _⟩ | h1
  · omega
  · rwa [List.take_length] at h1
theorem AtI.less {l : List T} {m kk : Nat} (h : AtI l m kk) (hm : m < l.length) (hlt : ∀ hk : kk < l.length, l[m].at_ < l[kk].at_) : AtI l (m + 1) m := by
  obtain ⟨hk, h1⟩ := h
  refine ⟨hm, .inr ?_⟩
  rw [List.take_succ_eq_append_getElem hm, oldest_snoc]
  rcases h1 with ⟨rfl, rfl⟩ | h1
  · rfl
  · rw [h1]
    show (if l[m].at_ < l[kk].at_ then some l[m] else some l[kk]) = _
    rw [if_pos (hlt hk)]
theorem AtI.more {l : List T} {m kk : Nat} (h : AtI l m kk) (hm : m < l.length) (hlt : ∀ hk : kk < l.length, ¬ l[m].at_ < l[kk].at_) : AtI l (m + 1) kk := by
  obtain ⟨hk, h1⟩ := h
  refine ⟨hk, .inr ?_⟩
  rw [List.take_succ_eq_append_getElem hm, oldest_snoc]
  rcases h1 with ⟨rfl, rfl⟩ | h1
  · rfl
  · rw [h1]
    show (if l[m].at_ < l[kk].at_ then some l[m] else some l[kk]) = _
    rw [if_neg (hlt hk)]
/-- what the fullness does -/
def Full (l1 : List T) (most : Int) (full : Bool) (o : Option T) (l2 : List T) : Prop :=
  (full = false ∧ (l1.length : Int) < most ∧ o = none ∧ l2 = l1) ∨ (full = true ∧ most ≤ (l1.length : Int) ∧ ∃ g, oldest l1 = some g ∧ o = some g ∧ l2 = Nmd.del nm (nm g) l1)
theorem Full.is {l1 l2 : List T} {most : Int} {full : Bool} {o : Option T} (h : Full l1 most full o l2) : full = o.isSome := by
  rcases h with ⟨rfl, _, rfl, _⟩ | ⟨rfl, _, g, _, rfl, _⟩ <;> rfl
theorem Full.sub {l1 l2 : List T} {most : Int} {full : Bool} {o : Option T} (h : Full l1 most full o l2) : (∀ y ∈ l2, y ∈ l1) ∧ l2.length ≤ l1.length := by
  rcases h with ⟨_, _, _, rfl⟩ | ⟨_, _, g, _, _, rfl⟩
  · exact ⟨fun y h => h, Nat.le_refl _⟩
  · exact ⟨fun y hy => (Nmd.mem_del.1 hy).1, del_len _ _⟩
section
variable {w : World} {b : Nat} {v : Value} {l : List T} {most : Int}
set_option maxRecDepth 100000 in
set_option maxHeartbeats 2000000 in
theorem putR_some (h : Tb 44 w b v l most) (hl : l.length ≤ 900) (x : T) (hx : x.dig.length = 32) {full : Bool} {o : Option T} {l2 : List T} (hpos : 1 ≤ most) (hf : Full (Nmd.del nm (nm x) l) most full o l2) :
    Calls Tryd.prog 16 #[.pointer (some ⟨b, 0, none⟩), .agg x.cells.toArray] w (ResU b w v o (Nmd.ins nm x l2) most) := by
  have HT0 := Lib.hid h
  have hx1 := Reg.Ext.alloc w (Obj.cells x.cells.toArray 25)
  have hx2 := Reg.Ext.alloc (w.alloc (Obj.cells x.cells.toArray 25)) (Obj.cells zT.cells.toArray 25)
  have hb1 := (boxT w x).ext hx2
  have hb2 := boxT (w.alloc (Obj.cells x.cells.toArray 25)) zT
  have hsz : ((w.alloc (Obj.cells x.cells.toArray 25)).alloc (Obj.cells zT.cells.toArray 25)).heap.size = w.heap.size + 2 := by rw [size_up, size_up]
  rw [size_up] at hb2
  have HX2 := Lib.hid (hx1.trans hx2)
  have HXD := Lib.hid hx
  have HF := Lib.hid hf
  have HT := Lib.hid (HT0.out.ext HX2.out)
  clear h hx hx1 hx2 hf
  go_enter Tryd.func16, Tryd.ntmps16
  go_upto_region 1 with (fail)
  rw [z38]
  generalize (w.alloc (Obj.cells x.cells.toArray 25)).alloc (Obj.cells zT.cells.toArray 25) = w1 at *
  obtain ⟨g1, hg1⟩ : ∃ g, w.heap.size = g := ⟨_, rfl⟩
  have HDR := Lib.hid (dropR_any HT.out (by omega : l.length ≤ 1000) x.repo x.tag)
  rw [hg1] at hb1 hb2 hsz ⊢
  have HG1 := Lib.hid hg1
  have HSZ := Lib.hid hsz
  have c0 : w1.cell? ⟨g1, 0, none⟩ = some (.string ⟨x.repo.toArray⟩) := hb1.cell 0
  have c1 : w1.cell? ⟨g1, 1, none⟩ = some (.string ⟨x.tag.toArray⟩) := hb1.cell 1
  have HB1 := Lib.hid hb1
  have HB2 := Lib.hid hb2
  clear hb1 hb2 hg1 hsz
  go_upto_region 2 with (go_at_call 20; refine (HDR.out).mono ?_; rintro e w2 ⟨rfl, v2, ht2, hu2⟩; have HT2 := Lib.hid ht2; have HU2 := Lib.hid hu2; clear ht2 hu2)
  have HPV : Hid (∀ g6 w3, w2.heap.size ≤ g6 → Reg.Ext w2 w3 → Blk w3 g6 25 zT.cells → PV b g1 g6 x zT w v w3 v2 (Nmd.del nm (nm x) l) most) := Lib.hid (fun g6 w3 h6 hx3 hb6 => by
    have hs := HU2.out.size
    have hz := HSZ.out
    have hg := HG1.out
    have n1 : ∀ i, g1 ≤ i → i < g1 + 2 → ¬ TO b v2 i := fun i h1 h2 o => by
      rcases HU2.out.own i o with h3 | h3
      · have := HT0.out.lt h3; omega
      · omega
    refine ⟨HT2.out.ext hx3, ((TTurn.ext HX2.out).trans HU2.out).trans (TTurn.ext hx3), ?_, ?_, hb6, n1 g1 (by omega) (by omega), n1 (g1 + 1) (by omega) (by omega), fun o => by have := HT2.out.lt o; omega, by omega, by omega⟩
    · refine Blk.ext ((HU2.out.kept g1 (by omega) fun o => ?_).trans HB1.out) hx3
      have := HT0.out.lt o; omega
    · refine Blk.ext ((HU2.out.kept (g1 + 1) (by omega) fun o => ?_).trans HB2.out) hx3
      have := HT0.out.lt o; omega)
  have HLD := Lib.hid (del_len (nm x) l)
  have HNE : Hid (∀ y ∈ Nmd.del nm (nm x) l, nm y ≠ nm x) := Lib.hid fun y hy => (Nmd.mem_del.1 hy).2
  clear c0 c1 HT HX2 HDR HU2 HSZ HB1 HB2 HG1 HT2
  refine wp_region_lit ?_
  refine wpList_val rfl (.agg zT.cells.toArray) (by as_aux_lemma => kernel_rfl) ?_
  simp only [Act.put, Act.eval, List.setIfInBounds_toArray, List.set_cons_zero, List.set_cons_succ, Nat.reduceAdd, Array.getD_eq_getD_getElem?, List.getElem?_toArray, List.getElem?_cons_succ, List.getElem?_cons_zero, Option.getD_some]
  iterate 3 go_step
  rw [z38]
  obtain ⟨g6, hg6⟩ : ∃ g, (w2).heap.size = g := ⟨_, rfl⟩
  have hb0 := boxT w2 zT
  have hx0 := Reg.Ext.alloc w2 (Obj.cells zT.cells.toArray 25)
  rw [hg6] at hb0 ⊢
  generalize (w2).alloc (Obj.cells zT.cells.toArray 25) = wn at *
  refine wpList_store_mid rfl 25 _ _ rfl g6 0 zT.cells.toArray rfl ?_ (hb0.there _ (Nat.le_refl _)) sizeT (all_oneCell_toArray (T.one _)) ?_
  · rfl
  simp only [List.toList_toArray]
  simp only [Act.put, Act.eval, List.setIfInBounds_toArray, List.set_cons_zero, List.set_cons_succ, Nat.reduceAdd, Array.getD_eq_getD_getElem?, List.getElem?_toArray, List.getElem?_cons_succ, List.getElem?_cons_zero, Option.getD_some]
  have hb1 := hb0.setAll zT.cells rfl
  have hx1 := hx0.trans_but (But.setCells g6 zT.cells 0 wn) (by omega)
  have Hg6 := Lib.hid hg6
  clear hb0 hx0 hg6
  generalize wn.setCells g6 0 zT.cells = w3 at *
  have HV := Lib.hid (HPV.out g6 w3 (by have := Hg6.out; omega) hx1 hb1)
  generalize Nmd.del nm (nm x) l = l1 at *
  have hl1 : l1.length ≤ 900 := by have := HLD.out; omega
  clear hb1 hx1 HPV Hg6
  obtain ⟨A2, cap2, hv2⟩ := HV.out.tb.row.slice
  subst hv2
  have c0 := HV.out.tb.c.1
  have c1 := HV.out.tb.c.2
  have qf : decide (most ≤ (l1.length : Int)) = full := by
    rcases HF.out with ⟨rfl, h1, _⟩ | ⟨rfl, h1, _⟩
    · exact decide_eq_false (by omega)
    · exact decide_eq_true h1
  go_upto_region 3 with (fail)
  go_quiet (fail)
  have HV := Lib.hid (HV.out.ext (Reg.Ext.drewN w3 nq))
  generalize w3.drewN nq = w4 at *
  clear c0 c1
  go_upto_if 30 with (fail)
  have HZD : Hid ((o.getD zT).dig.length = 32) := Lib.hid (by
    rcases HF.out with ⟨_, _, rfl, _⟩ | ⟨_, _, gz, ho, rfl, _⟩
    · rfl
    · exact HV.out.tb.fit gz (oldest_mem ho))
  go_cut [8, 9] (fun _ _ wx => ∃ v3, Hid (PV b g1 g6 x (o.getD zT) w v wx v3 l2 most))
  case first =>
    rcases HF.out with ⟨rfl, _, rfl, rfl⟩ | ⟨rfl, hml, gz, ho, rfl, rfl⟩
    · clear qf
      go_wp2_with fail
      go_meet
      exact ⟨_, HV⟩
    · have HGZ := Lib.hid ho
      have hl0 : 0 < l1.length := by omega
      clear qf ho HF
      go_wp2_with fail
      go_loopw [8, 9] (fun kv iv wr => ∃ kk m : Nat, kv = .int .i64 (kk : Int) ∧ iv = .int .i64 (m : Int) ∧ m ≤ l1.length ∧ Hid (AtI l1 m kk) ∧ Hid (Reg.Ext w4 wr)) (fun _ iv _ => l1.length - (intOf iv).toNat)
      case atStart => exact ⟨0, 0, rfl, rfl, Nat.zero_le _, Lib.hid ⟨hl0, .inl ⟨rfl, rfl⟩⟩, Lib.hid (Reg.Ext.refl _)⟩
      case round =>
        obtain ⟨kk, m, rfl, rfl, hm, HAT, HX⟩ := hrel
        have c0 := (HV.out.ext HX.out).tb.c.1
        obtain ⟨hkk, -⟩ := HAT.out
        by_cases hml : m < l1.length
        · rcases HV.out.tb.row.form with ⟨_, e1⟩ | ⟨g, cap1, e1, _, _, _, _⟩
          · rw [e1] at hml; exact absurd hml (Nat.not_lt_zero _)
          injection e1 with e1 hh e2
          clear hh
          subst e1 e2
          have d1 : wr.cell? ⟨g, m * 38 + 37, none⟩ = some (.int .i64 l1[m].at_) := HX.out.at_ ((HV.out.tb.row.at_ HV.out.tb.fit m hml 37 (by omega)).trans (at37 _ (HV.out.tb.fit _ (List.getElem_mem hml))))
          have d2 : wr.cell? ⟨g, kk * 38 + 37, none⟩ = some (.int .i64 l1[kk].at_) := HX.out.at_ ((HV.out.tb.row.at_ HV.out.tb.fit kk hkk 37 (by omega)).trans (at37 _ (HV.out.tb.fit _ (List.getElem_mem hkk))))
          have HL := Lib.hid (fun hlt => HAT.out.less hml hlt)
          have HM := Lib.hid (fun hlt => HAT.out.more hml hlt)
          by_cases hlt : l1[m].at_ < l1[kk].at_
          · have HA2 := Lib.hid (HL.out fun _ => hlt)
            have qt : decide (l1[m].at_ < l1[kk].at_) = true := decide_eq_true hlt
            clear hlt HL HM
            generalize l1[m].at_ = z1 at *
            generalize l1[kk].at_ = z2 at *
            go_wp2_with fail
            go_quiet (fail)
            have HX := Lib.hid (HX.out.trans (Reg.Ext.drewN wr nq))
            generalize wr.drewN nq = wq at *
            clear c0 d1 d2
            go_wp2_with fail
            go_roundw
            case rel => exact ⟨m, m + 1, by go_num, by go_num, by omega, HA2, HX⟩
            case measure => simp [intOf]; omega
          · have HA2 := Lib.hid (HM.out fun _ => hlt)
            have qt : decide (l1[m].at_ < l1[kk].at_) = false := decide_eq_false hlt
            clear hlt HL HM
            generalize l1[m].at_ = z1 at *
            generalize l1[kk].at_ = z2 at *
            go_wp2_with fail
            go_quiet (fail)
            have HX := Lib.hid (HX.out.trans (Reg.Ext.drewN wr nq))
            generalize wr.drewN nq = wq at *
            clear c0 d1 d2
            go_wp2_with fail
            go_roundw
            case rel => exact ⟨kk, m + 1, by go_num, by go_num, by omega, HA2, HX⟩
            case measure => simp [intOf]; omega
        · have hme : m = l1.length := by omega
          subst hme
          rcases HV.out.tb.row.form with ⟨_, e1⟩ | ⟨g, cap1, e1, _, _, _, _⟩
          · rw [e1] at hl0; exact absurd hl0 (Nat.not_lt_zero _)
          injection e1 with e1 hh e2
          clear hh
          subst e1 e2
          have hgz : gz = l1[kk] := by
            obtain ⟨hk2, h2⟩ := HAT.out.end_
            have := HGZ.out
            rw [h2] at this
            injection this with this
            exact this.symm
          have HRG := Lib.hid (rng_ext (HV.out.tb.row.range HV.out.tb.fit kk hkk) HX.out)
          have HYD := Lib.hid (HV.out.tb.fit _ (List.getElem_mem hkk))
          have HV5 := Lib.hid (HV.out.ext HX.out)
          rw [← hgz] at HRG HYD
          clear hgz HAT
          go_upto_region 11 with (fail)
          refine wp_region_lit ?_
          iterate 18 go_step
          refine wpList_ldm rfl 25 (.tmp 63) rfl g (kk * 38) rfl gz.cells _ HRG undT (by rw [gz.len HYD.out]; exact sizeT) ?_
          simp only [Act.put, Act.eval, List.setIfInBounds_toArray, List.set_cons_zero, List.set_cons_succ, Nat.reduceAdd, Array.getD_eq_getD_getElem?, List.getElem?_toArray, List.getElem?_cons_succ, List.getElem?_cons_zero, Option.getD_some]
          refine wpList_store_mid rfl 25 _ _ rfl g6 0 (gz).cells.toArray rfl ?_ ((HV5.out.b6).there _ (by have e1 := (gz).len HYD.out; have e2 := (zT).len rfl; rw [List.size_toArray]; omega)) (by rw [List.size_toArray, (gz).len HYD.out]; exact sizeT) (all_oneCell_toArray (T.one _)) ?_
          · rfl
          simp only [List.toList_toArray]
          simp only [Act.put, Act.eval, List.setIfInBounds_toArray, List.set_cons_zero, List.set_cons_succ, Nat.reduceAdd, Array.getD_eq_getD_getElem?, List.getElem?_toArray, List.getElem?_cons_succ, List.getElem?_cons_zero, Option.getD_some]
          have HV6 := Lib.hid (HV5.out.gone gz HYD.out rfl)
          generalize wr.setCells g6 0 gz.cells = w6 at *
          have HDR := Lib.hid (dropR_any HV6.out.tb (by omega : l1.length ≤ 1000) gz.repo gz.tag)
          have c60 : w6.cell? ⟨g6, 0, none⟩ = some (.string ⟨gz.repo.toArray⟩) := HV6.out.b6.cell 0
          have c61 : w6.cell? ⟨g6, 1, none⟩ = some (.string ⟨gz.tag.toArray⟩) := HV6.out.b6.cell 1
          clear HRG c0
          go_wp2_with (go_at_call 20; refine (HDR.out).mono ?_; rintro e w7 ⟨rfl, v7, ht7, hu7⟩; have HV7 := Lib.hid (HV6.out.step hu7 ht7); clear ht7 hu7)
          go_meet
          exact ⟨_, HV7⟩
  case rest =>
    obtain ⟨v3, HV⟩ := hcut
    obtain rfl := HF.out.is
    have hl2 : l2.length ≤ 900 := by have := HF.out.sub.2; omega
    have HNE := Lib.hid (fun y hy => HNE.out y (HF.out.sub.1 y hy))
    have HFT : Hid (Fit (Nmd.ins nm x l2)) := Lib.hid (fun y hy => by
      rcases Nmd.mem_ins.1 hy with rfl | hy
      · exact HXD.out
      · exact HV.out.tb.fit y hy)
    clear HF qf
    obtain ⟨A3, cap3, hv3⟩ := HV.out.tb.row.slice
    subst hv3
    have HN := Lib.hid (TOw.new (Reg.Ext.refl wc))
    go_wp2_with fail
    go_loopw [10, 11, 12] (fun ov dv iv wr => ∃ (k : Nat) (dn : Bool) (out : List T), iv = .int .i64 (k : Int) ∧ k ≤ l2.length ∧ dv = .bool dn ∧ Hid (PutI x l2 k dn out) ∧ Hid (TOw wc wr ov out)) (fun _ _ iv _ => l2.length - (intOf iv).toNat)
    case atStart => exact ⟨0, false, [], rfl, Nat.zero_le _, rfl, Lib.hid ⟨rfl, fun y hy => by cases hy⟩, HN⟩
    clear HN
    case round =>
      obtain ⟨k, dn, out, rfl, hk, rfl, HP, HO⟩ := hrel
      have c0 := (HV.out.ext HO.out.2).tb.c.1
      have hlen := HP.out.len
      by_cases hkl : k < l2.length
      · rcases HV.out.tb.row.form with ⟨_, e1⟩ | ⟨g, cap1, e1, _, _, _, _⟩
        · rw [e1] at hkl; exact absurd hkl (Nat.not_lt_zero _)
        injection e1 with e1 hh e2
        clear hh
        subst e1 e2
        have HRG := Lib.hid (HV.out.tb.row.range HV.out.tb.fit k hkl)
        have HYD := Lib.hid (HV.out.tb.fit _ (List.getElem_mem hkl))
        have hne := HNE.out _ (List.getElem_mem hkl)
        cases dn with
        | true =>
          have HP2 := Lib.hid (PutI.keep hkl HP.out)
          clear hne
          generalize l2[k] = y at *
          go_wp2_with fail
          go_quiet (fail)
          have HO2 := Lib.hid (HO.out.later (Reg.Ext.drewN wr nq))
          generalize wr.drewN nq = wq at *
          have c0 := (HV.out.ext HO2.out.2).tb.c.1
          go_upto_region 21 with (fail)
          refine wp_region_lit ?_
          iterate 21 go_step
          refine wpList_ldm rfl 25 (.tmp 104) rfl g (k * 38) rfl y.cells _ (Lib.hid (rng_ext HRG.out (HO2).out.2)) undT (by rw [y.len HYD.out]; exact sizeT) ?_
          simp only [Act.put, Act.eval, List.setIfInBounds_toArray, List.set_cons_zero, List.set_cons_succ, Nat.reduceAdd, Array.getD_eq_getD_getElem?, List.getElem?_toArray, List.getElem?_cons_succ, List.getElem?_cons_zero, Option.getD_some]
          refine one_ticket rfl (.tmp 105) rfl y rfl HYD.out wq ?_
          simp only [Act.put, Act.eval, List.setIfInBounds_toArray, List.set_cons_zero, List.set_cons_succ, Nat.reduceAdd, Array.getD_eq_getD_getElem?, List.getElem?_toArray, List.getElem?_cons_succ, List.getElem?_cons_zero, Option.getD_some]
          refine TOw.push rfl (.tmp 98) (.tmp 106) rfl wc _ u10 _ y HYD.out (wq).heap.size rfl ((HO2).out.later (Reg.Ext.alloc _ _)) rfl (boxT wq y) (by omega) ?_
          intro v6 w6 ho6
          have HO6 := Lib.hid ho6
          clear ho6 c0
          simp only [Act.put, Act.eval, List.setIfInBounds_toArray, List.set_cons_zero, List.set_cons_succ, Nat.reduceAdd, Array.getD_eq_getD_getElem?, List.getElem?_toArray, List.getElem?_cons_succ, List.getElem?_cons_zero, Option.getD_some]
          go_wp2_with fail
          go_roundw
          case rel => exact ⟨k + 1, true, _, by go_num, by omega, rfl, HP2, HO6⟩
          case measure => simp [intOf]; omega
        | false =>
          have hlen2 : out.length ≤ l2.length := by rw [HP.out.1, List.length_take]; omega
          by_cases hlt : nm l2[k] < nm x
          · have HP2 := Lib.hid (PutI.below hkl hlt HP.out)
            have qa : decide (nm x < nm l2[k]) = false := decide_eq_false (fun h2 => List.lt_irrefl _ (List.lt_trans hlt h2))
            clear hne hlt
            generalize l2[k] = y at *
            go_upto_region 18 with (fail)
            clear c0
            refine Ordl.begins (S := fun w' => Reg.Ext (wr).drew w') (z := 99) (by kernel_rfl) ?_
            refine Ordl.Bx.out (?_ : Ordl.Bx (Ordl.Any _ _ _ _ _ _ _ _ _ _))
            have X0 : Reg.Ext (wr).drew (wr).drew := Reg.Ext.refl _
            have HO4 := Lib.hid (HO.out.later (Reg.Ext.drew wr))
            clear HO
            generalize wr.drew = w4x at *
            have HVd := Lib.hid (HV.out.ext HO4.out.2)
            have HRd := Lib.hid (rng_ext HRG.out HO4.out.2)
            have d0 := HVd.out.tb.c.1
            refine Ordl.take (i := 0) (v := .bool false) rfl (by kernel_rfl) (by kernel_rfl) (by kernel_rfl) (by kernel_rfl) (fun _ _ _ h => h) (.inl ⟨by kernel_rfl, fun w _ => by as_aux_lemma => kernel_rfl⟩) X0 ?_
            simp only [List.getElem_toArray, List.getElem_cons_succ, List.getElem_cons_zero, Act.put, Act.eval, List.setIfInBounds_toArray, List.set_cons_zero, List.set_cons_succ, Nat.reduceAdd, Array.getD_eq_getD_getElem?, List.getElem?_toArray, List.getElem?_cons_succ, List.getElem?_cons_zero, Option.getD_some]
            refine Ordl.take (i := 1) (v := .bool true) rfl (by kernel_rfl) (by kernel_rfl) (by kernel_rfl) (by kernel_rfl) (fun _ _ _ h => h) (.inl ⟨by kernel_rfl, fun w _ => by as_aux_lemma => kernel_rfl⟩) X0 ?_
            simp only [List.getElem_toArray, List.getElem_cons_succ, List.getElem_cons_zero, Act.put, Act.eval, List.setIfInBounds_toArray, List.set_cons_zero, List.set_cons_succ, Nat.reduceAdd, Array.getD_eq_getD_getElem?, List.getElem?_toArray, List.getElem?_cons_succ, List.getElem?_cons_zero, Option.getD_some]
            refine Ordl.take (i := 2) (v := .bool true) rfl (by kernel_rfl) (by kernel_rfl) (by kernel_rfl) (by kernel_rfl) (fun _ _ _ h => h) (.inl ⟨by kernel_rfl, fun w _ => by as_aux_lemma => kernel_rfl⟩) X0 ?_
            simp only [List.getElem_toArray, List.getElem_cons_succ, List.getElem_cons_zero, Act.put, Act.eval, List.setIfInBounds_toArray, List.set_cons_zero, List.set_cons_succ, Nat.reduceAdd, Array.getD_eq_getD_getElem?, List.getElem?_toArray, List.getElem?_cons_succ, List.getElem?_cons_zero, Option.getD_some]
            refine Ordl.take (i := 3) (v := .agg (x).cells.toArray) rfl (by kernel_rfl) (by kernel_rfl) (by kernel_rfl) (by kernel_rfl) (fun _ _ _ h => h) (yieldsIf_load_mid (by kernel_rfl) 25 (.tmp 3) rfl g1 (0) (by kernel_rfl) (x).cells _ (fun w h => rng_ext (blk_rng HVd.out.bx) h) undT rfl (by rw [(x).len HXD.out]; exact sizeT)) X0 ?_
            simp only [List.getElem_toArray, List.getElem_cons_succ, List.getElem_cons_zero, Act.put, Act.eval, List.setIfInBounds_toArray, List.set_cons_zero, List.set_cons_succ, Nat.reduceAdd, Array.getD_eq_getD_getElem?, List.getElem?_toArray, List.getElem?_cons_succ, List.getElem?_cons_zero, Option.getD_some]
            refine Ordl.take (i := 4) (v := .pointer (some ⟨b, 0, none⟩)) rfl (by kernel_rfl) (by kernel_rfl) (by kernel_rfl) (by kernel_rfl) (fun _ _ _ h => h) (.inl ⟨by kernel_rfl, fun w _ => by as_aux_lemma => kernel_rfl⟩) X0 ?_
            simp only [List.getElem_toArray, List.getElem_cons_succ, List.getElem_cons_zero, Act.put, Act.eval, List.setIfInBounds_toArray, List.set_cons_zero, List.set_cons_succ, Nat.reduceAdd, Array.getD_eq_getD_getElem?, List.getElem?_toArray, List.getElem?_cons_succ, List.getElem?_cons_zero, Option.getD_some]
            refine Ordl.take (i := 5) (v := .pointer (some ⟨b, 0, none⟩)) rfl (by kernel_rfl) (by kernel_rfl) (by kernel_rfl) (by kernel_rfl) (fun _ _ _ h => h) (.inl ⟨by kernel_rfl, fun w _ => by as_aux_lemma => kernel_rfl⟩) X0 ?_
            simp only [List.getElem_toArray, List.getElem_cons_succ, List.getElem_cons_zero, Act.put, Act.eval, List.setIfInBounds_toArray, List.set_cons_zero, List.set_cons_succ, Nat.reduceAdd, Array.getD_eq_getD_getElem?, List.getElem?_toArray, List.getElem?_cons_succ, List.getElem?_cons_zero, Option.getD_some]
            refine Ordl.take (i := 6) (v := .pointer (some ⟨b, 0, none⟩)) rfl (by kernel_rfl) (by kernel_rfl) (by kernel_rfl) (by kernel_rfl) (fun _ _ _ h => h) (.inl ⟨by kernel_rfl, fun w _ => by as_aux_lemma => kernel_rfl⟩) X0 ?_
            simp only [List.getElem_toArray, List.getElem_cons_succ, List.getElem_cons_zero, Act.put, Act.eval, List.setIfInBounds_toArray, List.set_cons_zero, List.set_cons_succ, Nat.reduceAdd, Array.getD_eq_getD_getElem?, List.getElem?_toArray, List.getElem?_cons_succ, List.getElem?_cons_zero, Option.getD_some]
            refine Ordl.take (i := 7) (v := .slice (some ⟨g, 0, none⟩) l2.length cap3) rfl (by kernel_rfl) (by kernel_rfl) (by kernel_rfl) (by kernel_rfl) (fun _ _ _ h => h) (yields_load1 (by kernel_rfl) 42 (.tmp 87) rfl ⟨b, 0, none⟩ (by kernel_rfl) (.slice (some ⟨g, 0, none⟩) l2.length cap3) _ Tryd.underlying42 rfl (fun w h => h.at_ d0)) X0 ?_
            simp only [List.getElem_toArray, List.getElem_cons_succ, List.getElem_cons_zero, Act.put, Act.eval, List.setIfInBounds_toArray, List.set_cons_zero, List.set_cons_succ, Nat.reduceAdd, Array.getD_eq_getD_getElem?, List.getElem?_toArray, List.getElem?_cons_succ, List.getElem?_cons_zero, Option.getD_some]
            refine Ordl.take (i := 8) (v := .int .i64 (k : Int)) rfl (by kernel_rfl) (by kernel_rfl) (by kernel_rfl) (by kernel_rfl) (fun _ _ _ h => h) (.inl ⟨by kernel_rfl, fun w _ => by as_aux_lemma => kernel_rfl⟩) X0 ?_
            simp only [List.getElem_toArray, List.getElem_cons_succ, List.getElem_cons_zero, Act.put, Act.eval, List.setIfInBounds_toArray, List.set_cons_zero, List.set_cons_succ, Nat.reduceAdd, Array.getD_eq_getD_getElem?, List.getElem?_toArray, List.getElem?_cons_succ, List.getElem?_cons_zero, Option.getD_some]
            refine Ordl.take (i := 9) (v := .pointer (some ⟨g, k * 38, none⟩)) rfl (by kernel_rfl) (by kernel_rfl) (by kernel_rfl) (by kernel_rfl) (fun _ _ _ h => h) (.inl ⟨by kernel_rfl, fun w hS => exec_idxT (cap := cap3) (.tmp 88) (.tmp 89) rfl (by kernel_rfl) (by kernel_rfl) hkl w⟩) X0 ?_
            simp only [List.getElem_toArray, List.getElem_cons_succ, List.getElem_cons_zero, Act.put, Act.eval, List.setIfInBounds_toArray, List.set_cons_zero, List.set_cons_succ, Nat.reduceAdd, Array.getD_eq_getD_getElem?, List.getElem?_toArray, List.getElem?_cons_succ, List.getElem?_cons_zero, Option.getD_some]
            refine Ordl.take (i := 10) (v := .agg (y).cells.toArray) rfl (by kernel_rfl) (by kernel_rfl) (by kernel_rfl) (by kernel_rfl) (fun _ _ _ h => h) (yieldsIf_load_mid (by kernel_rfl) 25 (.tmp 90) rfl g (k * 38) (by kernel_rfl) (y).cells _ (fun w h => rng_ext HRd.out h) undT rfl (by rw [(y).len HYD.out]; exact sizeT)) X0 ?_
            simp only [List.getElem_toArray, List.getElem_cons_succ, List.getElem_cons_zero, Act.put, Act.eval, List.setIfInBounds_toArray, List.set_cons_zero, List.set_cons_succ, Nat.reduceAdd, Array.getD_eq_getD_getElem?, List.getElem?_toArray, List.getElem?_cons_succ, List.getElem?_cons_zero, Option.getD_some]
            refine Ordl.one (i := 11) (by kernel_rfl) rfl ?_
            refine ⟨?_⟩
            repeat go_step
            refine (ahead_any x y HXD.out HYD.out _).mono ?_
            rintro e w5 ⟨rfl, hx5⟩
            have HO5 := Lib.hid (HO4.out.later hx5)
            have X1 : Reg.Ext w4x w5 := hx5
            clear hx5 X0 HO4 HVd HRd d0
            rename_i hK
            refine hK _ _ ?_
            clear hK
            refine Ordl.Bx.out (?_ : Ordl.Bx _)
            refine Ordl.fin X1 ?_
            have X0 := X1
            rw [qa]
            refine Ordl.take (i := 12) (v := .bool false) rfl (by kernel_rfl) (by kernel_rfl) (by kernel_rfl) (by kernel_rfl) (fun _ _ _ h => h) (.inl ⟨by kernel_rfl, fun w _ => by as_aux_lemma => kernel_rfl⟩) X0 ?_
            simp only [List.getElem_toArray, List.getElem_cons_succ, List.getElem_cons_zero, Act.put, Act.eval, List.setIfInBounds_toArray, List.set_cons_zero, List.set_cons_succ, Nat.reduceAdd, Array.getD_eq_getD_getElem?, List.getElem?_toArray, List.getElem?_cons_succ, List.getElem?_cons_zero, Option.getD_some]
            refine Ordl.done (by kernel_rfl) ?_ _
            clear X0 X1 qa
            have c0 := (HV.out.ext HO5.out.2).tb.c.1
            go_upto_region 21 with (fail)
            refine wp_region_lit ?_
            iterate 21 go_step
            refine wpList_ldm rfl 25 (.tmp 104) rfl g (k * 38) rfl y.cells _ (Lib.hid (rng_ext HRG.out (HO5).out.2)) undT (by rw [y.len HYD.out]; exact sizeT) ?_
            simp only [Act.put, Act.eval, List.setIfInBounds_toArray, List.set_cons_zero, List.set_cons_succ, Nat.reduceAdd, Array.getD_eq_getD_getElem?, List.getElem?_toArray, List.getElem?_cons_succ, List.getElem?_cons_zero, Option.getD_some]
            refine one_ticket rfl (.tmp 105) rfl y rfl HYD.out w5 ?_
            simp only [Act.put, Act.eval, List.setIfInBounds_toArray, List.set_cons_zero, List.set_cons_succ, Nat.reduceAdd, Array.getD_eq_getD_getElem?, List.getElem?_toArray, List.getElem?_cons_succ, List.getElem?_cons_zero, Option.getD_some]
            refine TOw.push rfl (.tmp 98) (.tmp 106) rfl wc _ u10 _ y HYD.out (w5).heap.size rfl ((HO5).out.later (Reg.Ext.alloc _ _)) rfl (boxT w5 y) (by omega) ?_
            intro v6 w6 ho6
            have HO6 := Lib.hid ho6
            clear ho6 c0
            simp only [Act.put, Act.eval, List.setIfInBounds_toArray, List.set_cons_zero, List.set_cons_succ, Nat.reduceAdd, Array.getD_eq_getD_getElem?, List.getElem?_toArray, List.getElem?_cons_succ, List.getElem?_cons_zero, Option.getD_some]
            go_wp2_with fail
            go_roundw
            case rel => exact ⟨k + 1, false, _, by go_num, by omega, rfl, HP2, HO6⟩
            case measure => simp [intOf]; omega
          · have HP2 := Lib.hid (PutI.here hkl hlt HP.out)
            have qa : decide (nm x < nm l2[k]) = true := by rw [nm_ge hne, decide_eq_false hlt]; rfl
            clear hne hlt
            generalize l2[k] = y at *
            go_upto_region 18 with (fail)
            clear c0
            refine Ordl.begins (S := fun w' => Reg.Ext (wr).drew w') (z := 99) (by kernel_rfl) ?_
            refine Ordl.Bx.out (?_ : Ordl.Bx (Ordl.Any _ _ _ _ _ _ _ _ _ _))
            have X0 : Reg.Ext (wr).drew (wr).drew := Reg.Ext.refl _
            have HO4 := Lib.hid (HO.out.later (Reg.Ext.drew wr))
            clear HO
            generalize wr.drew = w4x at *
            have HVd := Lib.hid (HV.out.ext HO4.out.2)
            have HRd := Lib.hid (rng_ext HRG.out HO4.out.2)
            have d0 := HVd.out.tb.c.1
            refine Ordl.take (i := 0) (v := .bool false) rfl (by kernel_rfl) (by kernel_rfl) (by kernel_rfl) (by kernel_rfl) (fun _ _ _ h => h) (.inl ⟨by kernel_rfl, fun w _ => by as_aux_lemma => kernel_rfl⟩) X0 ?_
            simp only [List.getElem_toArray, List.getElem_cons_succ, List.getElem_cons_zero, Act.put, Act.eval, List.setIfInBounds_toArray, List.set_cons_zero, List.set_cons_succ, Nat.reduceAdd, Array.getD_eq_getD_getElem?, List.getElem?_toArray, List.getElem?_cons_succ, List.getElem?_cons_zero, Option.getD_some]
            refine Ordl.take (i := 1) (v := .bool true) rfl (by kernel_rfl) (by kernel_rfl) (by kernel_rfl) (by kernel_rfl) (fun _ _ _ h => h) (.inl ⟨by kernel_rfl, fun w _ => by as_aux_lemma => kernel_rfl⟩) X0 ?_
            simp only [List.getElem_toArray, List.getElem_cons_succ, List.getElem_cons_zero, Act.put, Act.eval, List.setIfInBounds_toArray, List.set_cons_zero, List.set_cons_succ, Nat.reduceAdd, Array.getD_eq_getD_getElem?, List.getElem?_toArray, List.getElem?_cons_succ, List.getElem?_cons_zero, Option.getD_some]
            refine Ordl.take (i := 2) (v := .bool true) rfl (by kernel_rfl) (by kernel_rfl) (by kernel_rfl) (by kernel_rfl) (fun _ _ _ h => h) (.inl ⟨by kernel_rfl, fun w _ => by as_aux_lemma => kernel_rfl⟩) X0 ?_
            simp only [List.getElem_toArray, List.getElem_cons_succ, List.getElem_cons_zero, Act.put, Act.eval, List.setIfInBounds_toArray, List.set_cons_zero, List.set_cons_succ, Nat.reduceAdd, Array.getD_eq_getD_getElem?, List.getElem?_toArray, List.getElem?_cons_succ, List.getElem?_cons_zero, Option.getD_some]
            refine Ordl.take (i := 3) (v := .agg (x).cells.toArray) rfl (by kernel_rfl) (by kernel_rfl) (by kernel_rfl) (by kernel_rfl) (fun _ _ _ h => h) (yieldsIf_load_mid (by kernel_rfl) 25 (.tmp 3) rfl g1 (0) (by kernel_rfl) (x).cells _ (fun w h => rng_ext (blk_rng HVd.out.bx) h) undT rfl (by rw [(x).len HXD.out]; exact sizeT)) X0 ?_
            simp only [List.getElem_toArray, List.getElem_cons_succ, List.getElem_cons_zero, Act.put, Act.eval, List.setIfInBounds_toArray, List.set_cons_zero, List.set_cons_succ, Nat.reduceAdd, Array.getD_eq_getD_getElem?, List.getElem?_toArray, List.getElem?_cons_succ, List.getElem?_cons_zero, Option.getD_some]
            refine Ordl.take (i := 4) (v := .pointer (some ⟨b, 0, none⟩)) rfl (by kernel_rfl) (by kernel_rfl) (by kernel_rfl) (by kernel_rfl) (fun _ _ _ h => h) (.inl ⟨by kernel_rfl, fun w _ => by as_aux_lemma => kernel_rfl⟩) X0 ?_
            simp only [List.getElem_toArray, List.getElem_cons_succ, List.getElem_cons_zero, Act.put, Act.eval, List.setIfInBounds_toArray, List.set_cons_zero, List.set_cons_succ, Nat.reduceAdd, Array.getD_eq_getD_getElem?, List.getElem?_toArray, List.getElem?_cons_succ, List.getElem?_cons_zero, Option.getD_some]
            refine Ordl.take (i := 5) (v := .pointer (some ⟨b, 0, none⟩)) rfl (by kernel_rfl) (by kernel_rfl) (by kernel_rfl) (by kernel_rfl) (fun _ _ _ h => h) (.inl ⟨by kernel_rfl, fun w _ => by as_aux_lemma => kernel_rfl⟩) X0 ?_
            simp only [List.getElem_toArray, List.getElem_cons_succ, List.getElem_cons_zero, Act.put, Act.eval, List.setIfInBounds_toArray, List.set_cons_zero, List.set_cons_succ, Nat.reduceAdd, Array.getD_eq_getD_getElem?, List.getElem?_toArray, List.getElem?_cons_succ, List.getElem?_cons_zero, Option.getD_some]
            refine Ordl.take (i := 6) (v := .pointer (some ⟨b, 0, none⟩)) rfl (by kernel_rfl) (by kernel_rfl) (by kernel_rfl) (by kernel_rfl) (fun _ _ _ h => h) (.inl ⟨by kernel_rfl, fun w _ => by as_aux_lemma => kernel_rfl⟩) X0 ?_
            simp only [List.getElem_toArray, List.getElem_cons_succ, List.getElem_cons_zero, Act.put, Act.eval, List.setIfInBounds_toArray, List.set_cons_zero, List.set_cons_succ, Nat.reduceAdd, Array.getD_eq_getD_getElem?, List.getElem?_toArray, List.getElem?_cons_succ, List.getElem?_cons_zero, Option.getD_some]
            refine Ordl.take (i := 7) (v := .slice (some ⟨g, 0, none⟩) l2.length cap3) rfl (by kernel_rfl) (by kernel_rfl) (by kernel_rfl) (by kernel_rfl) (fun _ _ _ h => h) (yields_load1 (by kernel_rfl) 42 (.tmp 87) rfl ⟨b, 0, none⟩ (by kernel_rfl) (.slice (some ⟨g, 0, none⟩) l2.length cap3) _ Tryd.underlying42 rfl (fun w h => h.at_ d0)) X0 ?_
            simp only [List.getElem_toArray, List.getElem_cons_succ, List.getElem_cons_zero, Act.put, Act.eval, List.setIfInBounds_toArray, List.set_cons_zero, List.set_cons_succ, Nat.reduceAdd, Array.getD_eq_getD_getElem?, List.getElem?_toArray, List.getElem?_cons_succ, List.getElem?_cons_zero, Option.getD_some]
            refine Ordl.take (i := 8) (v := .int .i64 (k : Int)) rfl (by kernel_rfl) (by kernel_rfl) (by kernel_rfl) (by kernel_rfl) (fun _ _ _ h => h) (.inl ⟨by kernel_rfl, fun w _ => by as_aux_lemma => kernel_rfl⟩) X0 ?_
            simp only [List.getElem_toArray, List.getElem_cons_succ, List.getElem_cons_zero, Act.put, Act.eval, List.setIfInBounds_toArray, List.set_cons_zero, List.set_cons_succ, Nat.reduceAdd, Array.getD_eq_getD_getElem?, List.getElem?_toArray, List.getElem?_cons_succ, List.getElem?_cons_zero, Option.getD_some]
            refine Ordl.take (i := 9) (v := .pointer (some ⟨g, k * 38, none⟩)) rfl (by kernel_rfl) (by kernel_rfl) (by kernel_rfl) (by kernel_rfl) (fun _ _ _ h => h) (.inl ⟨by kernel_rfl, fun w hS => exec_idxT (cap := cap3) (.tmp 88) (.tmp 89) rfl (by kernel_rfl) (by kernel_rfl) hkl w⟩) X0 ?_
            simp only [List.getElem_toArray, List.getElem_cons_succ, List.getElem_cons_zero, Act.put, Act.eval, List.setIfInBounds_toArray, List.set_cons_zero, List.set_cons_succ, Nat.reduceAdd, Array.getD_eq_getD_getElem?, List.getElem?_toArray, List.getElem?_cons_succ, List.getElem?_cons_zero, Option.getD_some]
            refine Ordl.take (i := 10) (v := .agg (y).cells.toArray) rfl (by kernel_rfl) (by kernel_rfl) (by kernel_rfl) (by kernel_rfl) (fun _ _ _ h => h) (yieldsIf_load_mid (by kernel_rfl) 25 (.tmp 90) rfl g (k * 38) (by kernel_rfl) (y).cells _ (fun w h => rng_ext HRd.out h) undT rfl (by rw [(y).len HYD.out]; exact sizeT)) X0 ?_
            simp only [List.getElem_toArray, List.getElem_cons_succ, List.getElem_cons_zero, Act.put, Act.eval, List.setIfInBounds_toArray, List.set_cons_zero, List.set_cons_succ, Nat.reduceAdd, Array.getD_eq_getD_getElem?, List.getElem?_toArray, List.getElem?_cons_succ, List.getElem?_cons_zero, Option.getD_some]
            refine Ordl.one (i := 11) (by kernel_rfl) rfl ?_
            refine ⟨?_⟩
            repeat go_step
            refine (ahead_any x y HXD.out HYD.out _).mono ?_
            rintro e w5 ⟨rfl, hx5⟩
            have HO5 := Lib.hid (HO4.out.later hx5)
            have X1 : Reg.Ext w4x w5 := hx5
            clear hx5 X0 HO4 HVd HRd d0
            rename_i hK
            refine hK _ _ ?_
            clear hK
            refine Ordl.Bx.out (?_ : Ordl.Bx _)
            refine Ordl.fin X1 ?_
            have X0 := X1
            rw [qa]
            refine Ordl.take (i := 12) (v := .bool true) rfl (by kernel_rfl) (by kernel_rfl) (by kernel_rfl) (by kernel_rfl) (fun _ _ _ h => h) (.inl ⟨by kernel_rfl, fun w _ => by as_aux_lemma => kernel_rfl⟩) X0 ?_
            simp only [List.getElem_toArray, List.getElem_cons_succ, List.getElem_cons_zero, Act.put, Act.eval, List.setIfInBounds_toArray, List.set_cons_zero, List.set_cons_succ, Nat.reduceAdd, Array.getD_eq_getD_getElem?, List.getElem?_toArray, List.getElem?_cons_succ, List.getElem?_cons_zero, Option.getD_some]
            refine Ordl.done (by kernel_rfl) ?_ _
            clear X0 X1 qa
            have c0 := (HV.out.ext HO5.out.2).tb.c.1
            go_upto_region 19 with (fail)
            refine wp_region_lit ?_
            iterate 3 go_step
            refine wpList_ldm rfl 25 (.tmp 3) rfl g1 0 rfl x.cells _ (Lib.hid (blk_rng ((HV.out.ext (HO5).out.2).bx))) undT (by rw [x.len HXD.out]; exact sizeT) ?_
            simp only [Act.put, Act.eval, List.setIfInBounds_toArray, List.set_cons_zero, List.set_cons_succ, Nat.reduceAdd, Array.getD_eq_getD_getElem?, List.getElem?_toArray, List.getElem?_cons_succ, List.getElem?_cons_zero, Option.getD_some]
            refine one_ticket rfl (.tmp 95) rfl x rfl HXD.out w5 ?_
            simp only [Act.put, Act.eval, List.setIfInBounds_toArray, List.set_cons_zero, List.set_cons_succ, Nat.reduceAdd, Array.getD_eq_getD_getElem?, List.getElem?_toArray, List.getElem?_cons_succ, List.getElem?_cons_zero, Option.getD_some]
            refine TOw.push rfl (.tmp 94) (.tmp 96) rfl wc _ u10 _ x HXD.out (w5).heap.size rfl ((HO5).out.later (Reg.Ext.alloc _ _)) rfl (boxT w5 x) (by omega) ?_
            intro v8 w8 ho8
            have HO8 := Lib.hid ho8
            clear ho8 c0
            simp only [Act.put, Act.eval, List.setIfInBounds_toArray, List.set_cons_zero, List.set_cons_succ, Nat.reduceAdd, Array.getD_eq_getD_getElem?, List.getElem?_toArray, List.getElem?_cons_succ, List.getElem?_cons_zero, Option.getD_some]
            have c0 := (HV.out.ext HO8.out.2).tb.c.1
            have hlen3 : (out ++ [x]).length ≤ 1000 := by rw [List.length_append]; show out.length + 1 ≤ 1000; omega
            go_upto_region 21 with (fail)
            refine wp_region_lit ?_
            iterate 21 go_step
            refine wpList_ldm rfl 25 (.tmp 104) rfl g (k * 38) rfl y.cells _ (Lib.hid (rng_ext HRG.out (HO8).out.2)) undT (by rw [y.len HYD.out]; exact sizeT) ?_
            simp only [Act.put, Act.eval, List.setIfInBounds_toArray, List.set_cons_zero, List.set_cons_succ, Nat.reduceAdd, Array.getD_eq_getD_getElem?, List.getElem?_toArray, List.getElem?_cons_succ, List.getElem?_cons_zero, Option.getD_some]
            refine one_ticket rfl (.tmp 105) rfl y rfl HYD.out w8 ?_
            simp only [Act.put, Act.eval, List.setIfInBounds_toArray, List.set_cons_zero, List.set_cons_succ, Nat.reduceAdd, Array.getD_eq_getD_getElem?, List.getElem?_toArray, List.getElem?_cons_succ, List.getElem?_cons_zero, Option.getD_some]
            refine TOw.push rfl (.tmp 98) (.tmp 106) rfl wc _ v8 _ y HYD.out (w8).heap.size rfl ((HO8).out.later (Reg.Ext.alloc _ _)) rfl (boxT w8 y) hlen3 ?_
            intro v6 w6 ho6
            have HO6 := Lib.hid ho6
            clear ho6 c0
            simp only [Act.put, Act.eval, List.setIfInBounds_toArray, List.set_cons_zero, List.set_cons_succ, Nat.reduceAdd, Array.getD_eq_getD_getElem?, List.getElem?_toArray, List.getElem?_cons_succ, List.getElem?_cons_zero, Option.getD_some]
            go_wp2_with fail
            go_roundw
            case rel => exact ⟨k + 1, true, _, by go_num, by omega, rfl, HP2, HO6⟩
            case measure => simp [intOf]; omega
      · have hke : k = l2.length := by omega
        subst hke
        cases dn with
        | true =>
          have HOE := HP.out.done
          rw [HOE] at HO
          clear HOE hlen HP
          obtain ⟨k1, k2⟩ := HV.out.tb.shut (HO).out HFT.out
          have HV9 := Lib.hid (HV.out.step k2 k1)
          obtain ⟨A9, cap9, hv9⟩ := (HO).out.1.slice
          have f0 := (HV.out.tb.ext (HO).out.2).blk.frozen 0
          clear k1 k2 HFT
          generalize Nmd.ins nm x l2 = lz at *
          subst hv9
          go_upto_region 25 with (fail)
          generalize World.setCell wr _ _ = w9 at *
          clear c0 f0
          refine wp_region_lit ?_
          refine wpList_ldm rfl 25 (.tmp 6) rfl g6 0 rfl (o.getD zT).cells _ (Lib.hid (blk_rng HV9.out.b6)) undT (by rw [(o.getD zT).len HZD.out]; exact sizeT) ?_
          simp only [Act.put, Act.eval, List.setIfInBounds_toArray, List.set_cons_zero, List.set_cons_succ, Nat.reduceAdd, Array.getD_eq_getD_getElem?, List.getElem?_toArray, List.getElem?_cons_succ, List.getElem?_cons_zero, Option.getD_some]
          iterate 3 go_step
          obtain ⟨m1, m2, m3⟩ := HV9.out.done (o.getD zT) HZD.out
          refine wpList_store_mid rfl 25 _ _ rfl (g1 + 1) 0 ((o.getD zT)).cells.toArray rfl ?_ ((HV9.out.bz).there _ (by have e1 := ((o.getD zT)).len HZD.out; have e2 := (zT).len rfl; rw [List.size_toArray]; omega)) (by rw [List.size_toArray, ((o.getD zT)).len HZD.out]; exact sizeT) (all_oneCell_toArray (T.one _)) ?_
          · rfl
          simp only [List.toList_toArray]
          simp only [Act.put, Act.eval, List.setIfInBounds_toArray, List.set_cons_zero, List.set_cons_succ, Nat.reduceAdd, Array.getD_eq_getD_getElem?, List.getElem?_toArray, List.getElem?_cons_succ, List.getElem?_cons_zero, Option.getD_some]
          have HM1 := Lib.hid m1
          have HM2 := Lib.hid m2
          have HM3 := Lib.hid m3
          clear m1 m2 m3
          generalize w9.setCells (g1 + 1) 0 (o.getD zT).cells = w10 at *
          go_wp2_with fail
          exact bodyPost_ret (results_tk rfl _ _ (g1 + 1) 25 (o.getD zT).cells.toArray (0, 0) rfl HM3.out (by rw [List.size_toArray, (o.getD zT).len HZD.out]; exact sizeT)) rfl ⟨rfl, _, HM1.out, HM2.out⟩
        | false =>
          have HOE := HP.out.last
          clear HP
          go_upto_region 23 with (fail)
          refine wp_region_lit ?_
          iterate 3 go_step
          refine wpList_ldm rfl 25 (.tmp 3) rfl g1 0 rfl x.cells _ (Lib.hid (blk_rng ((HV.out.ext (HO).out.2).bx))) undT (by rw [x.len HXD.out]; exact sizeT) ?_
          simp only [Act.put, Act.eval, List.setIfInBounds_toArray, List.set_cons_zero, List.set_cons_succ, Nat.reduceAdd, Array.getD_eq_getD_getElem?, List.getElem?_toArray, List.getElem?_cons_succ, List.getElem?_cons_zero, Option.getD_some]
          refine one_ticket rfl (.tmp 111) rfl x rfl HXD.out wr ?_
          simp only [Act.put, Act.eval, List.setIfInBounds_toArray, List.set_cons_zero, List.set_cons_succ, Nat.reduceAdd, Array.getD_eq_getD_getElem?, List.getElem?_toArray, List.getElem?_cons_succ, List.getElem?_cons_zero, Option.getD_some]
          refine TOw.push rfl (.tmp 110) (.tmp 112) rfl wc _ u10 _ x HXD.out (wr).heap.size rfl ((HO).out.later (Reg.Ext.alloc _ _)) rfl (boxT wr x) (by omega) ?_
          intro v8 w8 ho8
          have HO8 := Lib.hid ho8
          clear ho8 c0
          simp only [Act.put, Act.eval, List.setIfInBounds_toArray, List.set_cons_zero, List.set_cons_succ, Nat.reduceAdd, Array.getD_eq_getD_getElem?, List.getElem?_toArray, List.getElem?_cons_succ, List.getElem?_cons_zero, Option.getD_some]
          rw [HOE] at HO8
          clear HOE hlen
          have c0 := (HV.out.ext HO8.out.2).tb.c.1
          obtain ⟨k1, k2⟩ := HV.out.tb.shut (HO8).out HFT.out
          have HV9 := Lib.hid (HV.out.step k2 k1)
          obtain ⟨A9, cap9, hv9⟩ := (HO8).out.1.slice
          have f0 := (HV.out.tb.ext (HO8).out.2).blk.frozen 0
          clear k1 k2 HFT
          generalize Nmd.ins nm x l2 = lz at *
          subst hv9
          go_upto_region 25 with (fail)
          generalize World.setCell w8 _ _ = w9 at *
          clear c0 f0
          refine wp_region_lit ?_
          refine wpList_ldm rfl 25 (.tmp 6) rfl g6 0 rfl (o.getD zT).cells _ (Lib.hid (blk_rng HV9.out.b6)) undT (by rw [(o.getD zT).len HZD.out]; exact sizeT) ?_
          simp only [Act.put, Act.eval, List.setIfInBounds_toArray, List.set_cons_zero, List.set_cons_succ, Nat.reduceAdd, Array.getD_eq_getD_getElem?, List.getElem?_toArray, List.getElem?_cons_succ, List.getElem?_cons_zero, Option.getD_some]
          iterate 3 go_step
          obtain ⟨m1, m2, m3⟩ := HV9.out.done (o.getD zT) HZD.out
          refine wpList_store_mid rfl 25 _ _ rfl (g1 + 1) 0 ((o.getD zT)).cells.toArray rfl ?_ ((HV9.out.bz).there _ (by have e1 := ((o.getD zT)).len HZD.out; have e2 := (zT).len rfl; rw [List.size_toArray]; omega)) (by rw [List.size_toArray, ((o.getD zT)).len HZD.out]; exact sizeT) (all_oneCell_toArray (T.one _)) ?_
          · rfl
          simp only [List.toList_toArray]
          simp only [Act.put, Act.eval, List.setIfInBounds_toArray, List.set_cons_zero, List.set_cons_succ, Nat.reduceAdd, Array.getD_eq_getD_getElem?, List.getElem?_toArray, List.getElem?_cons_succ, List.getElem?_cons_zero, Option.getD_some]
          have HM1 := Lib.hid m1
          have HM2 := Lib.hid m2
          have HM3 := Lib.hid m3
          clear m1 m2 m3
          generalize w9.setCells (g1 + 1) 0 (o.getD zT).cells = w10 at *
          go_wp2_with fail
          exact bodyPost_ret (results_tk rfl _ _ (g1 + 1) 25 (o.getD zT).cells.toArray (0, 0) rfl HM3.out (by rw [List.size_toArray, (o.getD zT).len HZD.out]; exact sizeT)) rfl ⟨rfl, _, HM1.out, HM2.out⟩
theorem putR_any {p : P} (h : Tb 44 w b v p.l p.most) (hp : Good p) (hl : p.most ≤ 64) (x : T) (hx : x.dig.length = 32) :
    Calls Tryd.prog 16 #[.pointer (some ⟨b, 0, none⟩), .agg x.cells.toArray] w (ResU b w v (p.put x).1 (p.put x).2.l p.most) := by
  have hle : p.l.length ≤ 900 := by have := hp.most; omega
  rcases put_doc hp x with ⟨h1, h2⟩ | ⟨h1, g, h2, h3⟩
  · rw [h2]
    exact putR_some h hle x hx hp.pos (.inl ⟨rfl, h1, rfl, rfl⟩)
  · rw [h3]
    exact putR_some h hle x hx hp.pos (.inr ⟨rfl, h1, g, h2, rfl, rfl⟩)
end
end Tk
end Go.Proofs.YtcfdlfedmbmidaaDoor

/- Made by merge.py from: PlkH PlkI PlkJ PlkK PlkL PlkO. -/
import Derived.Test.YtafeealbdpmdkaaGreatDoorPkB
set_option linter.unusedSimpArgs false
set_option linter.unusedVariables false
set_option linter.unusedSectionVars false
set_option maxRecDepth 100000
/- Arm, Sync, Append. -/
open Go.Lib renaming hid → y_
-- squeezed
namespace Go.Proofs.YtafeealbdpmdkaaGreatDoor
open Go Go.RowKit
namespace Plk
set_option maxHeartbeats 1000000 in
theorem arm_any (W : World) (d mp : Nat) (es : List E) (s : H) (hD : Dk W d mp es s) (x k m : Int) (h0 : 0 ≤ s.ops) (h1 : s.ops < 4611686018427387904) :
  Calls Tryz.prog 11 #[.pointer (some ⟨d, 0, none⟩), .int .i64 x, .int .i64 k, .int .i64 m] W fun e w' => e = .returned (.tuple #[]) ∧ Dk w' d mp es (s.arm x k m) ∧ But d W w' := by
 have fz := hD.blk.frozen
 have f5 := fz 5
 have f6 := fz 6
 have f7 := fz 7
 obtain ⟨c0, c1, c2, c3, c4, c5, c6, c7⟩ := hD.c
 generalize hr : s.arm x k m = r
 unfold H.arm at hr
 have hrk := y_ hr
 clear hr
 obtain ⟨room, used, ops, off, ak, af, al⟩ := s
 dsimp only at hrk c1 c2 c3 c4 c5 c6 c7 h0 h1
 go_enter Tryz.func11, Tryz.ntmps11
 have hA := hD.setArm 0 0 0
 have bA := But.setArm (w := W) d 0 0 0
 by_cases t1 : x < 1
 ·have hr := hrk.out
  rw [if_pos (.inl t1)] at hr
  subst hr
  go_wp2
  ((try simp only [Exit.inBlock, Exit.then]); refine bodyPost_ret (results_none rfl _ _ _) rfl ?_)
  exact ⟨rfl, hA, bA⟩
 ·by_cases t2 : 1099511627776 < x
  ·have hr := hrk.out
   rw [if_pos (.inr (.inl t2))] at hr
   subst hr
   go_wp2
   ((try simp only [Exit.inBlock, Exit.then]); refine bodyPost_ret (results_none rfl _ _ _) rfl ?_)
   exact ⟨rfl, hA, bA⟩
  ·by_cases t3 : k = 1
   ·have hr := hrk.out
    rw [if_neg (by omega)] at hr
    subst t3 hr
    go_wp2
    go_end0
    exact ⟨rfl, hA.setArm _ _ _, bA.trans (But.setArm d _ _ _)⟩
   ·by_cases t4 : k = 2
    ·have hr := hrk.out
     rw [if_neg (by omega)] at hr
     subst t4 hr
     go_wp2
     go_end0
     exact ⟨rfl, hA.setArm _ _ _, bA.trans (But.setArm d _ _ _)⟩
    ·have hr := hrk.out
     rw [if_pos (.inr (.inr ⟨t3, t4⟩))] at hr
     subst hr
     have u1 : (k != 1) = true := bne_iff_ne.2 t3
     have u2 : (k != 2) = true := bne_iff_ne.2 t4
     clear t3 t4
     go_wp2
     ((try simp only [Exit.inBlock, Exit.then]); refine bodyPost_ret (results_none rfl _ _ _) rfl ?_)
     exact ⟨rfl, hA, bA⟩
end Plk
end Go.Proofs.YtafeealbdpmdkaaGreatDoor
/- Sync, Append: a file turns. -/
namespace Go.Proofs.YtafeealbdpmdkaaGreatDoor
open Go Go.RowKit
theorem PRow.wp_push {ops : Array Oper} {rest : List Oper} {o : Oper} {a : Act} {Q : Exit → Act → World → Prop} (hgd : o.guard = none) (sl x : Operand) (ho : o.op = .call { callee := .builtin .append, args := #[sl, x], argTypes := #[84, 9] })
  (v : Value) (l : List UInt8) (hs : a.eval sl = v) (W : World) (s : ByteArray) (hb : PRow W v l) (hx : a.eval x = .string s) (hl : l.length + s.size ≤ 1099511627776)
  (h : ∀ v' w', PRow w' v' (l ++ s.data.toList) → W.grownBy w' v.ownBlock → (v'.ownBlock = v.ownBlock ∨ ∃ g, v'.ownBlock = some g ∧ W.heap.size ≤ g) → wpList Tryz.prog ops Q rest (a.put o.dst v') w') : wpList Tryz.prog ops Q (o :: rest) a W := by
 refine wpList_plain hgd fun K' hK' => ?_
 obtain ⟨v', w', hr, h1, h2, h3⟩ := hb.run_push s o.type hl
 unfold Oper.wp
 simp [execOp, ho, resolve, invoke, builtin, hs, hx, hr, Result.andThen]
 exact hK' _ _ (h v' w' h1 h2 h3)
namespace Plk
theorem begin_keep (s : H) (ns : List (List UInt8)) : (s.begin ns).2.room = s.room ∧ (s.begin ns).2.used = s.used ∧ s.ops ≤ (s.begin ns).2.ops ∧ (s.begin ns).2.ops ≤ s.ops + 1 := by
 unfold H.begin
 repeat' split
 all_goals exact ⟨rfl, rfl, by dsimp only; omega, by dsimp only; omega⟩
theorem find_keep (s : H) (es : List E) (n : List UInt8) : (s.find es n).2.1 = (s.begin [n]).2 := by
 unfold H.find
 split
 ·rfl
 ·split <;> rfl
theorem find_none_ {s : H} {es : List E} {n : List UInt8} (h : (s.find es n).2.2 = none) : (s.find es n).1 ≠ 0 := by
 unfold H.find at h ⊢
 by_cases he : (s.begin [n]).1 ≠ 0
 ·rw [if_pos he]; exact he
 ·rw [if_neg he] at h ⊢
  cases hg : Nmd.get E.nm n es with
  | none => show (7 : Int) ≠ 0; decide
  | some e => rw [hg] at h; cases h
theorem find_some_ {s : H} {es : List E} {n : List UInt8} {e : E} (h : (s.find es n).2.2 = some e) : (s.find es n).1 = 0 ∧ Nmd.get E.nm n es = some e ∧ e ∈ es ∧ e.nm = n ∧ n.length ≤ 80 := by
 unfold H.find at h ⊢
 by_cases he : (s.begin [n]).1 ≠ 0
 ·rw [if_pos he] at h; cases h
 ·rw [if_neg he] at h ⊢
  cases hg : Nmd.get E.nm n es with
  | none => rw [hg] at h; cases h
  | some e' =>
    rw [hg] at h
    injection h with h
    subst h
    have := Nmd.get_mem hg
    exact ⟨rfl, rfl, this.1, this.2, begin_ok (Decidable.not_not.1 he) n (List.mem_singleton.2 rfl)⟩
def P.find (p : P) (n : List UInt8) : Int × H × Option F :=
 if (p.h.begin [n]).1 ≠ 0 then ((p.h.begin [n]).1, (p.h.begin [n]).2, none) else match Nmd.get F.name n p.fs with
  | none => (7, (p.h.begin [n]).2, none)
  | some f => (0, (p.h.begin [n]).2, some f)
theorem find_pl (es : List E) (s : H) (n : List UInt8) : (pl es s).find n = ((s.find es n).1, (s.find es n).2.1, (s.find es n).2.2.map E.f) := by
 unfold P.find H.find pl
 dsimp only
 rw [get_pl]
 by_cases he : (s.begin [n]).1 ≠ 0
 ·rw [if_pos he, if_pos he]; rfl
 ·rw [if_neg he, if_neg he]
  cases Nmd.get E.nm n es <;> rfl
def P.sync (p : P) (n : List UInt8) : Int × P := match (p.find n).2.2 with
 | none => ((p.find n).1, ⟨p.fs, (p.find n).2.1⟩)
 | some f => (0, ⟨Nmd.upd F.name ⟨f.name, f.l, f.l.length⟩ p.fs, (p.find n).2.1⟩)
def P.append (p : P) (n t : List UInt8) : Int × P := match (p.find n).2.2 with
 | none => ((p.find n).1, ⟨p.fs, (p.find n).2.1⟩)
 | some f => if p.h.room - p.h.used < t.length then (6, ⟨p.fs, (p.find n).2.1⟩)
   else (0, ⟨Nmd.upd F.name ⟨f.name, f.l ++ t, f.safe⟩ p.fs, { (p.find n).2.1 with used := (p.find n).2.1.used + t.length }⟩)
theorem Turn.upd {w w' : World} {d mp : Nat} {es : List E} {e e' : E} (he : e ∈ es) (hos : w'.os = w.os ∧ w'.tape = w.tape ∧ w'.output = w.output ∧ w.heap.size ≤ w'.heap.size)
  (hk : ∀ i, i < w.heap.size → i ∉ e.blocks → w'.heap[i]? = w.heap[i]?) (hb : ∀ x ∈ e'.blocks, x ∈ e.blocks ∨ w.heap.size ≤ x) : Turn d mp w es w' (Nmd.upd E.nm e' es) := by
 refine ⟨hos.1, hos.2.1, hos.2.2.1, hos.2.2.2, fun i hi hn => hk i hi fun h => hn (.inr (.inr ⟨e, he, h⟩)), fun i hi => ?_⟩
 rcases own_upd hi with h | h
 ·rcases hb i h with h | h
  ·exact .inl (.inr (.inr ⟨e, he, h⟩))
  ·exact .inr h
 ·exact .inl h
theorem pl_upd (es : List E) (e : E) (s : H) : pl (Nmd.upd E.nm e es) s = ⟨Nmd.upd F.name e.f (es.map E.f), s⟩ := by
 unfold pl
 rw [← Nmd.upd_map F.name E.f]
theorem Dk.setSafe {w : World} {d mp : Nat} {es : List E} {s : H} (h : Dk w d mp es s) {e : E} (he : e ∈ es) (k : Nat) :
  Dk (w.setCell ⟨e.g, 1, none⟩ (.int .i64 (k : Int))) d mp (Nmd.upd E.nm ⟨⟨e.f.name, e.f.l, k⟩, e.g, e.v⟩ es) s ∧ Turn d mp w es (w.setCell ⟨e.g, 1, none⟩ (.int .i64 (k : Int))) (Nmd.upd E.nm ⟨⟨e.f.name, e.f.l, k⟩, e.g, e.v⟩ es) := by
 have hoth : ∀ i, i ≠ e.g → (w.setCell ⟨e.g, 1, none⟩ (.int .i64 (k : Int))).heap[i]? = w.heap[i]? := fun i hi => Below.heap_setCell w ⟨e.g, 1, none⟩ _ i hi
 have hB := But.set_ e.g w 1 (.int .i64 (k : Int))
 refine ⟨h.entry (e' := ⟨⟨e.f.name, e.f.l, k⟩, e.g, e.v⟩) he rfl rfl (fun i hi hn => hoth i fun e1 => hn (mem_blocks.2 (.inl e1))) ((h.file e he).set_ 1 _) ?_ ?_, Turn.upd (e' := ⟨⟨e.f.name, e.f.l, k⟩, e.g, e.v⟩) he ⟨hB.os, hB.tape, hB.output, hB.size⟩ (fun i hi hn => hoth i fun e1 => hn (mem_blocks.2 (.inl e1))) fun x hx => .inl (mem_blocks.2 (mem_blocks.1 hx))⟩
 ·exact (h.row e he).same fun x hx => hoth x fun e1 => h.self e he (by rw [hx, e1])
 ·intro x hx
  exact .inl ⟨fun e1 => h.self e he (by rw [← e1]; exact hx), mem_blocks.2 (.inr hx)⟩
set_option maxHeartbeats 1000000 in
theorem sync_any (W : World) (d mp : Nat) (es : List E) (s : H) (hD : Dk W d mp es s) (n : List UInt8) (h0 : 0 ≤ s.ops) (h1 : s.ops < 4611686018427387904) :
  Calls Tryz.prog 55 #[.pointer (some ⟨d, 0, none⟩), str n] W fun e w' => ∃ es' s',
   e = .returned (.int .i64 ((pl es s).sync n).1) ∧ Dk w' d mp es' s' ∧ Turn d mp W es w' es' ∧ pl es' s' = ((pl es s).sync n).2 := by
 have hf := find_any W d mp es s hD n h0 h1
 have hn1 := find_none_ (s := s) (es := es) (n := n)
 have hs1 := @find_some_ s es n
 generalize hr : (pl es s).sync n = r
 unfold P.sync at hr
 rw [find_pl] at hr
 dsimp only at hr
 generalize s.find es n = q at hf hn1 hs1 hr
 obtain ⟨er, s1, o⟩ := q
 dsimp only at hf hn1 hs1 hr
 cases o with
 | none =>
   have he := beq_eq_false_iff_ne.2 (hn1 rfl)
   clear hn1 hs1
   dsimp only [Option.map_none] at hr
   subst hr
   unfold str ptrV at hf
   unfold str
   go_enter Tryz.func55, Tryz.ntmps55
   go_wp2_with (go_at_call 47; refine hf.mono ?_; rintro e w1 ⟨rfl, hD1, hb1⟩)
   go_ret
   exact ⟨es, s1, rfl, hD1, Turn.of_but hb1, rfl⟩
 | some e0 =>
   obtain ⟨he, hg, hm, hnm, hn⟩ := hs1 rfl
   clear hn1 hs1 hg
   dsimp only [Option.map_some] at hr
   subst he hr
   unfold str ptrV at hf
   unfold str
   go_enter Tryz.func55, Tryz.ntmps55
   obtain ⟨A, cap, hv⟩ := (hD.row e0 hm).form
   have hvk := y_ hv
   clear hv hnm
   go_wp2_with (go_at_call 47; refine hf.mono ?_; rintro e w1 ⟨rfl, hD1, hb1⟩; have hbk := hD1.file e0 hm; have k0 := hbk.cell 0; have k1 := hbk.cell 1; have fz1 := hbk.frozen 1; dsimp only [List.getElem?_cons_zero, List.getElem?_cons_succ] at k0 k1; rw [hvk.out] at k0; clear hbk)
   go_ret
   obtain ⟨h2, h3⟩ := hD1.setSafe hm e0.f.l.length
   exact ⟨_, s1, rfl, h2, (Turn.of_but hb1).trans h3, pl_upd _ _ _⟩
end Plk
end Go.Proofs.YtafeealbdpmdkaaGreatDoor
/- Append: a file turns. -/
namespace Go.Proofs.YtafeealbdpmdkaaGreatDoor
open Go Go.RowKit
namespace Plk
theorem Dk.grown {w w2 : World} {d mp : Nat} {es : List E} {s : H} (h : Dk w d mp es s) {e : E} (he : e ∈ es) (hg : w.grownBy w2 e.v.ownBlock) : Blk w2 d 74 (s.head mp) ∧ Blk w2 e.g 86 [e.v, .int .i64 (e.f.safe : Int)] := by
 refine ⟨(hg.block d h.blk.lt fun e1 => ?_).trans h.blk, (hg.block e.g (h.file e he).lt fun e1 => h.self e he e1.symm).trans (h.file e he)⟩
 exact (h.out e he d (mem_blocks.2 (.inr e1.symm))).1 rfl
theorem Dk.setRow {w w2 : World} {d mp : Nat} {es : List E} {s : H} (h : Dk w d mp es s) {e : E} (he : e ∈ es) (v' : Value) (l' : List UInt8) (k : Nat) (hr : PRow w2 v' l') (hg : w.grownBy w2 e.v.ownBlock)
  (ho : v'.ownBlock = e.v.ownBlock ∨ ∃ g, v'.ownBlock = some g ∧ w.heap.size ≤ g) (w3 : World) (hB : But e.g w2 w3) (hb3 : Blk w3 e.g 86 [v', .int .i64 (k : Int)]) :
  Dk w3 d mp (Nmd.upd E.nm ⟨⟨e.f.name, l', k⟩, e.g, v'⟩ es) s ∧ Turn d mp w es w3 (Nmd.upd E.nm ⟨⟨e.f.name, l', k⟩, e.g, v'⟩ es) := by
 have hk : ∀ i, i < w.heap.size → i ∉ e.blocks → w3.heap[i]? = w.heap[i]? := fun i hi hn =>
  (hB.block i (Nat.lt_of_lt_of_le hi hg.size) fun e1 => hn (mem_blocks.2 (.inl (by injection e1)))).trans (hg.block i hi fun e1 => hn (mem_blocks.2 (.inr e1.symm)))
 have hne : ∀ x, v'.ownBlock = some x → x ≠ e.g := by
  intro x hx e1
  subst e1
  rcases ho with h1 | ⟨g, h1, h2⟩
  ·exact h.self e he (by rw [← h1]; exact hx)
  ·rw [hx] at h1
   injection h1 with h1
   have := (h.file e he).lt
   omega
 refine ⟨h.entry (e' := ⟨⟨e.f.name, l', k⟩, e.g, v'⟩) he rfl rfl hk hb3 ?_ ?_, Turn.upd (e' := ⟨⟨e.f.name, l', k⟩, e.g, v'⟩) he ⟨hB.os.trans hg.os, hB.tape.trans hg.tape, hB.output.trans hg.output, Nat.le_trans hg.size hB.size⟩ hk ?_⟩
 ·exact hr.same fun x hx => hB.block x (hr.lt hx) fun e1 => hne x hx (by injection e1)
 ·intro x hx
  rcases ho with h1 | ⟨g, h1, h2⟩
  ·exact .inl ⟨hne x hx, mem_blocks.2 (.inr (by rw [← h1]; exact hx))⟩
  ·have hx : v'.ownBlock = some x := hx
   rw [hx] at h1
   injection h1 with h1
   exact .inr (by omega)
 ·intro x hx
  rcases mem_blocks.1 hx with h3 | hx
  ·exact .inl (mem_blocks.2 (.inl h3))
  ·rcases ho with h1 | ⟨g, h1, h2⟩
   ·exact .inl (mem_blocks.2 (.inr (by rw [← h1]; exact hx)))
   ·have hx : v'.ownBlock = some x := hx
    rw [hx] at h1
    injection h1 with h1
    exact .inr (by omega)
/-- an operation gave r -/
def Res (d mp : Nat) (W : World) (es : List E) (r : Int × P) (e : Ending) (w' : World) : Prop := ∃ es' s', e = .returned (.int .i64 r.1) ∧ Dk w' d mp es' s' ∧ Turn d mp W es w' es' ∧ pl es' s' = r.2
theorem append_pl (es : List E) (s : H) (n t : List UInt8) : (pl es s).append n t = match (s.find es n).2.2 with
 | none => ((s.find es n).1, ⟨es.map E.f, (s.find es n).2.1⟩)
 | some e => if s.room - s.used < t.length then (6, ⟨es.map E.f, (s.find es n).2.1⟩)
   else (0, ⟨Nmd.upd F.name ⟨e.f.name, e.f.l ++ t, e.f.safe⟩ (es.map E.f), { (s.find es n).2.1 with used := (s.find es n).2.1.used + t.length }⟩) := by
 unfold P.append
 rw [find_pl]
 cases (s.find es n).2.2 <;> rfl
set_option maxRecDepth 100000 in
set_option maxHeartbeats 1000000 in
theorem append_any (W : World) (d mp : Nat) (es : List E) (s : H) (hD : Dk W d mp es s) (n t : List UInt8) (h0 : 0 ≤ s.ops) (h1 : s.ops < 4611686018427387904) (hu : 0 ≤ s.used ∧ s.used ≤ s.room ∧ s.room ≤ 4194304) (hle : ∀ e ∈ es, e.f.l.length ≤ 4194304) (ht : t.length ≤ 4294967296) :
  Calls Tryz.prog 19 #[.pointer (some ⟨d, 0, none⟩), str n, str t] W (Res d mp W es ((pl es s).append n t)) := by
 have hf := find_any W d mp es s hD n h0 h1
 have hn1 := find_none_ (s := s) (es := es) (n := n)
 have hs1 := @find_some_ s es n
 have hkp := begin_keep s [n]
 rw [← find_keep s es n] at hkp
 generalize hr : (pl es s).append n t = r
 rw [append_pl] at hr
 generalize s.find es n = q at hf hn1 hs1 hr hkp
 obtain ⟨er, s1, o⟩ := q
 dsimp only at hf hn1 hs1 hr hkp
 have hsz : (⟨t.toArray⟩ : ByteArray).size = t.length := by simp [ByteArray.size]
 cases o with
 | none =>
   have he := beq_eq_false_iff_ne.2 (hn1 rfl)
   clear hn1 hs1 hkp hu hle ht hsz
   subst hr
   unfold str ptrV at hf
   unfold str
   go_enter Tryz.func19, Tryz.ntmps19
   go_wp2_with (go_at_call 47; refine hf.mono ?_; rintro e w1 ⟨rfl, hD1, hb1⟩)
   go_ret
   exact ⟨es, s1, rfl, hD1, Turn.of_but hb1, rfl⟩
 | some e0 =>
   obtain ⟨he, hg, hm, hnm, hn⟩ := hs1 rfl
   have hl0 := hle e0 hm
   clear hn1 hs1 hg hle
   subst he
   unfold str ptrV at hf
   unfold str
   obtain ⟨A, cap, hv⟩ := (hD.row e0 hm).form
   have hvk := y_ hv
   clear hv hnm h0 h1
   obtain ⟨k1, k2, _, _⟩ := hkp
   obtain ⟨room, used, ops, off, ak, af, al⟩ := s1
   dsimp only at k1 k2 hr
   subst k1 k2
   obtain ⟨u1, u2, u3⟩ := hu
   go_enter Tryz.func19, Tryz.ntmps19
   by_cases hfull : s.room - s.used < t.length
   ·rw [if_pos hfull] at hr
    subst hr
    go_wp2_with (go_at_call 47; refine hf.mono ?_; rintro e w1 ⟨rfl, hD1, hb1⟩; obtain ⟨c0, c1, c2, c3, c4, c5, c6, c7⟩ := hD1.c; dsimp only at c1 c2)
    go_quiet (fail)
    go_wp2
    go_ret
    exact ⟨es, _, rfl, hD1.ext (Reg.Ext.drewN _ _), (Turn.of_but hb1).trans (Turn.ext (Reg.Ext.drewN _ _)), rfl⟩
   ·rw [if_neg hfull] at hr
    subst hr
    go_wp2_with (go_at_call 47; refine hf.mono ?_; rintro e w1 ⟨rfl, hD1, hb1⟩; obtain ⟨c0, c1, c2, c3, c4, c5, c6, c7⟩ := hD1.c; dsimp only at c1 c2)
    go_quiet (fail)
    have hx := Reg.Ext.drewN w1 nq
    generalize w1.drewN nq = w4 at hx ⊢
    have hD4 := hD1.ext hx
    clear c0 c1 c2 c3 c4 c5 c6 c7
    have hbk := hD4.file e0 hm
    have k0 := hbk.cell 0
    dsimp only [List.getElem?_cons_zero] at k0
    clear hbk
    have hrow := y_ (hD4.row e0 hm)
    have hdg := (hD4.out e0 hm e0.g (mem_blocks.2 (.inl rfl))).1
    go_wp2_with (first | (refine PRow.wp_push rfl (.tmp 36) (.tmp 37) rfl e0.v e0.f.l rfl _ ⟨t.toArray⟩ hrow.out rfl (by rw [hsz]; omega) ?_; intro v2 w2 hr2 hg2 ho2; obtain ⟨A2, cp2, hv2⟩ := hr2.form; subst hv2; have hgr := hD4.grown hm hg2; have c2 := hgr.1.cell 2; have f2 := hgr.1.frozen 2; have f0 := hgr.2.frozen 0; have k2 := hgr.2.cell 0; have hgk := y_ hgr; clear hgr; dsimp only [H.head, List.getElem?_cons_zero, List.getElem?_cons_succ] at c2 k2))
    go_ret
    have hr3 : PRow w2 (.slice A2 (e0.f.l.length + t.length) cp2) (e0.f.l ++ t) := by
     have h := hr2
     simpa only [List.length_append] using h
    obtain ⟨h5, h6⟩ := hD4.setRow hm (.slice A2 (e0.f.l.length + t.length) cp2) (e0.f.l ++ t) e0.f.safe hr3 hg2 (by simpa only [List.length_append] using ho2) _ (But.set_ e0.g w2 0 _) (hgk.out.2.set_ 0 _)
    have h7 := h5.setH (s' := { room := s.room, used := s.used + t.length, ops := ops, off := off, ak := ak, af := af, al := al }) 2 (.int .i64 (s.used + t.length)) rfl
    exact ⟨_, _, rfl, h7, ((Turn.of_but hb1).trans (Turn.ext hx)).trans (h6.trans (Turn.of_but (But.set_ d _ 2 _))), pl_upd _ _ _⟩
end Plk
end Go.Proofs.YtafeealbdpmdkaaGreatDoor
/- Read. -/
namespace Go.Proofs.YtafeealbdpmdkaaGreatDoor
open Go Go.RowKit
theorem PRow.form2 {w : World} {v : Value} {l : List UInt8} (h : PRow w v l) : (v = .slice none 0 0 ∧ l = []) ∨ ∃ g cap, v = .slice (some ⟨g, 0, none⟩) l.length cap ∧ l.length ≤ cap ∧ cap ≤ maxLen := by
 rcases h with h | ⟨g, cap, cur, fz, rfl, _, _, h2, h3, _⟩
 ·exact .inl h
 ·exact .inr ⟨g, cap, rfl, h2, h3⟩
/-- string(v[j:][:m]) -/
theorem PRow.sub {w : World} {g cap : Nat} {l : List UInt8} (h : PRow w (.slice (some ⟨g, 0, none⟩) l.length cap) l) (j m c : Nat) (hj : j + m ≤ l.length) :
  (convert 84 9 (.slice (some ⟨g, j, none⟩) m c)).run Tryz.prog w = .ok (.string ⟨((l.drop j).take m).toArray⟩) w := by
 rcases h with ⟨h1, _⟩ | ⟨g', cap', cur, fz, e, hr, _, _, _, _, ht⟩
 ·have h2 : some g = none := congrArg Value.ownBlock h1
  cases h2
 ·have e1 : g = g' := Option.some.inj (congrArg Value.ownBlock e)
  subst e1
  have hl : ((l.drop j).take m).length = m := by rw [List.length_take, List.length_drop]; omega
  have hc := conv_bytes w 84 9 5 Tryz.underlying84 Tryz.underlying5 Tryz.underlying9 g j m c ((l.drop j).take m) hl ?_
  ·exact hc
  ·intro i hi
   have e1 : ((l.drop j).take m)[i] = l[j + i]'(by omega) := by rw [List.getElem_take, List.getElem_drop]
   rw [e1]
   exact row_cell hr ht (j + i) (by omega)
namespace Plk
/-- what Read gives of a file's bytes -/
def rd (l : List UInt8) (x k : Int) : List UInt8 := (l.drop x.toNat).take (min k.toNat (l.length - x.toNat))
def P.read (p : P) (n : List UInt8) (x k : Int) : List UInt8 × Int × P :=
 if x < 0 ∨ k < 0 then ([], 1, p) else match (p.find n).2.2 with
 | none => ([], (p.find n).1, ⟨p.fs, (p.find n).2.1⟩)
 | some f => if (f.l.length : Int) < x then ([], 14, ⟨p.fs, (p.find n).2.1⟩) else (rd f.l x k, 0, ⟨p.fs, (p.find n).2.1⟩)
theorem read_pl (es : List E) (s : H) (n : List UInt8) (x k : Int) : (pl es s).read n x k = if x < 0 ∨ k < 0 then ([], 1, pl es s) else match (s.find es n).2.2 with
 | none => ([], (s.find es n).1, pl es (s.find es n).2.1)
 | some e => if (e.f.l.length : Int) < x then ([], 14, pl es (s.find es n).2.1) else (rd e.f.l x k, 0, pl es (s.find es n).2.1) := by
 unfold P.read
 rw [find_pl]
 cases (s.find es n).2.2 <;> rfl
def ResR (d mp : Nat) (W : World) (es : List E) (r : List UInt8 × Int × P) (e : Ending) (w' : World) : Prop := ∃ s', e = .returned (.tuple #[str r.1, .int .i64 r.2.1]) ∧ Dk w' d mp es s' ∧ But d W w' ∧ pl es s' = r.2.2
set_option maxRecDepth 100000 in
set_option maxHeartbeats 1000000 in
theorem read_any (W : World) (d mp : Nat) (es : List E) (s : H) (hD : Dk W d mp es s) (n : List UInt8) (x k : Int) (h0 : 0 ≤ s.ops) (h1 : s.ops < 4611686018427387904) (hle : ∀ e ∈ es, e.f.l.length ≤ 4194304) :
  Calls Tryz.prog 63 #[.pointer (some ⟨d, 0, none⟩), str n, .int .i64 x, .int .i64 k] W (ResR d mp W es ((pl es s).read n x k)) := by
 have hf := find_any W d mp es s hD n h0 h1
 have hn1 := find_none_ (s := s) (es := es) (n := n)
 have hs1 := @find_some_ s es n
 rw [read_pl]
 generalize s.find es n = q at hf hn1 hs1
 obtain ⟨er, s1, o⟩ := q
 dsimp only at hf hn1 hs1 ⊢
 have nilS : (.string { data := #[] } : Value) = str [] := rfl
 by_cases ha : x < 0
 ·rw [if_pos (.inl ha)]
  clear hf hn1 hs1 nilS
  unfold str
  go_enter Tryz.func63, Tryz.ntmps63
  go_wp2
  go_ret2
  exact ⟨s, rfl, hD, But.refl _ _, rfl⟩
 ·by_cases hb : k < 0
  ·rw [if_pos (.inr hb)]
   clear hf hn1 hs1 nilS
   unfold str
   go_enter Tryz.func63, Tryz.ntmps63
   go_wp2
   go_ret2
   exact ⟨s, rfl, hD, But.refl _ _, rfl⟩
  ·rw [if_neg (by omega)]
   cases o with
   | none =>
     have he := beq_eq_false_iff_ne.2 (hn1 rfl)
     clear hn1 hs1 nilS hle
     unfold str ptrV at hf
     unfold str
     go_enter Tryz.func63, Tryz.ntmps63
     go_wp2_with (go_at_call 47; refine hf.mono ?_; rintro e w1 ⟨rfl, hD1, hb1⟩)
     go_ret2
     exact ⟨s1, rfl, hD1, hb1, rfl⟩
   | some e0 =>
     obtain ⟨he, hg, hm, hnm, hn⟩ := hs1 rfl
     have hl0 := hle e0 hm
     clear hn1 hs1 hg hle hnm nilS h0 h1
     subst he
     obtain ⟨j, rfl⟩ := Int.eq_ofNat_of_zero_le (Int.not_lt.1 ha)
     obtain ⟨m, rfl⟩ := Int.eq_ofNat_of_zero_le (Int.not_lt.1 hb)
     clear ha hb
     unfold str ptrV at hf
     dsimp only
     by_cases ho : (e0.f.l.length : Int) < (j : Int)
     ·rw [if_pos ho]
      obtain ⟨A, cap, hv⟩ := (hD.row e0 hm).form
      have hvk := y_ hv
      clear hv
      unfold str
      go_enter Tryz.func63, Tryz.ntmps63
      go_wp2_with (go_at_call 47; refine hf.mono ?_; rintro e w1 ⟨rfl, hD1, hb1⟩; have hbk := hD1.file e0 hm; have k0 := hbk.cell 0; dsimp only [List.getElem?_cons_zero] at k0; rw [hvk.out] at k0; clear hbk)
      go_ret2
      exact ⟨s1, rfl, hD1, hb1, rfl⟩
     ·rw [if_neg ho]
      have hoj : j ≤ e0.f.l.length := by omega
      clear ho
      unfold rd
      rw [Int.toNat_natCast, Int.toNat_natCast]
      rcases (hD.row e0 hm).form2 with ⟨hv, hl⟩ | ⟨g, cap, hv, hc1, hc2⟩
      ·have hvk := y_ hv
       have hj0 : j = 0 := by rw [hl] at hoj; simpa using hoj
       subst hj0
       rw [hl]
       have hst := fun w => (PRow.nil_ w).str
       clear hv hl hoj hl0
       unfold str
       go_enter Tryz.func63, Tryz.ntmps63
       go_wp2_with (go_at_call 47; refine hf.mono ?_; rintro e w1 ⟨rfl, hD1, hb1⟩; have hbk := hD1.file e0 hm; have k0 := hbk.cell 0; dsimp only [List.getElem?_cons_zero] at k0; rw [hvk.out] at k0; clear hbk)
       rw [show (min (m : Int) 0).toNat = 0 by omega, (PRow.nil_ _).str]
       simp only [Result.andThen]
       rw [Oper.upon_value]
       go_wp2
       go_ret2
       exact ⟨s1, by simp [str], hD1, hb1, rfl⟩
      ·have hrow1 : ∀ w1 : World, Dk w1 d mp es s1 → Hid (PRow w1 (.slice (some ⟨g, 0, none⟩) e0.f.l.length cap) e0.f.l) := fun w1 h => y_ (by rw [← hv]; exact h.row e0 hm)
       by_cases hjc : j = cap
       ·have hvk := y_ hv
        have hjl : j = e0.f.l.length := by omega
        subst hjc
        clear hv
        unfold str
        go_enter Tryz.func63, Tryz.ntmps63
        go_wp2_with (go_at_call 47; refine hf.mono ?_; rintro e w1 ⟨rfl, hD1, hb1⟩; have hbk := hD1.file e0 hm; have k0 := hbk.cell 0; dsimp only [List.getElem?_cons_zero] at k0; rw [hvk.out] at k0; clear hbk)
        rw [show (min (m : Int) 0).toNat = 0 by omega, (hrow1 _ hD1).out.sub 0 0 _ (by omega)]
        simp only [Result.andThen]
        rw [Oper.upon_value]
        go_wp2
        go_ret2
        exact ⟨s1, by simp [str]; omega, hD1, hb1, rfl⟩
       ·have hvk := y_ hv
        have hjl : j < cap := by omega
        clear hv hjc
        unfold str
        go_enter Tryz.func63, Tryz.ntmps63
        go_wp2_with (go_at_call 47; refine hf.mono ?_; rintro e w1 ⟨rfl, hD1, hb1⟩; have hbk := hD1.file e0 hm; have k0 := hbk.cell 0; dsimp only [List.getElem?_cons_zero] at k0; rw [hvk.out] at k0; clear hbk)
        rw [(hrow1 _ hD1).out.sub j _ _ (by omega)]
        simp only [Result.andThen]
        rw [Oper.upon_value]
        go_wp2
        go_ret2
        exact ⟨s1, by simp [str]; omega, hD1, hb1, rfl⟩
end Plk
end Go.Proofs.YtafeealbdpmdkaaGreatDoor
/- remove, Delete. -/
namespace Go.Proofs.YtafeealbdpmdkaaGreatDoor
open Go Go.RowKit
namespace Plk
set_option maxRecDepth 100000 in
set_option maxHeartbeats 1000000 in
theorem remove_any (W : World) (d mp : Nat) (es : List E) (s : H) (hD : Dk W d mp es s) (e0 : E) (hm : e0 ∈ es) (hn : e0.nm.length ≤ maxLen) (hu : 0 ≤ s.used ∧ s.used ≤ 4194304) (hl : e0.f.l.length ≤ 4194304) :
  Calls Tryz.prog 97 #[.pointer (some ⟨d, 0, none⟩), str e0.nm] W fun e w' => e = .returned (.tuple #[]) ∧ Dk w' d mp (Nmd.del E.nm e0.nm es) { s with used := s.used - e0.f.l.length } ∧ Turn d mp W es w' (Nmd.del E.nm e0.nm es) := by
 have hge : Nmd.get E.nm e0.nm es = some e0 := by
  cases hgt : Nmd.get E.nm e0.nm es with
  | none => exact absurd rfl (Nmd.get_none hgt e0 hm)
  | some y => rw [hD.up.same y (Nmd.get_mem hgt).1 e0 hm (Nmd.get_mem hgt).2]
 have hlk := (hD.ext (Reg.Ext.drew W)).look e0.nm hn
 rw [hge] at hlk
 have hkey := str_key e0.nm hn
 obtain ⟨c0, c1, c2, c3, c4, c5, c6, c7⟩ := hD.c
 have hbk := hD.file e0 hm
 have k0 := hbk.cell 0
 dsimp only [List.getElem?_cons_zero] at k0
 obtain ⟨A, cap, hv⟩ := (hD.row e0 hm).form
 rw [hv] at k0
 clear hbk hv
 have f2 := hD.blk.frozen 2
 have kun := Maps.string_keyed Tryz.underlying9
 obtain ⟨u1, u2⟩ := hu
 unfold str ptrV at hlk
 unfold str at hkey ⊢
 have hkk := y_ hkey
 have hgk := y_ hge
 clear hkey hge c1 c3 c4 c5 c6 c7
 go_enter Tryz.func97, Tryz.ntmps97
 go_wp2
 go_region
 have hD2 : Dk ((W.setCell ⟨d, 2, none⟩ (.int .i64 (s.used - e0.f.l.length))).drew) d mp es { s with used := s.used - e0.f.l.length } := (hD.setH (s' := { s with used := s.used - e0.f.l.length }) 2 _ rfl).ext (Reg.Ext.drew _)
 have hT : Turn d mp W es ((W.setCell ⟨d, 2, none⟩ (.int .i64 (s.used - e0.f.l.length))).drew) es := (Turn.of_but (But.set_ d W 2 _)).trans (Turn.ext (Reg.Ext.drew _))
 generalize (W.setCell ⟨d, 2, none⟩ (.int .i64 (s.used - e0.f.l.length))).drew = w2 at hD2 hT ⊢
 clear c0 c2 k0 f2 hlk
 have c0 := hD2.c.1
 obtain ⟨D, hmp, hMD⟩ := hD2.map
 have hmk := y_ hmp
 have hMk := y_ hMD
 clear hmp hMD
 go_wp2_with (at_delete; refine wpList_delete_own _ rfl _ _ 70 9 rfl _ kun Tryz.underlying70 _ mp _ D rfl hmk.out _ _ rfl hkk.out ?_; intro w3 hm3 ht3)
 go_end0
 have hgr := ht3.grown
 have h4 := hD2.drop hm hMk.out (hmk.out.tidy kun) hm3 fun i hi hne => hgr.block i hi fun e1 => hne (by injection e1)
 refine ⟨rfl, h4, ⟨hgr.os.trans hT.os, hgr.tape.trans hT.tape, hgr.output.trans hT.output, Nat.le_trans hT.size hgr.size, fun i hi hno => ?_, fun i hi => hT.own i (own_drop hi)⟩⟩
 exact (hgr.block i (Nat.lt_of_lt_of_le hi hT.size) fun e1 => hno (.inr (.inl (by injection e1)))).trans (hT.kept i hi hno)
def P.delete (p : P) (n : List UInt8) : Int × P := match (p.find n).2.2 with
 | none => ((p.find n).1, ⟨p.fs, (p.find n).2.1⟩)
 | some f => (0, ⟨Nmd.del F.name n p.fs, { (p.find n).2.1 with used := (p.find n).2.1.used - f.l.length }⟩)
theorem delete_pl (es : List E) (s : H) (n : List UInt8) : (pl es s).delete n = match (s.find es n).2.2 with
 | none => ((s.find es n).1, pl es (s.find es n).2.1)
 | some e => (0, pl (Nmd.del E.nm n es) { (s.find es n).2.1 with used := (s.find es n).2.1.used - e.f.l.length }) := by
 unfold P.delete pl
 have h := find_pl es s n
 unfold pl at h
 rw [h]
 dsimp only
 rw [Nmd.del_map F.name E.f]
 cases (s.find es n).2.2 <;> rfl
set_option maxRecDepth 100000 in
set_option maxHeartbeats 1000000 in
theorem delete_any (W : World) (d mp : Nat) (es : List E) (s : H) (hD : Dk W d mp es s) (n : List UInt8) (h0 : 0 ≤ s.ops) (h1 : s.ops < 4611686018427387904) (hu : 0 ≤ s.used ∧ s.used ≤ 4194304) (hle : ∀ e ∈ es, e.f.l.length ≤ 4194304) :
  Calls Tryz.prog 86 #[.pointer (some ⟨d, 0, none⟩), str n] W (Res d mp W es ((pl es s).delete n)) := by
 have hf := find_any W d mp es s hD n h0 h1
 have hn1 := find_none_ (s := s) (es := es) (n := n)
 have hs1 := @find_some_ s es n
 have hkp := begin_keep s [n]
 rw [← find_keep s es n] at hkp
 rw [delete_pl]
 generalize s.find es n = q at hf hn1 hs1 hkp
 obtain ⟨er, s1, o⟩ := q
 dsimp only at hf hn1 hs1 hkp ⊢
 cases o with
 | none =>
   have he := beq_eq_false_iff_ne.2 (hn1 rfl)
   clear hn1 hs1 hkp hu hle
   unfold str ptrV at hf
   unfold str
   go_enter Tryz.func86, Tryz.ntmps86
   go_wp2_with (go_at_call 47; refine hf.mono ?_; rintro e w1 ⟨rfl, hD1, hb1⟩)
   go_ret
   exact ⟨es, s1, rfl, hD1, Turn.of_but hb1, rfl⟩
 | some e0 =>
   obtain ⟨he, hg, hm, hnm, hn⟩ := hs1 rfl
   have hl0 := hle e0 hm
   subst he hnm
   have hrm := fun w1 h => remove_any w1 d mp es s1 h e0 hm (by unfold maxLen; omega) (by rw [hkp.2.1]; exact hu) hl0
   clear hn1 hs1 hg hle hu hkp hl0
   unfold str ptrV at hf
   unfold str at hrm ⊢
   go_enter Tryz.func86, Tryz.ntmps86
   go_wp2_with (first | (go_at_call 47; refine hf.mono ?_; rintro e w1 ⟨rfl, hD1, hb1⟩) | (go_at_call 97; refine (hrm _ hD1).mono ?_; rintro e w2 ⟨rfl, hD2, hT2⟩))
   go_ret
   exact ⟨_, _, rfl, hD2, (Turn.of_but hb1).trans hT2, rfl⟩
end Plk
end Go.Proofs.YtafeealbdpmdkaaGreatDoor
/- lose. -/
namespace Go.Proofs.YtafeealbdpmdkaaGreatDoor
open Go Go.RowKit
theorem PRow.form3 {w : World} {v : Value} {l : List UInt8} (h : PRow w v l) : ∃ A cap, v = .slice A l.length cap ∧ l.length ≤ cap ∧ cap ≤ maxLen := by
 rcases h with ⟨rfl, rfl⟩ | ⟨g, cap, cur, fz, rfl, _, _, h2, h3, _⟩
 ·exact ⟨none, 0, rfl, Nat.le_refl _, Nat.zero_le _⟩
 ·exact ⟨_, cap, rfl, h2, h3⟩
namespace Plk
def keptN (f : F) (m : Nat) : Nat := f.safe + m % (f.l.length - f.safe + 1)
theorem keptN_le (f : F) (m : Nat) (h : f.safe ≤ f.l.length) : keptN f m ≤ f.l.length := by
 have := Nat.mod_lt m (show 0 < f.l.length - f.safe + 1 by omega)
 unfold keptN
 omega
set_option maxRecDepth 100000 in
set_option maxHeartbeats 1000000 in
theorem lose_any (W : World) (d mp : Nat) (es : List E) (s : H) (hD : Dk W d mp es s) (e0 : E) (hm : e0 ∈ es) (m : Nat) (keep : Int) (hmk : max keep 0 = m) (hsf : e0.f.safe ≤ e0.f.l.length) (hu : 0 ≤ s.used ∧ s.used ≤ 4194304) (hl : e0.f.l.length ≤ 4194304) :
  Calls Tryz.prog 44 #[.pointer (some ⟨d, 0, none⟩), .pointer (some ⟨e0.g, 0, none⟩), .int .i64 keep] W fun e w' => e = .returned (.tuple #[]) ∧ ∃ v,
   Dk w' d mp (Nmd.upd E.nm ⟨⟨e0.nm, e0.f.l.take (keptN e0.f m), keptN e0.f m⟩, e0.g, v⟩ es) { s with used := s.used - (e0.f.l.length - keptN e0.f m) } ∧ Turn d mp W es w' (Nmd.upd E.nm ⟨⟨e0.nm, e0.f.l.take (keptN e0.f m), keptN e0.f m⟩, e0.g, v⟩ es) := by
 have hkl := keptN_le e0.f m hsf
 have hkd : keptN e0.f m = e0.f.safe + m % (e0.f.l.length - e0.f.safe + 1) := rfl
 generalize keptN e0.f m = k at hkl hkd ⊢
 obtain ⟨c0, c1, c2, c3, c4, c5, c6, c7⟩ := hD.c
 have hbk := hD.file e0 hm
 have k0 := hbk.cell 0
 have k1 := hbk.cell 1
 have f0 := hbk.frozen 0
 have f1 := hbk.frozen 1
 dsimp only [List.getElem?_cons_zero, List.getElem?_cons_succ] at k0 k1
 obtain ⟨A, cap, hv, hc1, hc2⟩ := (hD.row e0 hm).form3
 have hvk := y_ hv
 rw [hv] at k0
 clear hbk hv
 have f2 := hD.blk.frozen 2
 obtain ⟨u1, u2⟩ := hu
 have hkk := y_ hkd
 clear hkd c0 c1 c3 c4 c5 c6 c7
 go_enter Tryz.func44, Tryz.ntmps44
 go_wp2
 go_quiet (fail)
 generalize nq = nq1
 go_wp2
 go_quiet (fail)
 have hw : wrap64 ((e0.f.safe : Int) + (m : Int) % ((e0.f.l.length : Int) - (e0.f.safe : Int) + 1)) = (k : Int) := by
  have e1 : (e0.f.safe : Int) + (m : Int) % ((e0.f.l.length : Int) - (e0.f.safe : Int) + 1) = (k : Int) := by
   rw [hkk.out]
   rw [show (e0.f.l.length : Int) - (e0.f.safe : Int) + 1 = ((e0.f.l.length - e0.f.safe + 1 : Nat) : Int) by omega]
   omega
  rw [e1]
  exact IntWalk.wrap64_in _ ⟨by omega, by omega⟩
 rw [hw]
 clear hw
 have hx : Reg.Ext W ((W.drewN nq1).drewN nq) := (Reg.Ext.drewN _ _).trans (Reg.Ext.drewN _ _)
 clear c2 k0 k1 f0 f1 f2
 generalize (W.drewN nq1).drewN nq = w1 at hx ⊢
 have hD1 := hD.ext hx
 have c2 := hD1.c.2.2.1
 have f2 := hD1.blk.frozen 2
 have hbk := hD1.file e0 hm
 have k0 := hbk.cell 0
 have k1 := hbk.cell 1
 have f0 := hbk.frozen 0
 have f1 := hbk.frozen 1
 dsimp only [List.getElem?_cons_zero, List.getElem?_cons_succ] at k0 k1
 rw [hvk.out] at k0
 have hrow := y_ (hD1.row e0 hm)
 have hbk2 := y_ hbk
 have hdg := (hD1.out e0 hm e0.g (mem_blocks.2 (.inl rfl))).1
 clear hbk hsf hmk hkk
 go_wp2
 go_region
 go_wp2
 go_end0
 have hA : Dk (w1.setCell ⟨d, 2, none⟩ (.int .i64 (s.used - (e0.f.l.length - k)))) d mp es { s with used := s.used - (e0.f.l.length - k) } := hD1.setH (s' := { s with used := s.used - (e0.f.l.length - k) }) 2 _ rfl
 have hT : Turn d mp W es (w1.setCell ⟨d, 2, none⟩ (.int .i64 (s.used - (e0.f.l.length - k)))) es := (Turn.ext hx).trans (Turn.of_but (But.set_ d w1 2 _))
 generalize w1.setCell ⟨d, 2, none⟩ (.int .i64 (s.used - (e0.f.l.length - k))) = w2 at hA hT ⊢
 have hr2 := hA.row e0 hm
 have hb2 := hA.file e0 hm
 have ho2 : (Value.slice A k cap).ownBlock = e0.v.ownBlock := by rw [hvk.out]; cases A <;> rfl
 have hr3 : PRow w2 (.slice A k cap) (e0.f.l.take k) := by
  rw [hvk.out] at hr2
  exact hr2.cut k hkl
 obtain ⟨h5, h6⟩ := hA.setRow hm (.slice A k cap) (e0.f.l.take k) k hr3 (World.grownBy.refl w2 _) (.inl ho2) ((w2.setCell ⟨e0.g, 0, none⟩ (.slice A k cap)).setCell ⟨e0.g, 1, none⟩ (.int .i64 (k : Int))) ((But.set_ e0.g w2 0 _).trans (But.set_ e0.g _ 1 _)) ((hb2.set_ 0 _).set_ 1 _)
 exact ⟨rfl, .slice A k cap, h5.ext (Reg.Ext.drew _), hT.trans (h6.trans (Turn.ext (Reg.Ext.drew _)))⟩
end Plk
end Go.Proofs.YtafeealbdpmdkaaGreatDoor

/- Sync, Append: a file turns. -/
import Derived.Test.YtbiikihapfpkfaaPlkH
set_option linter.unusedSimpArgs false
set_option linter.unusedVariables false
set_option linter.unusedSectionVars false
namespace Go.Proofs.Ytbiikihapfpkfaa
open Go Go.RowKit
theorem PRow.wp_push {ops : Array Oper} {rest : List Oper} {o : Oper} {a : Act} {Q : Exit → Act → World → Prop} (hgd : o.guard = none) (sl x : Operand) (ho : o.op = .call { callee := .builtin .append, args := #[sl, x], argTypes := #[67, 9] })
    (v : Value) (l : List UInt8) (hs : a.eval sl = v) (W : World) (s : ByteArray) (hb : PRow W v l) (hx : a.eval x = .string s) (hl : l.length + s.size ≤ 1099511627776)
    (h : ∀ v' w', PRow w' v' (l ++ s.data.toList) → W.grownBy w' v.ownBlock → (v'.ownBlock = v.ownBlock ∨ ∃ g, v'.ownBlock = some g ∧ W.heap.size ≤ g) → wpList Try.prog ops Q rest (a.put o.dst v') w') : wpList Try.prog ops Q (o :: rest) a W := by
  refine wpList_plain hgd fun K' hK' => ?_
  obtain ⟨v', w', hr, h1, h2, h3⟩ := hb.run_push s o.type hl
  unfold Oper.wp
  simp [execOp, ho, resolve, invoke, builtin, hs, hx, hr, Result.andThen]
  exact hK' _ _ (h v' w' h1 h2 h3)
namespace Plk
theorem begin_keep (s : H) (ns : List (List UInt8)) : (s.begin ns).2.room = s.room ∧ (s.begin ns).2.used = s.used ∧ s.ops ≤ (s.begin ns).2.ops ∧ (s.begin ns).2.ops ≤ s.ops + 1 := by
  unfold H.begin
  repeat' split
  all_goals exact ⟨rfl, rfl, by dsimp only; omega, by dsimp only; omega⟩
theorem find_keep (s : H) (es : List E) (n : List UInt8) : (s.find es n).2.1 = (s.begin [n]).2 := by
  unfold H.find
  split
  · rfl
  · split <;> rfl
theorem find_none_ {s : H} {es : List E} {n : List UInt8} (h : (s.find es n).2.2 = none) : (s.find es n).1 ≠ 0 := by
  unfold H.find at h ⊢
  by_cases he : (s.begin [n]).1 ≠ 0
  · rw [if_pos he]; exact he
  · rw [if_neg he] at h ⊢
    cases hg : Nmd.get E.nm n es with
    | none => show (7 : Int) ≠ 0; decide
    | some e => rw [hg] at h; cases h
theorem find_some_ {s : H} {es : List E} {n : List UInt8} {e : E} (h : (s.find es n).2.2 = some e) : (s.find es n).1 = 0 ∧ Nmd.get E.nm n es = some e ∧ e ∈ es ∧ e.nm = n ∧ n.length ≤ 80 := by
  unfold H.find at h ⊢
  by_cases he : (s.begin [n]).1 ≠ 0
  · rw [if_pos he] at h; cases h
  · rw [if_neg he] at h ⊢
    cases hg : Nmd.get E.nm n es with
    | none => rw [hg] at h; cases h
    | some e' =>
      rw [hg] at h
      injection h with h
      subst h
      have := Nmd.get_mem hg
      exact ⟨rfl, rfl, this.1, this.2, begin_ok (Decidable.not_not.1 he) n (List.mem_singleton.2 rfl)⟩
def P.find (p : P) (n : List UInt8) : Int × H × Option F :=
  if (p.h.begin [n]).1 ≠ 0 then ((p.h.begin [n]).1, (p.h.begin [n]).2, none) else match Nmd.get F.name n p.fs with
    | none => (7, (p.h.begin [n]).2, none)
    | some f => (0, (p.h.begin [n]).2, some f)
theorem find_pl (es : List E) (s : H) (n : List UInt8) : (pl es s).find n = ((s.find es n).1, (s.find es n).2.1, (s.find es n).2.2.map E.f) := by
  unfold P.find H.find pl
  dsimp only
  rw [get_pl]
  by_cases he : (s.begin [n]).1 ≠ 0
  · rw [if_pos he, if_pos he]; rfl
  · rw [if_neg he, if_neg he]
    cases Nmd.get E.nm n es <;> rfl
def P.sync (p : P) (n : List UInt8) : Int × P := match (p.find n).2.2 with
  | none => ((p.find n).1, ⟨p.fs, (p.find n).2.1⟩)
  | some f => (0, ⟨Nmd.upd F.name ⟨f.name, f.l, f.l.length⟩ p.fs, (p.find n).2.1⟩)
def P.append (p : P) (n t : List UInt8) : Int × P := match (p.find n).2.2 with
  | none => ((p.find n).1, ⟨p.fs, (p.find n).2.1⟩)
  | some f => if p.h.room - p.h.used < t.length then (6, ⟨p.fs, (p.find n).2.1⟩)
    else (0, ⟨Nmd.upd F.name ⟨f.name, f.l ++ t, f.safe⟩ p.fs, { (p.find n).2.1 with used := (p.find n).2.1.used + t.length }⟩)
theorem Turn.upd {w w' : World} {d mp : Nat} {es : List E} {e e' : E} (he : e ∈ es) (hos : w'.os = w.os ∧ w'.tape = w.tape ∧ w'.output = w.output ∧ w.heap.size ≤ w'.heap.size)
    (hk : ∀ i, i < w.heap.size → i ∉ e.blocks → w'.heap[i]? = w.heap[i]?) (hb : ∀ x ∈ e'.blocks, x ∈ e.blocks ∨ w.heap.size ≤ x) : Turn d mp w es w' (Nmd.upd E.nm e' es) := by
  refine ⟨hos.1, hos.2.1, hos.2.2.1, hos.2.2.2, fun i hi hn => hk i hi fun h => hn (.inr (.inr ⟨e, he, h⟩)), fun i hi => ?_⟩
  rcases own_upd hi with h | h
  · rcases hb i h with h | h
    · exact .inl (.inr (.inr ⟨e, he, h⟩))
    · exact .inr h
  · exact .inl h
theorem pl_upd (es : List E) (e : E) (s : H) : pl (Nmd.upd E.nm e es) s = ⟨Nmd.upd F.name e.f (es.map E.f), s⟩ := by
  unfold pl
  rw [← Nmd.upd_map F.name E.f]
theorem Dk.setSafe {w : World} {d mp : Nat} {es : List E} {s : H} (h : Dk w d mp es s) {e : E} (he : e ∈ es) (k : Nat) :
    Dk (w.setCell ⟨e.g, 1, none⟩ (.int .i64 (k : Int))) d mp (Nmd.upd E.nm ⟨⟨e.f.name, e.f.l, k⟩, e.g, e.v⟩ es) s ∧ Turn d mp w es (w.setCell ⟨e.g, 1, none⟩ (.int .i64 (k : Int))) (Nmd.upd E.nm ⟨⟨e.f.name, e.f.l, k⟩, e.g, e.v⟩ es) := by
  have hoth : ∀ i, i ≠ e.g → (w.setCell ⟨e.g, 1, none⟩ (.int .i64 (k : Int))).heap[i]? = w.heap[i]? := fun i hi => Below.heap_setCell w ⟨e.g, 1, none⟩ _ i hi
  have hB := But.set_ e.g w 1 (.int .i64 (k : Int))
  refine ⟨h.entry (e' := ⟨⟨e.f.name, e.f.l, k⟩, e.g, e.v⟩) he rfl rfl (fun i hi hn => hoth i fun e1 => hn (mem_blocks.2 (.inl e1))) ((h.file e he).set_ 1 _) ?_ ?_, Turn.upd (e' := ⟨⟨e.f.name, e.f.l, k⟩, e.g, e.v⟩) he ⟨hB.os, hB.tape, hB.output, hB.size⟩ (fun i hi hn => hoth i fun e1 => hn (mem_blocks.2 (.inl e1))) fun x hx => .inl (mem_blocks.2 (mem_blocks.1 hx))⟩
  · exact (h.row e he).same fun x hx => hoth x fun e1 => h.self e he (by rw [hx, e1])
  · intro x hx
    exact .inl ⟨fun e1 => h.self e he (by rw [← e1]; exact hx), mem_blocks.2 (.inr hx)⟩
set_option maxHeartbeats 1000000 in
theorem sync_any (W : World) (d mp : Nat) (es : List E) (s : H) (hD : Dk W d mp es s) (n : List UInt8) (h0 : 0 ≤ s.ops) (h1 : s.ops < 4611686018427387904) :
    Calls Try.prog 12 #[.pointer (some ⟨d, 0, none⟩), str n] W fun e w' => ∃ es' s',
      e = .returned (.int .i64 ((pl es s).sync n).1) ∧ Dk w' d mp es' s' ∧ Turn d mp W es w' es' ∧ pl es' s' = ((pl es s).sync n).2 := by
  have hf := find_any W d mp es s hD n h0 h1
  have hn1 := find_none_ (s := s) (es := es) (n := n)
  have hs1 := @find_some_ s es n
  generalize hr : (pl es s).sync n = r
  unfold P.sync at hr
  rw [find_pl] at hr
  dsimp only at hr
  generalize s.find es n = q at hf hn1 hs1 hr
  obtain ⟨er, s1, o⟩ := q
  dsimp only at hf hn1 hs1 hr
  cases o with
  | none =>
    have he := beq_eq_false_iff_ne.2 (hn1 rfl)
    clear hn1 hs1
    dsimp only [Option.map_none] at hr
    subst hr
    unfold str ptrV at hf
    unfold str
    go_enter Try.func12, Try.ntmps12
    go_wp2_with (go_at_call 43; refine hf.mono ?_; rintro e w1 ⟨rfl, hD1, hb1⟩)
    go_ret
    exact ⟨es, s1, rfl, hD1, Turn.of_but hb1, rfl⟩
  | some e0 =>
    obtain ⟨he, hg, hm, hnm, hn⟩ := hs1 rfl
    clear hn1 hs1 hg
    dsimp only [Option.map_some] at hr
    subst he hr
    unfold str ptrV at hf
    unfold str
    go_enter Try.func12, Try.ntmps12
    obtain ⟨A, cap, hv⟩ := (hD.row e0 hm).form
    have hvk := Lib.hid hv
    clear hv hnm
    go_wp2_with (go_at_call 43; refine hf.mono ?_; rintro e w1 ⟨rfl, hD1, hb1⟩; have hbk := hD1.file e0 hm; have k0 := hbk.cell 0; have k1 := hbk.cell 1; have fz1 := hbk.frozen 1; dsimp only [List.getElem?_cons_zero, List.getElem?_cons_succ] at k0 k1; rw [hvk.out] at k0; clear hbk)
    go_ret
    obtain ⟨h2, h3⟩ := hD1.setSafe hm e0.f.l.length
    exact ⟨_, s1, rfl, h2, (Turn.of_but hb1).trans h3, pl_upd _ _ _⟩
end Plk
end Go.Proofs.Ytbiikihapfpkfaa

/- Create. -/
import Derived.Test.YtbiikihapfpkfaaPlkC
set_option linter.unusedSimpArgs false
set_option linter.unusedVariables false
set_option linter.unusedSectionVars false
namespace Go.Proofs.Ytbiikihapfpkfaa
open Go Go.RowKit
namespace Plk
def pl (es : List E) (s : H) : P := ⟨es.map E.f, s⟩
def P.create (p : P) (n : List UInt8) : Int × P :=
  if (p.h.begin [n]).1 ≠ 0 then ((p.h.begin [n]).1, ⟨p.fs, (p.h.begin [n]).2⟩) else if (Nmd.get F.name n p.fs).isSome = true then (9, ⟨p.fs, (p.h.begin [n]).2⟩)
  else if 200 ≤ p.fs.length then (6, ⟨p.fs, (p.h.begin [n]).2⟩) else (0, ⟨Nmd.ins F.name ⟨n, [], 0⟩ p.fs, (p.h.begin [n]).2⟩)
theorem get_pl (es : List E) (n : List UInt8) : Nmd.get F.name n (es.map E.f) = (Nmd.get E.nm n es).map E.f := Nmd.get_map F.name E.f n es
theorem ptrR_some (g : Nat) : ptrR (.pointer (some ⟨g, 0, none⟩)) = some (.lit (.int .i64 ((g : Int) + 1)), []) := rfl
/-- a file more, by the map's store -/
theorem Dk.added {w w1 : World} {d mp : Nat} {es : List E} {s : H} {D : DataW Unit} (h : Dk w d mp es s) (n : List UInt8) (hg : Nmd.get E.nm n es = none) (hD : MapD D es) (g : Nat) (v : Value) (l : List UInt8) (k : Nat)
    (hf : Blk w g 69 [v, .int .i64 (k : Int)]) (hr : PRow w v l) (hs : v.ownBlock ≠ some g) (hb : ¬ Own d mp es g ∧ ∀ x, v.ownBlock = some x → ¬ Own d mp es x)
    (hm0 : w.ownsMap Try.prog 9 ptrR mp es.length D)
    (hm : w1.ownsMap Try.prog 9 ptrR mp (es.length + 1) (D.put (.string n) (.lit (.int .i64 ((g : Int) + 1))))) (ht : w.mapTurned w1 mp) : Dk w1 d mp (Nmd.ins E.nm ⟨⟨n, l, k⟩, g, v⟩ es) s ∧ w.grownBy w1 (some mp) := by
  have hgr := ht.grown
  have hk : ∀ i, i < w.heap.size → i ≠ mp → w1.heap[i]? = w.heap[i]? := fun i hi hne => hgr.block i hi fun e => hne (by injection e)
  have hgm : g ≠ mp := fun e => hb.1 (.inr (.inl e))
  refine ⟨h.add (e := ⟨⟨n, l, k⟩, g, v⟩) (Nmd.get_none hg) hD (hm0.tidy (Maps.string_keyed Try.underlying9)) hm hk ?_ ?_ hs ?_, hgr⟩
  · exact (hk g hf.lt hgm).trans hf
  · exact hr.same fun x hx => hk x (hr.lt hx) fun e => hb.2 x hx (.inr (.inl e))
  · intro x hx
    rcases mem_blocks.1 hx with rfl | hx
    · exact hb.1
    · exact hb.2 x hx
theorem Turn.add {w w0 w1 : World} {d mp : Nat} {es es0 : List E} (h : Turn d mp w es w0 es0) (hg : w0.grownBy w1 (some mp)) (e : E) (hb : ∀ x ∈ e.blocks, Own d mp es x ∨ w.heap.size ≤ x) : Turn d mp w es w1 (Nmd.ins E.nm e es0) := by
  refine ⟨hg.os.trans h.os, hg.tape.trans h.tape, hg.output.trans h.output, Nat.le_trans h.size hg.size, fun i hi hn => ?_, fun i hi => ?_⟩
  · exact (hg.block i (Nat.lt_of_lt_of_le hi h.size) fun e => hn (.inr (.inl (by injection e)))).trans (h.kept i hi hn)
  · rcases own_add hi with hi | hi
    · exact hb i hi
    · exact h.own i hi
theorem wpList_len_dk {P : Program} (w : World) {ops : Array Oper} {rest : List Oper} {o : Oper} {a : Act} {Q : Exit → Act → World → Prop} (hg : o.guard = none) (m : Operand) (t : TypeId) (hop : o.op = Op.call { callee := Callee.builtin Builtin.len, args := #[m], argTypes := #[t] })
    (k e : TypeId) (ht : P.underlying t = some (.map k e)) (R : Value → Option (DataW Unit × List MemPlace)) (b n0 n : Nat) (D : DataW Unit) (hm : a.eval m = .map (some b)) (hown : w.ownsMap P k R b n0 D) (hs : Maps.size D = n)
    (hK : wpList P ops Q rest (a.put o.dst (.int .i64 n)) w) : wpList P ops Q (o :: rest) a w :=
  wpList_len_own w hg m t hop k e ht R b n0 D hm hown (by rw [hs]; exact hK)
set_option maxHeartbeats 1000000 in
set_option maxRecDepth 100000 in
theorem create_any (W : World) (d mp : Nat) (es : List E) (s : H) (hD : Dk W d mp es s) (n : List UInt8) (h0 : 0 ≤ s.ops) (h1 : s.ops < 4611686018427387904) (hc : es.length ≤ 200) :
    Calls Try.prog 9 #[.pointer (some ⟨d, 0, none⟩), str n] W fun e w' => ∃ es' s',
      e = .returned (.int .i64 ((pl es s).create n).1) ∧ Dk w' d mp es' s' ∧ Turn d mp W es w' es' ∧ pl es' s' = ((pl es s).create n).2 := by
  have hxa := Reg.Ext.alloc W (.cells #[str n] 9)
  have hb := begin_any _ d mp es s (hD.ext hxa) [n] W.heap.size (one_cells W n) (show 1 ≤ 9 by decide) 1 h0 h1
  have hok := begin_ok (s := s) (ns := [n])
  generalize hr : (pl es s).create n = r
  unfold P.create pl at hr
  dsimp only at hr
  generalize s.begin [n] = b at hb hok hr
  obtain ⟨er, s1⟩ := b
  dsimp only at hb hok hr
  rw [get_pl, Option.isSome_map, List.length_map] at hr
  have kun := Maps.string_keyed Try.underlying9
  by_cases he : er = 0
  · have hn := hok he n (List.mem_singleton.2 rfl)
    clear hok
    subst he
    rw [if_neg (fun h => h rfl)] at hr
    cases hg : Nmd.get E.nm n es with
    | some e0 =>
      rw [hg, if_pos (show (some e0).isSome = true from rfl)] at hr
      subst hr
      unfold str at hb ⊢
      change Calls _ _ #[_, .slice _ 1 1] _ _ at hb
      go_enter Try.func9, Try.ntmps9
      go_wp2_with (go_at_call 42; refine hb.mono ?_; rintro e w1 ⟨rfl, hD1, hb1⟩; have c0 := hD1.c.1; have hl := hD1.look n (by unfold maxLen; omega); rw [hg] at hl; unfold str ptrV at hl)
      go_ret
      exact ⟨es, s1, rfl, hD1, (Turn.ext hxa).trans (Turn.of_but hb1), rfl⟩
    | none =>
      rw [hg, if_neg (by decide)] at hr
      obtain ⟨kk, hkk0⟩ : ∃ kk, kk = es.length := ⟨_, rfl⟩
      have hkk := Lib.hid hkk0
      rw [← hkk0] at hr
      have hcm := Lib.hid (show es.length < maxLen by unfold maxLen; omega)
      clear hkk0 hc h0 h1
      by_cases h2 : 200 ≤ kk
      · rw [if_pos h2] at hr
        subst hr
        unfold str at hb ⊢
        change Calls _ _ #[_, .slice _ 1 1] _ _ at hb
        go_enter Try.func9, Try.ntmps9
        go_wp2_with (first | (go_at_call 42; refine hb.mono ?_; rintro e w1 ⟨rfl, hD1, hb1⟩; have c0 := hD1.c.1; have hl := hD1.look n (by unfold maxLen; omega); rw [hg] at hl; unfold str ptrV at hl; obtain ⟨D, hm0, hMD0⟩ := hD1.map; have hm := Lib.hid hm0; have hMD := Lib.hid hMD0; clear hm0 hMD0) | (at_len; refine wpList_len_dk _ rfl _ _ rfl _ _ Try.underlying60 ptrR mp _ _ _ rfl hm.out (hMD.out.1.trans hkk.out.symm) ?_))
        go_ret
        exact ⟨es, s1, rfl, hD1, (Turn.ext hxa).trans (Turn.of_but hb1), rfl⟩
      · rw [if_neg h2] at hr
        subst hr
        unfold str at hb ⊢
        change Calls _ _ #[_, .slice _ 1 1] _ _ at hb
        go_enter Try.func9, Try.ntmps9
        go_wp2_with (first | (go_at_call 42; refine hb.mono ?_; rintro e w1 ⟨rfl, hD1, hb1⟩; have c0 := hD1.c.1; have hl := hD1.look n (by unfold maxLen; omega); rw [hg] at hl; unfold str ptrV at hl; obtain ⟨D, hm0, hMD0⟩ := hD1.map; have hm := Lib.hid hm0; have hMD := Lib.hid hMD0; clear hm0 hMD0) | (at_len; refine wpList_len_dk _ rfl _ _ rfl _ _ Try.underlying60 ptrR mp _ _ _ rfl hm.out (hMD.out.1.trans hkk.out.symm) ?_) | (at_mapUpdate; refine wpList_mapUpdate_in _ rfl _ _ _ _ rfl _ _ kun Try.underlying60 ptrR mp _ _ rfl (hm.out.alloc _) hcm.out _ _ _ rfl rfl (str_key n (by unfold maxLen; omega)) _ [] (ptrR_some _) ?_; intro w2 hm2 ht2))
        go_ret
        have hal := Reg.Ext.alloc w1 (.cells #[.slice none 0 0, .int .i64 0] 69)
        obtain ⟨hD2, hg2⟩ := (hD1.ext hal).added n hg hMD.out w1.heap.size (.slice none 0 0) [] 0 (Blk.new w1 _ _) (PRow.nil_ _) (by simp [Value.ownBlock]) ⟨fun ho => absurd (hD1.own_lt ho) (Nat.lt_irrefl _), fun x hx => by cases hx⟩ (hm.out.alloc _) hm2 ht2
        refine ⟨_, s1, rfl, hD2, ?_, ?_⟩
        · refine ((Turn.ext hxa).trans (Turn.of_but hb1)).trans ((Turn.ext hal).add hg2 _ fun x hx => ?_)
          rcases mem_blocks.1 hx with rfl | hx
          · exact .inr (Nat.le_refl _)
          · cases hx
        · unfold pl
          rw [← Nmd.ins_map F.name E.f]
  · rw [if_pos he] at hr
    subst hr
    have he' : (er == 0) = false := beq_eq_false_iff_ne.2 he
    clear hok
    unfold str at hb ⊢
    change Calls _ _ #[_, .slice _ 1 1] _ _ at hb
    go_enter Try.func9, Try.ntmps9
    go_wp2_with (go_at_call 42; refine hb.mono ?_; rintro e w1 ⟨rfl, hD1, hb1⟩)
    go_ret
    exact ⟨es, s1, rfl, hD1, (Turn.ext hxa).trans (Turn.of_but hb1), rfl⟩
end Plk
end Go.Proofs.Ytbiikihapfpkfaa

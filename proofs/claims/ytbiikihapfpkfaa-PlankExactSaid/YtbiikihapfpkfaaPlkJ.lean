/- Append: a file turns. -/
import Derived.Test.YtbiikihapfpkfaaPlkI
set_option linter.unusedSimpArgs false
set_option linter.unusedVariables false
set_option linter.unusedSectionVars false
namespace Go.Proofs.Ytbiikihapfpkfaa
open Go Go.RowKit
namespace Plk
theorem Dk.grown {w w2 : World} {d mp : Nat} {es : List E} {s : H} (h : Dk w d mp es s) {e : E} (he : e ∈ es) (hg : w.grownBy w2 e.v.ownBlock) : Blk w2 d 64 (s.head mp) ∧ Blk w2 e.g 69 [e.v, .int .i64 (e.f.safe : Int)] := by
  refine ⟨(hg.block d h.blk.lt fun e1 => ?_).trans h.blk, (hg.block e.g (h.file e he).lt fun e1 => h.self e he e1.symm).trans (h.file e he)⟩
  exact (h.out e he d (mem_blocks.2 (.inr e1.symm))).1 rfl
theorem Dk.setRow {w w2 : World} {d mp : Nat} {es : List E} {s : H} (h : Dk w d mp es s) {e : E} (he : e ∈ es) (v' : Value) (l' : List UInt8) (k : Nat) (hr : PRow w2 v' l') (hg : w.grownBy w2 e.v.ownBlock)
    (ho : v'.ownBlock = e.v.ownBlock ∨ ∃ g, v'.ownBlock = some g ∧ w.heap.size ≤ g) (w3 : World) (hB : But e.g w2 w3) (hb3 : Blk w3 e.g 69 [v', .int .i64 (k : Int)]) :
    Dk w3 d mp (Nmd.upd E.nm ⟨⟨e.f.name, l', k⟩, e.g, v'⟩ es) s ∧ Turn d mp w es w3 (Nmd.upd E.nm ⟨⟨e.f.name, l', k⟩, e.g, v'⟩ es) := by
  have hk : ∀ i, i < w.heap.size → i ∉ e.blocks → w3.heap[i]? = w.heap[i]? := fun i hi hn =>
    (hB.block i (Nat.lt_of_lt_of_le hi hg.size) fun e1 => hn (mem_blocks.2 (.inl (by injection e1)))).trans (hg.block i hi fun e1 => hn (mem_blocks.2 (.inr e1.symm)))
  have hne : ∀ x, v'.ownBlock = some x → x ≠ e.g := by
    intro x hx e1
    subst e1
    rcases ho with h1 | ⟨g, h1, h2⟩
    · exact h.self e he (by rw [← h1]; exact hx)
    · rw [hx] at h1
      injection h1 with h1
      have := (h.file e he).lt
      omega
  refine ⟨h.entry (e' := ⟨⟨e.f.name, l', k⟩, e.g, v'⟩) he rfl rfl hk hb3 ?_ ?_, Turn.upd (e' := ⟨⟨e.f.name, l', k⟩, e.g, v'⟩) he ⟨hB.os.trans hg.os, hB.tape.trans hg.tape, hB.output.trans hg.output, Nat.le_trans hg.size hB.size⟩ hk ?_⟩
  · exact hr.same fun x hx => hB.block x (hr.lt hx) fun e1 => hne x hx (by injection e1)
  · intro x hx
    rcases ho with h1 | ⟨g, h1, h2⟩
    · exact .inl ⟨hne x hx, mem_blocks.2 (.inr (by rw [← h1]; exact hx))⟩
    · have hx : v'.ownBlock = some x := hx
      rw [hx] at h1
      injection h1 with h1
      exact .inr (by omega)
  · intro x hx
    rcases mem_blocks.1 hx with h3 | hx
    · exact .inl (mem_blocks.2 (.inl h3))
    · rcases ho with h1 | ⟨g, h1, h2⟩
      · exact .inl (mem_blocks.2 (.inr (by rw [← h1]; exact hx)))
      · have hx : v'.ownBlock = some x := hx
        rw [hx] at h1
        injection h1 with h1
        exact .inr (by omega)
/-- an operation gave r -/
def Res (d mp : Nat) (W : World) (es : List E) (r : Int × P) (e : Ending) (w' : World) : Prop := ∃ es' s', e = .returned (.int .i64 r.1) ∧ Dk w' d mp es' s' ∧ Turn d mp W es w' es' ∧ pl es' s' = r.2
theorem append_pl (es : List E) (s : H) (n t : List UInt8) : (pl es s).append n t = match (s.find es n).2.2 with
  | none => ((s.find es n).1, ⟨es.map E.f, (s.find es n).2.1⟩)
  | some e => if s.room - s.used < t.length then (6, ⟨es.map E.f, (s.find es n).2.1⟩)
    else (0, ⟨Nmd.upd F.name ⟨e.f.name, e.f.l ++ t, e.f.safe⟩ (es.map E.f), { (s.find es n).2.1 with used := (s.find es n).2.1.used + t.length }⟩) := by
  unfold P.append
  rw [find_pl]
  cases (s.find es n).2.2 <;> rfl
set_option maxRecDepth 100000 in
set_option maxHeartbeats 1000000 in
theorem append_any (W : World) (d mp : Nat) (es : List E) (s : H) (hD : Dk W d mp es s) (n t : List UInt8) (h0 : 0 ≤ s.ops) (h1 : s.ops < 4611686018427387904) (hu : 0 ≤ s.used ∧ s.used ≤ s.room ∧ s.room ≤ 4194304) (hle : ∀ e ∈ es, e.f.l.length ≤ 4194304) (ht : t.length ≤ 4294967296) :
    Calls Try.prog 11 #[.pointer (some ⟨d, 0, none⟩), str n, str t] W (Res d mp W es ((pl es s).append n t)) := by
  have hf := find_any W d mp es s hD n h0 h1
  have hn1 := find_none_ (s := s) (es := es) (n := n)
  have hs1 := @find_some_ s es n
  have hkp := begin_keep s [n]
  rw [← find_keep s es n] at hkp
  generalize hr : (pl es s).append n t = r
  rw [append_pl] at hr
  generalize s.find es n = q at hf hn1 hs1 hr hkp
  obtain ⟨er, s1, o⟩ := q
  dsimp only at hf hn1 hs1 hr hkp
  have hsz : (⟨t.toArray⟩ : ByteArray).size = t.length := by simp [ByteArray.size]
  cases o with
  | none =>
    have he := beq_eq_false_iff_ne.2 (hn1 rfl)
    clear hn1 hs1 hkp hu hle ht hsz
    subst hr
    unfold str ptrV at hf
    unfold str
    go_enter Try.func11, Try.ntmps11
    go_wp2_with (go_at_call 43; refine hf.mono ?_; rintro e w1 ⟨rfl, hD1, hb1⟩)
    go_ret
    exact ⟨es, s1, rfl, hD1, Turn.of_but hb1, rfl⟩
  | some e0 =>
    obtain ⟨he, hg, hm, hnm, hn⟩ := hs1 rfl
    have hl0 := hle e0 hm
    clear hn1 hs1 hg hle
    subst he
    unfold str ptrV at hf
    unfold str
    obtain ⟨A, cap, hv⟩ := (hD.row e0 hm).form
    have hvk := Lib.hid hv
    clear hv hnm h0 h1
    obtain ⟨k1, k2, _, _⟩ := hkp
    obtain ⟨room, used, ops, off, ak, af, al⟩ := s1
    dsimp only at k1 k2 hr
    subst k1 k2
    obtain ⟨u1, u2, u3⟩ := hu
    go_enter Try.func11, Try.ntmps11
    by_cases hfull : s.room - s.used < t.length
    · rw [if_pos hfull] at hr
      subst hr
      go_wp2_with (go_at_call 43; refine hf.mono ?_; rintro e w1 ⟨rfl, hD1, hb1⟩; obtain ⟨c0, c1, c2, c3, c4, c5, c6, c7⟩ := hD1.c; dsimp only at c1 c2)
      go_quiet (fail)
      go_wp2
      go_ret
      exact ⟨es, _, rfl, hD1.ext (Reg.Ext.drewN _ _), (Turn.of_but hb1).trans (Turn.ext (Reg.Ext.drewN _ _)), rfl⟩
    · rw [if_neg hfull] at hr
      subst hr
      go_wp2_with (go_at_call 43; refine hf.mono ?_; rintro e w1 ⟨rfl, hD1, hb1⟩; obtain ⟨c0, c1, c2, c3, c4, c5, c6, c7⟩ := hD1.c; dsimp only at c1 c2)
      go_quiet (fail)
      have hx := Reg.Ext.drewN w1 nq
      generalize w1.drewN nq = w4 at hx ⊢
      have hD4 := hD1.ext hx
      clear c0 c1 c2 c3 c4 c5 c6 c7
      have hbk := hD4.file e0 hm
      have k0 := hbk.cell 0
      dsimp only [List.getElem?_cons_zero] at k0
      clear hbk
      have hrow := Lib.hid (hD4.row e0 hm)
      have hdg := (hD4.out e0 hm e0.g (mem_blocks.2 (.inl rfl))).1
      go_wp2_with (first | (refine PRow.wp_push rfl (.tmp 36) (.tmp 37) rfl e0.v e0.f.l rfl _ ⟨t.toArray⟩ hrow.out rfl (by rw [hsz]; omega) ?_; intro v2 w2 hr2 hg2 ho2; obtain ⟨A2, cp2, hv2⟩ := hr2.form; subst hv2; have hgr := hD4.grown hm hg2; have c2 := hgr.1.cell 2; have f2 := hgr.1.frozen 2; have f0 := hgr.2.frozen 0; have k2 := hgr.2.cell 0; have hgk := Lib.hid hgr; clear hgr; dsimp only [H.head, List.getElem?_cons_zero, List.getElem?_cons_succ] at c2 k2))
      go_ret
      have hr3 : PRow w2 (.slice A2 (e0.f.l.length + t.length) cp2) (e0.f.l ++ t) := by
        have h := hr2
        simpa only [List.length_append] using h
      obtain ⟨h5, h6⟩ := hD4.setRow hm (.slice A2 (e0.f.l.length + t.length) cp2) (e0.f.l ++ t) e0.f.safe hr3 hg2 (by simpa only [List.length_append] using ho2) _ (But.set_ e0.g w2 0 _) (hgk.out.2.set_ 0 _)
      have h7 := h5.setH (s' := { room := s.room, used := s.used + t.length, ops := ops, off := off, ak := ak, af := af, al := al }) 2 (.int .i64 (s.used + t.length)) rfl
      exact ⟨_, _, rfl, h7, ((Turn.of_but hb1).trans (Turn.ext hx)).trans (h6.trans (Turn.of_but (But.set_ d _ 2 _))), pl_upd _ _ _⟩
end Plk
end Go.Proofs.Ytbiikihapfpkfaa

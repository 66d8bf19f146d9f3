/- Slices of texts and of fields that a call makes and appends to; rows that lie elsewhere. -/
import Derived.Test.YtglnefmaphajaaaDoorFlds
import Derived.Test.YtglnefmaphajaaaDoorOwn
set_option linter.unusedSimpArgs false
set_option linter.unusedVariables false
set_option linter.unusedSectionVars false
namespace Go.Proofs.YtglnefmaphajaaaDoor
open Go Go.RowKit
def scells (xs : List ByteArray) : List Value := xs.map strV
theorem Tryd.strInfo : (Tryd.prog.info? 9).map (fun i => (i.zero, i.size, i.bytes)) = some (some (.string ⟨#[]⟩), 1, 16) := by kernel_rfl
theorem strInfo_of : ∃ i, Tryd.prog.info? 9 = some i ∧ i.zero = some (.string ⟨#[]⟩) ∧ i.size = 1 ∧ i.bytes = 16 := by
  obtain ⟨i, hi, h⟩ := Option.map_eq_some_iff.1 Tryd.strInfo
  simp only [Prod.mk.injEq] at h
  exact ⟨i, hi, h.1, h.2.1, h.2.2⟩
/-- v owns just these texts, in a block made since W0; all that there was in W0 is as it was -/
def SOwn (W0 w : World) (v : Value) (xs : List ByteArray) : Prop := w.ownsRow W0.heap.size 9 1 v xs.length (scells xs) ∧ Reg.Ext W0 w ∧ W0.heap.size ≤ w.heap.size
theorem SOwn.ext {W0 w : World} {v : Value} {xs : List ByteArray} (h : SOwn W0 w v xs) : Reg.Ext W0 w := h.2.1
theorem SOwn.nil_ (W0 w : World) (hx : Reg.Ext W0 w) : SOwn W0 w (.slice none 0 0) [] := ⟨⟨rfl, .inl ⟨rfl, rfl⟩⟩, hx, hx.size⟩
theorem SOwn.later {W0 w w' : World} {v : Value} {xs : List ByteArray} (h : SOwn W0 w v xs) (hx : Reg.Ext w w') : SOwn W0 w' v xs := ⟨own_ext h.1 hx, h.2.1.trans hx, Nat.le_trans h.2.2 hx.size⟩
theorem FOwn.later {W0 w w' : World} {v : Value} {fs : List Fld} (h : FOwn W0 w v fs) (hx : Reg.Ext w w') : FOwn W0 w' v fs := ⟨own_ext h.1 hx, h.2.1.trans hx, Nat.le_trans h.2.2 hx.size⟩
theorem SOwn.rd {W0 w : World} {v : Value} {xs : List ByteArray} (h : SOwn W0 w v xs) : ∃ A cap, v = .slice A xs.length cap ∧ Rd w A (scells xs) ∧ ∀ ad, A = some ad → ∃ g, ad = ⟨g, 0, none⟩ ∧ W0.heap.size ≤ g := own_rd h.1
theorem FOwn.rdo {W0 w : World} {v : Value} {fs : List Fld} (h : FOwn W0 w v fs) : ∃ A cap, v = .slice A fs.length cap ∧ Rd w A (fcells fs) ∧ ∀ ad, A = some ad → ∃ g, ad = ⟨g, 0, none⟩ ∧ W0.heap.size ≤ g := own_rd h.1
section
variable {ops : Array Oper} {rest : List Oper} {o : Oper} {a : Act} {Q : Exit → Act → World → Prop}
/-- append(v, text); the new text lies in block g -/
theorem SOwn.push (hgd : o.guard = none) (s x : Operand) (ho : o.op = .call { callee := .builtin .append, args := #[s, x], argTypes := #[23, 23] })
    (v : Value) (xs : List ByteArray) (new : ByteArray) (hs : a.eval s = v) (W0 W : World) (g : Nat) (hb : SOwn W0 W v xs) (hx : a.eval x = .slice (some ⟨g, 0, none⟩) 1 1) (hnew : W.cell? ⟨g, 0, none⟩ = some (.string new)) (hl : xs.length + 1 ≤ 1099511627776)
    (h : ∀ v' w', SOwn W0 w' v' (xs ++ [new]) → W.grownBy w' v.ownBlock → (v'.ownBlock = v.ownBlock ∨ v'.ownBlock = some W.heap.size) → wpList Tryd.prog ops Q rest (a.put o.dst v') w') : wpList Tryd.prog ops Q (o :: rest) a W := by
  obtain ⟨i, hi, hz, hsz, hby⟩ := strInfo_of
  refine Go.wpList_append_own_at W hgd s x 23 ho W0.heap.size 9 i (.string ⟨#[]⟩) 1 16 Tryd.underlying23 hi hz hsz hby rfl (by decide) v xs.length (scells xs) hs hb.1 ⟨g, 0, none⟩ 1 1 [.string new] hx rfl ?_ ?_ (by unfold maxLen; omega) (by omega) hb.2.2 ?_
  · intro j u hj
    cases j with
    | zero => injection hj with hj; subst hj; exact hnew
    | succ j => cases hj
  · intro u hu
    rw [List.mem_singleton.1 hu]; rfl
  · intro v' w' ho' hg _ hat
    refine h v' w' ⟨?_, Below.grown hb.2.1 hg hb.2.1.size (fun k hk => (hb.1.lt k hk).1), Nat.le_trans hb.2.2 hg.size⟩ hg hat
    unfold scells at ho' ⊢
    rw [List.length_append, List.map_append]
    exact ho'
/-- append(v, field) -/
theorem FOwn.push (hgd : o.guard = none) (s x : Operand) (ho : o.op = .call { callee := .builtin .append, args := #[s, x], argTypes := #[22, 22] })
    (v : Value) (fs : List Fld) (new : Fld) (hs : a.eval s = v) (W0 W : World) (g : Nat) (hb : FOwn W0 W v fs) (hx : a.eval x = .slice (some ⟨g, 0, none⟩) 1 1) (hnew : W.cell? ⟨g, 0, none⟩ = some (.string new.1)) (hnew2 : W.cell? ⟨g, 1, none⟩ = some (.string new.2)) (hl : fs.length + 1 ≤ 1099511627776)
    (h : ∀ v' w', FOwn W0 w' v' (fs ++ [new]) → W.grownBy w' v.ownBlock → (v'.ownBlock = v.ownBlock ∨ v'.ownBlock = some W.heap.size) → wpList Tryd.prog ops Q rest (a.put o.dst v') w') : wpList Tryd.prog ops Q (o :: rest) a W := by
  obtain ⟨i, hi, hz, hsz, hby⟩ := fldInfo_of
  refine Go.wpList_append_own_at W hgd s x 22 ho W0.heap.size 35 i (.agg #[.string ⟨#[]⟩, .string ⟨#[]⟩]) 2 32 Tryd.underlying22 hi hz hsz hby rfl (by decide) v fs.length (fcells fs) hs hb.1 ⟨g, 0, none⟩ 1 1 [.string new.1, .string new.2] hx rfl ?_ ?_ (by unfold maxLen; omega) (by omega) hb.2.2 ?_
  · intro j u hj
    match j, hj with
    | 0, hj => injection hj with hj; subst hj; exact hnew
    | 1, hj => injection hj with hj; subst hj; rw [add_plain]; exact hnew2
  · intro u hu
    rcases List.mem_cons.1 hu with rfl | hu
    · rfl
    · rw [List.mem_singleton.1 hu]; rfl
  · intro v' w' ho' hg _ hat
    refine h v' w' ⟨?_, Below.grown hb.2.1 hg hb.2.1.size (fun k hk => (hb.1.lt k hk).1), Nat.le_trans hb.2.2 hg.size⟩ hg hat
    rw [List.length_append, fcells_append]
    exact ho'
end
end Go.Proofs.YtglnefmaphajaaaDoor

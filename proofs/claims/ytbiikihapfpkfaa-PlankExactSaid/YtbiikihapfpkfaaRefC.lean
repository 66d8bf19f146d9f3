/- The document's disk: rows of files that grow, that turn. -/
import Derived.Test.YtbiikihapfpkfaaRefB
import Derived.Test.YtbiikihapfpkfaaOneRow
import Derived.Deep.MidRow
import Derived.StillTailTactics
set_option linter.unusedSimpArgs false
set_option linter.unusedVariables false
set_option linter.unusedSectionVars false
namespace Go.Proofs.Ytbiikihapfpkfaa
open Go Go.RowKit
namespace Rk
open Plk (F P H isName sum)
theorem file_range {w : World} {g o : Nat} {f : F} (h0 : w.cell? ⟨g, o, none⟩ = some (.string ⟨f.name.toArray⟩)) (h1 : w.cell? ⟨g, o + 1, none⟩ = some (.string ⟨f.l.toArray⟩)) (h2 : w.cell? ⟨g, o + 2, none⟩ = some (.int .i64 (f.safe : Int))) : w.rangeAt g o (fcs f) := by
  intro j v hv
  match j, hv with
  | 0, hv => injection hv with hv; subst hv; exact h0
  | 1, hv => injection hv with hv; subst hv; exact h1
  | 2, hv => injection hv with hv; subst hv; exact h2
theorem LV.range {w : World} {g cap : Nat} {fs : List F} (h : LV w (.slice (some ⟨g, 0, none⟩) fs.length cap) fs) (k : Nat) (hk : k < fs.length) : w.rangeAt g (k * 3) (fcs fs[k]) :=
  file_range ((h.at_ k hk 0 (by omega)).trans rfl) ((h.at_ k hk 1 (by omega)).trans rfl) ((h.at_ k hk 2 (by omega)).trans rfl)
theorem blk_range {w : World} {g : Nat} {t : TypeId} {cs : List Value} (h : Blk w g t cs) : w.rangeAt g 0 cs := by
  intro j v hv
  rw [Nat.zero_add]
  rw [h.cell j, hv]
section
variable {ops : Array Oper} {rest : List Oper} {o : Oper} {a : Act} {w : World} {Q : Exit → Act → World → Prop}
theorem wpList_file (hw : Region.wanted o (yielded ops a.tmps) = true) (x : Operand) (ho : o.op = .load 59 x)
    (g off : Nat) (hx : a.eval x = .pointer (some ⟨g, off, none⟩)) (f : F) (h0 : w.rangeAt g off (fcs f))
    (hk : wpList Try.prog ops Q rest (a.put o.dst (fval f)) w) : wpList Try.prog ops Q (o :: rest) a w := by
  unfold wpList
  rw [if_pos hw]
  exact .inl (wp_load_mid _ x ho g off hx (fcs f) _ h0 Try.fileUnd rfl Try.fileSize hk)
theorem still_file {Q : Act → Prop} (hw : Region.wanted o (yielded ops a.tmps) = true) (x : Operand) (ho : o.op = .load 59 x)
    (g off : Nat) (hx : a.eval x = .pointer (some ⟨g, off, none⟩)) (f : F) (h0 : w.rangeAt g off (fcs f))
    (hk : wpStill Try.prog ops w Q rest (a.put o.dst (fval f))) : wpStill Try.prog ops w Q (o :: rest) a := by
  unfold wpStill
  rw [if_pos hw]
  unfold Oper.still execOp
  simp only [ho, hx, Instr.loadAt, Instr.sureAddr, Sem.run_bind, Sem.run_pure, Result.andThen_ok, run_loadVar_mid w g off _ (fcs f) _ h0 Try.fileUnd rfl Try.fileSize]
  exact ⟨rfl, hk⟩
theorem wpList_stfile (hgd : o.guard = none) (x y : Operand) (ho : o.op = .store 59 x y)
    (g off : Nat) (f : F) (hx : a.eval x = .pointer (some ⟨g, off, none⟩)) (hy : a.eval y = fval f) (hth : w.there g off 3)
    (h : wpList Try.prog ops Q rest (a.put o.dst undef) (w.setCells g off (fcs f))) : wpList Try.prog ops Q (o :: rest) a w := by
  refine wpList_store_mid hgd 59 x y ho g off (fcs f).toArray hx hy ?_ Try.fileSize (by simp [fcs, Value.oneCell']) h
  exact hth
end
theorem newfile (w : World) (f : F) (cs : Array Value) (hl : cs.size = 3) : Blk ((w.alloc (Obj.cells cs 59)).setCells w.heap.size 0 (fcs f)) w.heap.size 59 (fcs f) ∧ Reg.Ext w ((w.alloc (Obj.cells cs 59)).setCells w.heap.size 0 (fcs f)) := by
  refine ⟨(Blk.new w _ cs).setAll _ (by simp [hl, fcs]), ?_⟩
  exact (Reg.Ext.alloc w _).trans_but (But.setCells w.heap.size _ 0 _) (Nat.le_refl _)
theorem lcs_set (fs : List F) (j : Nat) (hj : j < fs.length) (f : F) : lcs (fs.set j f) = (((lcs fs).set (j * 3) (.string ⟨f.name.toArray⟩)).set (j * 3 + 1) (.string ⟨f.l.toArray⟩)).set (j * 3 + 2) (.int .i64 (f.safe : Int)) := by
  induction fs generalizing j with
  | nil => cases hj
  | cons y fs ih =>
    cases j with
    | zero => rfl
    | succ j =>
      have := ih j (by simpa using hj)
      rw [List.set_cons_succ, lcs_cons, this, lcs_cons, show (j + 1) * 3 = j * 3 + 3 by omega]
      rfl
theorem LV.set_ {w : World} {g cap : Nat} {fs : List F} (h : LV w (.slice (some ⟨g, 0, none⟩) fs.length cap) fs) (j : Nat) (hj : j < fs.length) (f : F) :
    LV (w.setCells g (j * 3) (fcs f)) (.slice (some ⟨g, 0, none⟩) fs.length cap) (fs.set j f) ∧ w.grownBy (w.setCells g (j * 3) (fcs f)) (some g) ∧ w.there g (j * 3) 3 := by
  have h1 := World.ownsRow.stored h (j * 3) (.string ⟨f.name.toArray⟩)
  have h2 := World.ownsRow.stored h1.1 (j * 3 + 1) (.string ⟨f.l.toArray⟩)
  have h3 := World.ownsRow.stored h2.1 (j * 3 + 2) (.int .i64 (f.safe : Int))
  refine ⟨?_, But.setCells g _ _ _, fun i hi => ⟨?_, World.ownsRow.frozenAt h _⟩⟩
  · unfold LV
    rw [lcs_set fs j hj, List.length_set]
    exact h3.1
  · have := h.at_ j hj i hi
    rw [this]
    match i, hi with
    | 0, _ => rfl
    | 1, _ => rfl
    | 2, _ => rfl
section
variable {ops : Array Oper} {rest : List Oper} {o : Oper} {a : Act} {Q : Exit → Act → World → Prop}
/-- append(v, files...) -/
theorem pushAll (hgd : o.guard = none) (s x : Operand) (ho : o.op = .call { callee := .builtin .append, args := #[s, x], argTypes := #[55, 55] })
    (v : Value) (fs gs : List F) (hs : a.eval s = v) (W : World) (ad : Addr) (c : Nat) (hb : LV W v fs) (hx : a.eval x = .slice (some ad) gs.length c) (hnew : ∀ j u, (lcs gs)[j]? = some u → W.cell? (ad.add j) = some u) (hl : fs.length + gs.length ≤ 1000)
    (h : ∀ v' w', LV w' v' (fs ++ gs) → W.grownBy w' v.ownBlock → (v'.ownBlock = v.ownBlock ∨ v'.ownBlock = some W.heap.size) → wpList Try.prog ops Q rest (a.put o.dst v') w') : wpList Try.prog ops Q (o :: rest) a W := by
  obtain ⟨i, hi, hz, hsz, hby⟩ := fileInfo_of
  refine Go.wpList_append_own_at W hgd s x 55 ho 0 59 i (.agg #[.string ⟨#[]⟩, .string ⟨#[]⟩, .int .i64 0]) 3 40 Try.underlying55 hi hz hsz hby rfl (by decide) v fs.length (lcs fs) hs hb ad gs.length c (lcs gs) hx (lcs_len gs) hnew ?_ (by unfold maxLen; omega) (by omega) (Nat.zero_le _) ?_
  · intro u hu
    unfold lcs at hu
    rw [List.mem_flatMap] at hu
    obtain ⟨f, _, hu⟩ := hu
    unfold fcs at hu
    rcases List.mem_cons.1 hu with rfl | hu
    · rfl
    · rcases List.mem_cons.1 hu with rfl | hu
      · rfl
      · rw [List.mem_singleton.1 hu]; rfl
  · intro v' w' ho' hg _ hat
    refine h v' w' ?_ hg hat
    unfold LV
    rw [List.length_append, lcs_append]
    exact ho'
theorem push (hgd : o.guard = none) (s x : Operand) (ho : o.op = .call { callee := .builtin .append, args := #[s, x], argTypes := #[55, 55] })
    (v : Value) (fs : List F) (f : F) (hs : a.eval s = v) (W : World) (g : Nat) (hb : LV W v fs) (hx : a.eval x = .slice (some ⟨g, 0, none⟩) 1 1) (hnew : Blk W g 59 (fcs f)) (hl : fs.length + 1 ≤ 1000)
    (h : ∀ v' w', LV w' v' (fs ++ [f]) → W.grownBy w' v.ownBlock → (v'.ownBlock = v.ownBlock ∨ v'.ownBlock = some W.heap.size) → wpList Try.prog ops Q rest (a.put o.dst v') w') : wpList Try.prog ops Q (o :: rest) a W := by
  refine pushAll hgd s x ho v fs [f] hs W ⟨g, 0, none⟩ 1 hb hx (fun j u hj => ?_) hl h
  rw [add_plain, Nat.zero_add, hnew.cell j]
  rw [show lcs [f] = fcs f by simp [lcs]] at hj
  exact hj
theorem one_file (hgd : o.guard = none) (x : Operand) (ho : o.op = .buildSlice 55 1 #[(0, x)]) (f : F) (hx : a.eval x = fval f) (W : World)
    (h : wpList Try.prog ops Q rest (a.put o.dst (.slice (some ⟨W.heap.size, 0, none⟩) 1 1)) (W.alloc (.cells (fcs f).toArray 59))) : wpList Try.prog ops Q (o :: rest) a W := by
  obtain ⟨i, hi, hz, hsz, hby⟩ := fileInfo_of
  exact One.wpList_valw hgd _ (One.exec_one_row W _ o x 55 59 (fcs f).toArray ho hx i _ Try.underlying55 hi hz hsz (by simp [fcs]) (by simp [fcs])) h
end
theorem LV.nil_ (w : World) : LV (w.alloc (.cells #[] 59)) (.slice (some ⟨w.heap.size, 0, none⟩) 0 0) [] := World.ownsRow_made w #[] 0 (Nat.zero_le _) (Nat.zero_le _) rfl
theorem RD.grown {w w' : World} {b : Nat} {v : Value} {r : R} {g : Nat} (h : RD w b v r) (hg : w.grownBy w' (some g)) (hb : g ≠ b) (hv : v.ownBlock ≠ some g) : RD w' b v r :=
  ⟨(hg.block b h.blk.lt fun e => hb (by injection e with e; exact e.symm)).trans h.blk, h.row.kept hg (.inr hv), h.away⟩
theorem LV.lt {w : World} {v : Value} {fs : List F} (h : LV w v fs) {g : Nat} (hg : v.ownBlock = some g) : g < w.heap.size := (World.ownsRow.lt h g hg).2
/-- append to a new row, and the head has it -/
theorem RD.fresh {w w5 w' : World} {b g : Nat} {v v' : Value} {r : R} {fs : List F} (h : RD w b v r) (hx : Reg.Ext w w5) (hge : w.heap.size ≤ g) (hg : w5.grownBy w' (some g)) (hl : LV w' v' fs) (hat : v'.ownBlock = some g ∨ v'.ownBlock = some w5.heap.size) :
    RD w' b v r ∧ v'.ownBlock ≠ some b ∧ RD (w'.setCell ⟨b, 0, none⟩ v') b v' { r with l := fs } ∧ But b w (w'.setCell ⟨b, 0, none⟩ v') ∧ ∀ x, v'.ownBlock = some x → w.heap.size ≤ x := by
  have hb := h.blk.lt
  have h5 := h.ext hx
  have hgb : g ≠ b := by omega
  have hvg : v.ownBlock ≠ some g := fun e => by have := h.row.lt e; omega
  have hs := hx.size
  have hnb : v'.ownBlock ≠ some b := by
    rcases hat with e | e <;> rw [e] <;> intro e2 <;> injection e2 with e2 <;> omega
  have h6 := h5.grown hg hgb hvg
  refine ⟨h6, hnb, h6.turn fs hl hnb, ?_, fun x hx2 => ?_⟩
  · have e1 : But b w w' := ⟨hg.os.trans hx.os, hg.tape.trans hx.tape, hg.output.trans hx.output, Nat.le_trans hs hg.size, fun i hi _ => (hg.block i (by omega) fun e => by injection e with e; omega).trans (hx.block i hi)⟩
    exact e1.trans (But.set_ b w' 0 v')
  · rcases hat with e | e <;> rw [e] at hx2 <;> injection hx2 with hx2 <;> omega
set_option maxRecDepth 100000 in
set_option maxHeartbeats 1000000 in
theorem turn_any (w : World) (b : Nat) (v : Value) (r : R) (h : RD w b v r) (i : Nat) (f : F) (hi : i < r.l.length) (hl : r.l.length ≤ 200) :
    Calls Try.prog 52 #[.pointer (some ⟨b, 0, none⟩), .int .i64 (i : Int), fval f] w fun e w' => e = .returned (.tuple #[]) ∧ ∃ v', RD w' b v' { r with l := r.l.set i f } ∧ But b w w' ∧ Newer w v v' := by
  have HR := Lib.hid h
  rcases h.row.form with ⟨_, h2⟩ | ⟨g, cap, h2, hgl, _, _⟩
  · rw [h2] at hi; exact absurd hi (Nat.not_lt_zero _)
  subst h2
  clear h
  unfold fval fcs
  go_enter Try.func52, Try.ntmps52
  go_upto_region 1 with (fail)
  have hb5 : Blk (w.alloc (.cells #[.string ⟨f.name.toArray⟩, .string ⟨f.l.toArray⟩, .int .i64 (f.safe : Int)] 59)) w.heap.size 59 (fcs f) := Blk.new w _ _
  have hx5 := Reg.Ext.alloc w (.cells #[.string ⟨f.name.toArray⟩, .string ⟨f.l.toArray⟩, .int .i64 (f.safe : Int)] 59)
  generalize w.alloc (.cells #[.string ⟨f.name.toArray⟩, .string ⟨f.l.toArray⟩, .int .i64 (f.safe : Int)] 59) = w5 at *
  have hg5 : w.heap.size < w5.heap.size := hb5.lt
  have hx6 := Reg.Ext.alloc w5 (.cells #[] 59)
  have hn6 := LV.nil_ w5
  have hb6 := hb5.ext hx6
  have hs6 : w5.heap.size < (w5.alloc (.cells #[] 59)).heap.size := by simp
  obtain ⟨c0, _⟩ := (HR.out.ext (hx5.trans hx6)).c
  have HX := Lib.hid (hx5.trans hx6)
  have HN := Lib.hid hn6
  have HB := Lib.hid hb6
  clear hb5 hn6 hb6 hx5
  go_wp2_with (refine pushAll rfl (.tmp 7) (.tmp 11) rfl _ [] r.l rfl _ ⟨g, 0, none⟩ cap HN.out rfl (fun j u hj => World.ownsRow.cells (HR.out.ext HX.out).row rfl j u hj) (by show 0 + r.l.length ≤ 1000; omega) ?_; intro v2 w2 hl2 hg2 hat2; obtain ⟨k1, k2, k3, k4, k5⟩ := HR.out.fresh HX.out (g := w5.heap.size) (by omega) hg2 hl2 hat2; obtain ⟨A2, cap2, hv2⟩ := hl2.len; subst hv2; have c0 := k1.c.1; have f0 := k1.blk.frozen 0; have hg3 : (w5.alloc (.cells #[] 59)).grownBy w2 (some w5.heap.size) := hg2)
  have hbl := HR.out.blk.lt
  have hB1 : Blk w2 w.heap.size 59 (fcs f) := (hg3.block w.heap.size (by omega) (fun e => by injection e with e; omega)).trans HB.out
  have hB2 : Blk (w2.setCell ⟨b, 0, none⟩ (.slice A2 r.l.length cap2)) w.heap.size 59 (fcs f) :=
    (Below.heap_setCell w2 ⟨b, 0, none⟩ _ _ (by show w.heap.size ≠ b; omega)).trans hB1
  have q3 : RD (w2.setCell ⟨b, 0, none⟩ (.slice A2 r.l.length cap2)) b (.slice A2 r.l.length cap2) { r with l := r.l } := k3
  have q4 : But b w (w2.setCell ⟨b, 0, none⟩ (.slice A2 r.l.length cap2)) := k4
  have q5 : ∀ x, Value.ownBlock (.slice A2 r.l.length cap2) = some x → w.heap.size ≤ x := k5
  clear c0 f0 k1 k2 k3 k4 k5 hl2 hg2 hat2 hB1 hg3
  generalize w2.setCell ⟨b, 0, none⟩ (.slice A2 r.l.length cap2) = w3 at *
  rcases q3.row.form with ⟨_, h2⟩ | ⟨g2, cap3, h2, _, _, _⟩
  · have h2 : r.l = [] := h2
    rw [h2] at hi; exact absurd hi (Nat.not_lt_zero _)
  injection h2 with h2 _ h3
  subst h2 h3
  have c0 := q3.c.1
  obtain ⟨s1, s2, s3⟩ := LV.set_ (w := w3.drew) (World.ownsRow.drew q3.row) i hi f
  have K3 := Lib.hid q3
  have K4 := Lib.hid q4
  have K5 := Lib.hid q5
  have S1 := Lib.hid s1
  have S2 := Lib.hid s2
  have S3 := Lib.hid s3
  clear q3 q4 q5 s1 s2 s3
  have hR9 := blk_range hB2
  go_still_tail 7, (by kernel_rfl)
  refine still_file rfl _ rfl w.heap.size 0 rfl f hR9 ?_
  simp only [Act.put, Act.eval, List.setIfInBounds_toArray, List.set_cons_zero, List.set_cons_succ, Nat.reduceAdd, Array.getD_eq_getD_getElem?, List.getElem?_toArray, List.getElem?_cons_succ, List.getElem?_cons_zero, Option.getD_some]
  repeat still_step
  refine wpStill_nil ?_
  change wpList _ _ _ _ _ w3.drew
  refine wpList_stfile rfl _ _ rfl g2 (i * 3) f rfl rfl S3.out ?_
  simp only [Act.put, Act.eval, List.setIfInBounds_toArray, List.set_cons_zero, List.set_cons_succ, Nat.reduceAdd, Array.getD_eq_getD_getElem?, List.getElem?_toArray, List.getElem?_cons_succ, List.getElem?_cons_zero, Option.getD_some]
  go_wp2_with fail
  go_end0
  have hge2 := K5.out g2 rfl
  have hS2 : w3.drew.grownBy (w3.drew.setCells g2 (i * 3) (fcs f)) (some g2) := S2.out
  have hbl := HR.out.blk.lt
  have hk4 := K4.out
  refine ⟨rfl, _, ⟨(hS2.block b K3.out.blk.lt fun e => by injection e with e; omega).trans K3.out.blk, S1.out, K3.out.away⟩, ⟨hS2.os.trans hk4.os, hS2.tape.trans hk4.tape, hS2.output.trans hk4.output, Nat.le_trans hk4.size hS2.size, fun j hj hjb => ?_⟩, .inr K5.out⟩
  exact (hS2.block j (Nat.lt_of_lt_of_le hj hk4.size) fun e => by injection e with e; omega).trans (hk4.block j hj hjb)
end Rk
end Go.Proofs.Ytbiikihapfpkfaa

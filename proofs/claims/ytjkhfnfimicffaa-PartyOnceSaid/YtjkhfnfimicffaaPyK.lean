/- All who wait are told: the law's walk. -/
import Derived.Test.YtjkhfnfimicffaaPyJ
import Derived.Test.YtjkhfnfimicffaaPyW
set_option linter.unusedSimpArgs false
set_option linter.unusedVariables false
set_option linter.unusedSectionVars false
namespace Go.Proofs.Ytjkhfnfimicffaa
open Go Go.RowKit Go.Proofs Go.Sort Go.Lib Go.Shelf
namespace Py

theorem exec_idx {ρ : Operand → Value} {o : Oper} (x ix : Operand) (ho : o.op = .indexAddr 22 x ix) {ad : Addr} {len cap j : Nat} (hx : ρ x = .slice (some ad) len cap) (hi : ρ ix = .int .i64 (j : Int)) (hj : j < len) (w : World) :
    (execOp ρ o).run Try.prog w = .ok (.value (.pointer (some (ad.add j)))) w := by
  have h1 : (Instr.indexAt 22 (.slice (some ad) len cap) (.int .i64 (j : Int))).run Try.prog w = .ok (.pointer (some (ad.add j))) w := by
    have h2 := run_indexAt_slice (P := Try.prog) (w := w) 22 ad len cap .i64 (j : Int) (by kernel_rfl)
    rw [if_pos ⟨by omega, by omega⟩] at h2
    rw [h2]
    have hs : (Go.sizeOf (Try.prog.elem 22)).run Try.prog w = .ok 1 w := by as_aux_lemma => kernel_rfl
    rw [hs, Result.andThen_ok, Nat.mul_one]
    rfl
  simp [execOp, ho, hx, hi, h1, Result.andThen]
/-- a row that the law made, beside the flights -/
def RowO (W w : World) (h : Hd) (es : List E) (v : Value) (V : List Int) : Prop := RowI W.heap.size w v V ∧ ∀ g, v.ownBlock = some g → ¬ Own h es g
theorem RowO.turn {W w w' : World} {h : Hd} {es es' : List E} {v : Value} {V : List Int} (r : RowO W w h es v V) (t : Turn h w es w' es') : RowO W w' h es' v V := by
  refine ⟨r.1.same fun g hg => t.kept g (Go.Proofs.Ytjkhfnfimicffaa.own_lt r.1 hg) (r.2 g hg), fun g hg o => ?_⟩
  rcases t.own g o with h1 | h1
  · exact r.2 g hg h1
  · have := Go.Proofs.Ytjkhfnfimicffaa.own_lt r.1 hg; omega
/-- another row grows -/
theorem RowO.beside {W w w' : World} {h : Hd} {es : List E} {v u : Value} {V : List Int} (r : RowO W w h es v V) (hg : w.grownBy w' u.ownBlock) (hne : ∀ g, v.ownBlock = some g → u.ownBlock ≠ some g) : RowO W w' h es v V :=
  ⟨r.1.same fun g hv => hg.block g (Go.Proofs.Ytjkhfnfimicffaa.own_lt r.1 hv) fun e => hne g hv e.symm, r.2⟩
/-- the flights beside a row that grows -/
theorem Lw.beside {W w w' : World} {h : Hd} {es : List E} {p : P} {n : Nat} {u : Value} {V : List Int} (l : Lw W w h es p n) (r : RowO W w h es u V) (hg : w.grownBy w' u.ownBlock) : Lw W w' h es p n := by
  refine ⟨{ l.pn with pt := l.pn.pt.same fun i hi => hg.block i (l.pn.pt.own_lt hi) fun e => r.2 i e.symm hi }, ⟨hg.os.trans l.base.1.os, hg.tape.trans l.base.1.tape, hg.output.trans l.base.1.output, Nat.le_trans l.base.1.size hg.size, fun i hi => ?_⟩, l.base.2⟩
  refine (hg.block i (Nat.lt_of_lt_of_le hi l.base.1.size) fun e => ?_).trans (l.base.1.block i hi)
  have := (r.1.lt i e.symm).1
  omega
/-- behind append -/
theorem RowO.pushed {W w w' : World} {h : Hd} {es : List E} {u v' : Value} {V V' : List Int} (r : RowO W w h es u V) (ho : ∀ i, Own h es i → i < w.heap.size) (h1 : RowI W.heap.size w' v' V') (hat : v'.ownBlock = u.ownBlock ∨ v'.ownBlock = some w.heap.size) : RowO W w' h es v' V' := by
  refine ⟨h1, fun g hg o => ?_⟩
  rcases hat with e | e
  · exact r.2 g (by rw [← e]; exact hg) o
  · rw [e] at hg
    injection hg with hg
    have := ho g o
    omega
theorem row_made {B : Nat} {w : World} (hB : B ≤ w.heap.size) : RowI B (w.alloc (.cells #[] 3)) (.slice (some ⟨w.heap.size, 0, none⟩) 0 0) [] :=
  ⟨rfl, .inr ⟨_, 0, #[], rfl, hB, heap_alloc_new w _, Nat.le_refl _, Nat.zero_le _, rfl, rfl⟩⟩
def idOf (U : List Int) : Int := if U = [] then 0 else 1
/-- the flights of one key; the row that the law keeps -/
def St (W w : World) (h : Hd) (want : Value) (V U : List Int) (l : Int) (n : Nat) : Prop := ∃ es, Lw W w h es (on (lkey 1) U l) n ∧ RowO W w h es want V
theorem St.ext {W w w' : World} {h : Hd} {want : Value} {V U : List Int} {l : Int} {n : Nat} (s : St W w h want V U l n) (hx : Reg.Ext w w') : St W w' h want V U l n := by
  obtain ⟨es, h1, h2⟩ := s
  exact ⟨es, h1.ext hx, h2.turn (Turn.ext hx)⟩
theorem St.base {W w : World} {h : Hd} {want : Value} {V U : List Int} {l : Int} {n : Nat} (s : St W w h want V U l n) : Reg.Ext W w := by
  obtain ⟨es, h1, _⟩ := s
  exact h1.base.1
theorem St.push {W w w3 w4 : World} {h : Hd} {want v' : Value} {V V' U : List Int} {l : Int} {n : Nat} (s : St W w h want V U l n) (h3 : Reg.Ext w w3) (ho : RowI W.heap.size w4 v' V') (hg : w3.grownBy w4 want.ownBlock) (hat : v'.ownBlock = want.ownBlock ∨ v'.ownBlock = some w3.heap.size) : St W w4 h v' V' U l n := by
  obtain ⟨es, h1, h2⟩ := s.ext h3
  exact ⟨es, h1.beside h2 hg, h2.pushed (fun i hi => h1.pn.pt.own_lt hi) ho hat⟩
theorem St.more {W w : World} {h : Hd} {want : Value} {V U : List Int} {l : Int} {n m : Nat} (s : St W w h want V U l n) (hm : n ≤ m) : St W w h want V U l m := by
  obtain ⟨es, h1, h2⟩ := s
  exact ⟨es, ⟨h1.pn.more hm, h1.base⟩, h2⟩
/-- with a second row -/
def St2 (W w : World) (h : Hd) (want out : Value) (U V : List Int) (l : Int) : Prop := ∃ es, Lw W w h es (on (lkey 1) U l) 180 ∧ RowO W w h es want U ∧ RowO W w h es out V ∧ ∀ g, out.ownBlock = some g → want.ownBlock ≠ some g
theorem St2.ext {W w w' : World} {h : Hd} {want out : Value} {V U : List Int} {l : Int} (s : St2 W w h want out U V l) (hx : Reg.Ext w w') : St2 W w' h want out U V l := by
  obtain ⟨es, h1, h2, h3, h4⟩ := s
  exact ⟨es, h1.ext hx, h2.turn (Turn.ext hx), h3.turn (Turn.ext hx), h4⟩
theorem St2.base {W w : World} {h : Hd} {want out : Value} {V U : List Int} {l : Int} (s : St2 W w h want out U V l) : Reg.Ext W w := by
  obtain ⟨es, h1, _⟩ := s
  exact h1.base.1
theorem St2.push {W w w3 w4 : World} {h : Hd} {want out v' : Value} {V V' U : List Int} {l : Int} (s : St2 W w h want out U V l) (h3 : Reg.Ext w w3) (ho : RowI W.heap.size w4 v' V') (hg : w3.grownBy w4 out.ownBlock) (hat : v'.ownBlock = out.ownBlock ∨ v'.ownBlock = some w3.heap.size) : St2 W w4 h want v' U V' l := by
  obtain ⟨es, h1, h2, h5, h4⟩ := s.ext h3
  refine ⟨es, h1.beside h5 hg, h2.beside hg fun g e1 e2 => h4 g e2 e1, h5.pushed (fun i hi => h1.pn.pt.own_lt hi) ho hat, fun g e1 e2 => ?_⟩
  rcases hat with e | e
  · exact h4 g (by rw [← e]; exact e1) e2
  · rw [e] at e1
    injection e1 with e1
    have := Go.Proofs.Ytjkhfnfimicffaa.own_lt h2.1 e2
    omega
theorem St.with {W w : World} {h : Hd} {want : Value} {U : List Int} {l : Int} (s : St W w h want U U l 180) : St2 W (w.alloc (.cells #[] 3)) h want (.slice (some ⟨w.heap.size, 0, none⟩) 0 0) U [] l := by
  obtain ⟨es, h1, h2⟩ := s
  refine ⟨es, h1.ext (Reg.Ext.alloc _ _), h2.turn (Turn.ext (Reg.Ext.alloc _ _)), ⟨row_made h1.base.1.size, fun g hg o => ?_⟩, fun g hg e => ?_⟩
  · have : w.heap.size = g := by injection hg
    have := h1.pn.pt.own_lt o
    omega
  · have : w.heap.size = g := by injection hg
    have := Go.Proofs.Ytjkhfnfimicffaa.own_lt h2.1 e
    omega
/-- who leaves: the row of those who stay takes the other's place -/
def ResS (W : World) (h : Hd) (out : Value) (V : List Int) (l : Int) (v : Value) (e : Ending) (w' : World) : Prop := e = .returned v ∧ St W w' h out V V l 180
theorem St2.leave_in {W w : World} {h : Hd} {want out : Value} {U V : List Int} {l y : Int} (s : St2 W w h want out U V l) (hV : V = U.filter fun z => decide (z ≠ y)) (hy : wfI y) (hU : y ∈ U) :
    Calls Try.prog 10 #[.pointer (some ⟨h.d, 0, none⟩), .int .i64 y] w (ResS W h out V l (.tuple #[.int .i64 1, .bool (decide (V = []))])) := by
  obtain ⟨es, h1, h2, h3, h4⟩ := s
  have e := leave_on (lkey 1) U l y
  rw [if_pos hU, ← hV] at e
  refine (h1.leave y hy (by decide) e).mono ?_
  rintro e w' ⟨rfl, es', hl, ht⟩
  exact ⟨rfl, es', hl, h3.turn ht⟩
theorem St2.leave_out {W w : World} {h : Hd} {want out : Value} {U V : List Int} {l y : Int} (s : St2 W w h want out U V l) (hV : V = U.filter fun z => decide (z ≠ y)) (hy : wfI y) (hU : y ∉ U) :
    Calls Try.prog 10 #[.pointer (some ⟨h.d, 0, none⟩), .int .i64 y] w (ResS W h out V l (.tuple #[.int .i64 0, .bool false])) := by
  obtain ⟨es, h1, h2, h3, h4⟩ := s
  have e := leave_on (lkey 1) U l y
  rw [if_neg hU] at e
  have hVU : V = U := by
    rw [hV]
    exact List.filter_eq_self.2 fun z hz => by simp; exact fun e => hU (e ▸ hz)
  refine (h1.leave y hy (by decide) e).mono ?_
  rintro e w' ⟨rfl, es', hl, ht⟩
  refine ⟨rfl, es', ?_, h3.turn ht⟩
  rw [hVU]
  exact hl
set_option maxRecDepth 100000 in
set_option maxHeartbeats 8000000 in
theorem waits_law (qa qb : Option Addr) (ca cb : Nat) (ws ls : List Int) (W : World) (ha : Rd W qa (ws.map (Value.int .i64))) (hb : Rd W qb (ls.map (Value.int .i64))) (hwa : ∀ x ∈ ws, wfI x) (hwb : ∀ x ∈ ls, wfI x) :
    Calls Try.prog 3 #[.slice qa ws.length ca, .slice qb ls.length cb] W fun e w' => e = .returned (.bool true) ∧ Reg.Ext W w' := by
  have HAW := Lib.hid (awake_any W)
  have HA := Lib.hid ha
  have HB := Lib.hid hb
  have HWA := Lib.hid hwa
  have HWB := Lib.hid hwb
  clear ha hb hwa hwb
  by_cases h60 : 60 < ws.length
  · have q : decide ((60 : Int) < (ws.length : Int)) = true := decide_eq_true (by omega)
    go_enter Try.func3, Try.ntmps3
    go_wp2_with (go_at_call 6; refine (HAW.out).mono ?_; rintro e w1 ⟨rfl, hx1⟩)
    go_ret
    exact ⟨rfl, hx1⟩
  have q0 : decide ((60 : Int) < (ws.length : Int)) = false := decide_eq_false (by omega)
  by_cases h61 : 60 < ls.length
  · have q : decide ((60 : Int) < (ls.length : Int)) = true := decide_eq_true (by omega)
    go_enter Try.func3, Try.ntmps3
    go_wp2_with (go_at_call 6; refine (HAW.out).mono ?_; rintro e w1 ⟨rfl, hx1⟩)
    go_ret
    exact ⟨rfl, hx1⟩
  have q1 : decide ((60 : Int) < (ls.length : Int)) = false := decide_eq_false (by omega)
  have hla : ws.length ≤ 60 := by omega
  have hlb : ls.length ≤ 60 := by omega
  have HKF := Lib.hid (lkey_fine (n := 1) (wfI_of (by decide) (by decide)))
  clear h60 h61
  go_enter Try.func3, Try.ntmps3
  go_upto_region 8 with (first
    | (go_at_call 6; refine (HAW.out).mono ?_; rintro e w1 ⟨rfl, hx1⟩; have HN := Lib.hid (new_law hx1 1 (by decide) (by decide)); clear hx1 HAW)
    | (go_at_call 7; refine (HN.out).mono ?_; rintro e w2 ⟨h, rfl, hl2⟩; have HL2 := Lib.hid hl2; clear hl2 HN))
  refine wp_region_lit ?_
  refine wpList_any (by kernel_rfl) (.slice (some ⟨w2.heap.size, 0, none⟩) 0 0) (w2.alloc (.cells #[] 3)) (by kernel_rfl) ?_
  simp only [Act.put, Act.eval, List.setIfInBounds_toArray, List.set_cons_zero, List.set_cons_succ, Nat.reduceAdd, Array.getD_eq_getD_getElem?, List.getElem?_toArray, List.getElem?_cons_succ, List.getElem?_cons_zero, Option.getD_some]
  have HS0 : Hid (St W (w2.alloc (.cells #[] 3)) h (.slice (some ⟨w2.heap.size, 0, none⟩) 0 0) [] [] 0 0) := Lib.hid ⟨[], HL2.out.ext (Reg.Ext.alloc _ _), row_made HL2.out.base.1.size, fun g hg o => by
    have : w2.heap.size = g := by injection hg
    have := HL2.out.pn.pt.own_lt o
    omega⟩
  clear HL2
  generalize w2.alloc (.cells #[] 3) = w3 at *
  go_wp2_with fail
  go_loopw [7, 8, 9, 10, 11, 12] (fun want id i _ _ _ wr => ∃ (j : Nat) (U : List Int), i = .int .i64 (j : Int) ∧ j ≤ ws.length ∧ id = .int .i64 (idOf U) ∧ U.length ≤ j ∧ Hid (St W wr h want U U (idOf U) (3 * j))) (fun _ _ i _ _ _ _ => ws.length - (intOf i).toNat)
  case atStart => exact ⟨0, [], rfl, Nat.zero_le _, rfl, Nat.le_refl _, HS0⟩
  case round =>
    obtain ⟨j, U, rfl, hj, rfl, hU, HS⟩ := hrel
    by_cases hjs : j < ws.length
    · obtain ⟨ad, rfl, _, hc⟩ := HA.out j (by simpa using hjs)
      rw [List.getElem_map] at hc
      have hxw := Lib.hid (HWA.out _ (List.getElem_mem hjs))
      generalize ws[j] = x at hc hxw
      by_cases hxU : x ∈ U
      · as_aux_lemma =>
        -- {JO
        have HJ := Lib.hid (fun w es (l : Lw W w h es (on (lkey 1) U (idOf U)) (3 * j)) => l.join (lkey 1) HKF.out x hxw.out (by omega) (joinw_old (l := idOf U) hxU))
        clear hxU
        go_upto_region 13 with (fail)
        refine Ordl.begins (S := fun w => Reg.Ext W w) (z := 99) (by kernel_rfl) ?_
        refine Ordl.Bx.out (?_ : Ordl.Bx (Ordl.Any _ _ _ _ _ _ _ _ _ _))
        obtain ⟨es, hl0, hr0⟩ := HS.out
        have HL4 := Lib.hid (hl0.ext (Reg.Ext.drew wr))
        have HR4 := Lib.hid (hr0.turn (Turn.ext (Reg.Ext.drew wr)))
        clear hl0 hr0 HS
        generalize wr.drew = w4 at *
        have X0 : Reg.Ext W w4 := HL4.out.base.1
        refine Ordl.take (i := 0) (v := .pointer (some ⟨h.d, 0, none⟩)) rfl (by kernel_rfl) (by kernel_rfl) (by kernel_rfl) (by kernel_rfl) (fun _ _ _ h => h) (.inl ⟨by kernel_rfl, fun w _ => by as_aux_lemma => kernel_rfl⟩) X0 ?_
        simp only [List.getElem_toArray, List.getElem_cons_succ, List.getElem_cons_zero, Act.put, Act.eval, List.setIfInBounds_toArray, List.set_cons_zero, List.set_cons_succ, Nat.reduceAdd, Array.getD_eq_getD_getElem?, List.getElem?_toArray, List.getElem?_cons_succ, List.getElem?_cons_zero, Option.getD_some]
        refine Ordl.take (i := 2) (v := .slice (some ad) ws.length ca) rfl (by kernel_rfl) (by kernel_rfl) (by kernel_rfl) (by kernel_rfl) (fun _ _ _ h => h) (.inl ⟨by kernel_rfl, fun w _ => by as_aux_lemma => kernel_rfl⟩) X0 ?_
        simp only [List.getElem_toArray, List.getElem_cons_succ, List.getElem_cons_zero, Act.put, Act.eval, List.setIfInBounds_toArray, List.set_cons_zero, List.set_cons_succ, Nat.reduceAdd, Array.getD_eq_getD_getElem?, List.getElem?_toArray, List.getElem?_cons_succ, List.getElem?_cons_zero, Option.getD_some]
        refine Ordl.take (i := 3) (v := .int .i64 (j : Int)) rfl (by kernel_rfl) (by kernel_rfl) (by kernel_rfl) (by kernel_rfl) (fun _ _ _ h => h) (.inl ⟨by kernel_rfl, fun w _ => by as_aux_lemma => kernel_rfl⟩) X0 ?_
        simp only [List.getElem_toArray, List.getElem_cons_succ, List.getElem_cons_zero, Act.put, Act.eval, List.setIfInBounds_toArray, List.set_cons_zero, List.set_cons_succ, Nat.reduceAdd, Array.getD_eq_getD_getElem?, List.getElem?_toArray, List.getElem?_cons_succ, List.getElem?_cons_zero, Option.getD_some]
        refine Ordl.take (i := 4) (v := .pointer (some (ad.add j))) rfl (by kernel_rfl) (by kernel_rfl) (by kernel_rfl) (by kernel_rfl) (fun _ _ _ h => h) (.inl ⟨by kernel_rfl, fun w hS => exec_idx (cap := ca) (.tmp 60) (.tmp 61) rfl (by kernel_rfl) (by kernel_rfl) hjs w⟩) X0 ?_
        simp only [List.getElem_toArray, List.getElem_cons_succ, List.getElem_cons_zero, Act.put, Act.eval, List.setIfInBounds_toArray, List.set_cons_zero, List.set_cons_succ, Nat.reduceAdd, Array.getD_eq_getD_getElem?, List.getElem?_toArray, List.getElem?_cons_succ, List.getElem?_cons_zero, Option.getD_some]
        refine Ordl.take (i := 5) (v := .int .i64 x) rfl (by kernel_rfl) (by kernel_rfl) (by kernel_rfl) (by kernel_rfl) (fun _ _ _ h => h) (yields_load1 (by kernel_rfl) 3 (.tmp 62) rfl (ad.add j) (by kernel_rfl) (.int .i64 x) _ Try.underlying3 rfl (fun w h => h.at_ hc)) X0 ?_
        simp only [List.getElem_toArray, List.getElem_cons_succ, List.getElem_cons_zero, Act.put, Act.eval, List.setIfInBounds_toArray, List.set_cons_zero, List.set_cons_succ, Nat.reduceAdd, Array.getD_eq_getD_getElem?, List.getElem?_toArray, List.getElem?_cons_succ, List.getElem?_cons_zero, Option.getD_some]
        refine Ordl.one (i := 1) (by kernel_rfl) rfl ?_
        refine ⟨?_⟩
        repeat go_step
        refine (key_any 1 w4).mono ?_
        rintro e w5 ⟨rfl, hx5⟩
        have HL5 := Lib.hid (HL4.out.ext hx5)
        have HR5 := Lib.hid (HR4.out.turn (Turn.ext hx5))
        have X1 : Reg.Ext W w5 := HL5.out.base.1
        clear hx5 HL4 HR4 X0
        rename_i hK
        refine hK _ _ ?_
        clear hK
        refine Ordl.Bx.out (?_ : Ordl.Bx _)
        refine Ordl.fin X1 ?_
        clear X1
        refine Ordl.one (i := 6) (by kernel_rfl) rfl ?_
        refine ⟨?_⟩
        repeat go_step
        refine (HJ.out _ _ HL5.out).mono ?_
        rintro e w6 ⟨rfl, es6, hl6, ht6⟩
        have HL6 := Lib.hid hl6
        have HR6 := Lib.hid (HR5.out.turn ht6)
        have X0 : Reg.Ext W w6 := hl6.base.1
        clear hl6 ht6 HL5 HR5 HJ
        rename_i hK
        refine hK _ _ ?_
        clear hK
        refine Ordl.Bx.out (?_ : Ordl.Bx _)
        refine Ordl.fin X0 ?_
        refine Ordl.take (i := 7) (v := .tuple #[.int .i64 0, .bool false, .int .i64 9]) rfl (by kernel_rfl) (by kernel_rfl) (by kernel_rfl) (by kernel_rfl) (fun _ _ _ h => h) (.inl ⟨by kernel_rfl, fun w _ => by as_aux_lemma => kernel_rfl⟩) X0 ?_
        simp only [List.getElem_toArray, List.getElem_cons_succ, List.getElem_cons_zero, Act.put, Act.eval, List.setIfInBounds_toArray, List.set_cons_zero, List.set_cons_succ, Nat.reduceAdd, Array.getD_eq_getD_getElem?, List.getElem?_toArray, List.getElem?_cons_succ, List.getElem?_cons_zero, Option.getD_some]
        refine Ordl.take (i := 8) (v := .int .i64 0) rfl (by kernel_rfl) (by kernel_rfl) (by kernel_rfl) (by kernel_rfl) (fun _ _ _ h => h) (.inl ⟨by kernel_rfl, fun w _ => by as_aux_lemma => kernel_rfl⟩) X0 ?_
        simp only [List.getElem_toArray, List.getElem_cons_succ, List.getElem_cons_zero, Act.put, Act.eval, List.setIfInBounds_toArray, List.set_cons_zero, List.set_cons_succ, Nat.reduceAdd, Array.getD_eq_getD_getElem?, List.getElem?_toArray, List.getElem?_cons_succ, List.getElem?_cons_zero, Option.getD_some]
        refine Ordl.take (i := 9) (v := .bool false) rfl (by kernel_rfl) (by kernel_rfl) (by kernel_rfl) (by kernel_rfl) (fun _ _ _ h => h) (.inl ⟨by kernel_rfl, fun w _ => by as_aux_lemma => kernel_rfl⟩) X0 ?_
        simp only [List.getElem_toArray, List.getElem_cons_succ, List.getElem_cons_zero, Act.put, Act.eval, List.setIfInBounds_toArray, List.set_cons_zero, List.set_cons_succ, Nat.reduceAdd, Array.getD_eq_getD_getElem?, List.getElem?_toArray, List.getElem?_cons_succ, List.getElem?_cons_zero, Option.getD_some]
        refine Ordl.take (i := 10) (v := .int .i64 9) rfl (by kernel_rfl) (by kernel_rfl) (by kernel_rfl) (by kernel_rfl) (fun _ _ _ h => h) (.inl ⟨by kernel_rfl, fun w _ => by as_aux_lemma => kernel_rfl⟩) X0 ?_
        simp only [List.getElem_toArray, List.getElem_cons_succ, List.getElem_cons_zero, Act.put, Act.eval, List.setIfInBounds_toArray, List.set_cons_zero, List.set_cons_succ, Nat.reduceAdd, Array.getD_eq_getD_getElem?, List.getElem?_toArray, List.getElem?_cons_succ, List.getElem?_cons_zero, Option.getD_some]
        refine Ordl.take (i := 11) (v := .int .i64 0) rfl (by kernel_rfl) (by kernel_rfl) (by kernel_rfl) (by kernel_rfl) (fun _ _ _ h => h) (.inl ⟨by kernel_rfl, fun w _ => by as_aux_lemma => kernel_rfl⟩) X0 ?_
        simp only [List.getElem_toArray, List.getElem_cons_succ, List.getElem_cons_zero, Act.put, Act.eval, List.setIfInBounds_toArray, List.set_cons_zero, List.set_cons_succ, Nat.reduceAdd, Array.getD_eq_getD_getElem?, List.getElem?_toArray, List.getElem?_cons_succ, List.getElem?_cons_zero, Option.getD_some]
        refine Ordl.take (i := 12) (v := .bool false) rfl (by kernel_rfl) (by kernel_rfl) (by kernel_rfl) (by kernel_rfl) (fun _ _ _ h => h) (.inl ⟨by kernel_rfl, fun w _ => by as_aux_lemma => kernel_rfl⟩) X0 ?_
        simp only [List.getElem_toArray, List.getElem_cons_succ, List.getElem_cons_zero, Act.put, Act.eval, List.setIfInBounds_toArray, List.set_cons_zero, List.set_cons_succ, Nat.reduceAdd, Array.getD_eq_getD_getElem?, List.getElem?_toArray, List.getElem?_cons_succ, List.getElem?_cons_zero, Option.getD_some]
        refine Ordl.take (i := 13) (v := .int .i64 9) rfl (by kernel_rfl) (by kernel_rfl) (by kernel_rfl) (by kernel_rfl) (fun _ _ _ h => h) (.inl ⟨by kernel_rfl, fun w _ => by as_aux_lemma => kernel_rfl⟩) X0 ?_
        simp only [List.getElem_toArray, List.getElem_cons_succ, List.getElem_cons_zero, Act.put, Act.eval, List.setIfInBounds_toArray, List.set_cons_zero, List.set_cons_succ, Nat.reduceAdd, Array.getD_eq_getD_getElem?, List.getElem?_toArray, List.getElem?_cons_succ, List.getElem?_cons_zero, Option.getD_some]
        refine Ordl.done (by kernel_rfl) ?_ _
        go_wp2_with fail
        go_roundw
        case rel => exact ⟨j + 1, U, by go_num, by omega, rfl, by omega, Lib.hid ⟨es6, ⟨HL6.out.pn.more (by omega), HL6.out.base⟩, HR6.out⟩⟩
        case measure => simp [intOf]; omega
        -- JO}
      · as_aux_lemma =>
        -- {JW
        have HJ := Lib.hid (fun w es (l : Lw W w h es (on (lkey 1) U (idOf U)) (3 * j)) => l.join (lkey 1) HKF.out x hxw.out (by omega) (joinw_new (l := idOf U) hxU rfl))
        clear hxU
        go_upto_region 13 with (fail)
        refine Ordl.begins (S := fun w => Reg.Ext W w) (z := 99) (by kernel_rfl) ?_
        refine Ordl.Bx.out (?_ : Ordl.Bx (Ordl.Any _ _ _ _ _ _ _ _ _ _))
        obtain ⟨es, hl0, hr0⟩ := HS.out
        have HL4 := Lib.hid (hl0.ext (Reg.Ext.drew wr))
        have HR4 := Lib.hid (hr0.turn (Turn.ext (Reg.Ext.drew wr)))
        clear hl0 hr0 HS
        generalize wr.drew = w4 at *
        have X0 : Reg.Ext W w4 := HL4.out.base.1
        refine Ordl.take (i := 0) (v := .pointer (some ⟨h.d, 0, none⟩)) rfl (by kernel_rfl) (by kernel_rfl) (by kernel_rfl) (by kernel_rfl) (fun _ _ _ h => h) (.inl ⟨by kernel_rfl, fun w _ => by as_aux_lemma => kernel_rfl⟩) X0 ?_
        simp only [List.getElem_toArray, List.getElem_cons_succ, List.getElem_cons_zero, Act.put, Act.eval, List.setIfInBounds_toArray, List.set_cons_zero, List.set_cons_succ, Nat.reduceAdd, Array.getD_eq_getD_getElem?, List.getElem?_toArray, List.getElem?_cons_succ, List.getElem?_cons_zero, Option.getD_some]
        refine Ordl.take (i := 2) (v := .slice (some ad) ws.length ca) rfl (by kernel_rfl) (by kernel_rfl) (by kernel_rfl) (by kernel_rfl) (fun _ _ _ h => h) (.inl ⟨by kernel_rfl, fun w _ => by as_aux_lemma => kernel_rfl⟩) X0 ?_
        simp only [List.getElem_toArray, List.getElem_cons_succ, List.getElem_cons_zero, Act.put, Act.eval, List.setIfInBounds_toArray, List.set_cons_zero, List.set_cons_succ, Nat.reduceAdd, Array.getD_eq_getD_getElem?, List.getElem?_toArray, List.getElem?_cons_succ, List.getElem?_cons_zero, Option.getD_some]
        refine Ordl.take (i := 3) (v := .int .i64 (j : Int)) rfl (by kernel_rfl) (by kernel_rfl) (by kernel_rfl) (by kernel_rfl) (fun _ _ _ h => h) (.inl ⟨by kernel_rfl, fun w _ => by as_aux_lemma => kernel_rfl⟩) X0 ?_
        simp only [List.getElem_toArray, List.getElem_cons_succ, List.getElem_cons_zero, Act.put, Act.eval, List.setIfInBounds_toArray, List.set_cons_zero, List.set_cons_succ, Nat.reduceAdd, Array.getD_eq_getD_getElem?, List.getElem?_toArray, List.getElem?_cons_succ, List.getElem?_cons_zero, Option.getD_some]
        refine Ordl.take (i := 4) (v := .pointer (some (ad.add j))) rfl (by kernel_rfl) (by kernel_rfl) (by kernel_rfl) (by kernel_rfl) (fun _ _ _ h => h) (.inl ⟨by kernel_rfl, fun w hS => exec_idx (cap := ca) (.tmp 60) (.tmp 61) rfl (by kernel_rfl) (by kernel_rfl) hjs w⟩) X0 ?_
        simp only [List.getElem_toArray, List.getElem_cons_succ, List.getElem_cons_zero, Act.put, Act.eval, List.setIfInBounds_toArray, List.set_cons_zero, List.set_cons_succ, Nat.reduceAdd, Array.getD_eq_getD_getElem?, List.getElem?_toArray, List.getElem?_cons_succ, List.getElem?_cons_zero, Option.getD_some]
        refine Ordl.take (i := 5) (v := .int .i64 x) rfl (by kernel_rfl) (by kernel_rfl) (by kernel_rfl) (by kernel_rfl) (fun _ _ _ h => h) (yields_load1 (by kernel_rfl) 3 (.tmp 62) rfl (ad.add j) (by kernel_rfl) (.int .i64 x) _ Try.underlying3 rfl (fun w h => h.at_ hc)) X0 ?_
        simp only [List.getElem_toArray, List.getElem_cons_succ, List.getElem_cons_zero, Act.put, Act.eval, List.setIfInBounds_toArray, List.set_cons_zero, List.set_cons_succ, Nat.reduceAdd, Array.getD_eq_getD_getElem?, List.getElem?_toArray, List.getElem?_cons_succ, List.getElem?_cons_zero, Option.getD_some]
        refine Ordl.one (i := 1) (by kernel_rfl) rfl ?_
        refine ⟨?_⟩
        repeat go_step
        refine (key_any 1 w4).mono ?_
        rintro e w5 ⟨rfl, hx5⟩
        have HL5 := Lib.hid (HL4.out.ext hx5)
        have HR5 := Lib.hid (HR4.out.turn (Turn.ext hx5))
        have X1 : Reg.Ext W w5 := HL5.out.base.1
        clear hx5 HL4 HR4 X0
        rename_i hK
        refine hK _ _ ?_
        clear hK
        refine Ordl.Bx.out (?_ : Ordl.Bx _)
        refine Ordl.fin X1 ?_
        clear X1
        refine Ordl.one (i := 6) (by kernel_rfl) rfl ?_
        refine ⟨?_⟩
        repeat go_step
        refine (HJ.out _ _ HL5.out).mono ?_
        rintro e w6 ⟨rfl, es6, hl6, ht6⟩
        have HL6 := Lib.hid hl6
        have HR6 := Lib.hid (HR5.out.turn ht6)
        have X0 : Reg.Ext W w6 := hl6.base.1
        clear hl6 ht6 HL5 HR5 HJ
        rename_i hK
        refine hK _ _ ?_
        clear hK
        refine Ordl.Bx.out (?_ : Ordl.Bx _)
        refine Ordl.fin X0 ?_
        refine Ordl.take (i := 7) (v := .tuple #[.int .i64 1, .bool (decide (U = [])), .int .i64 0]) rfl (by kernel_rfl) (by kernel_rfl) (by kernel_rfl) (by kernel_rfl) (fun _ _ _ h => h) (.inl ⟨by kernel_rfl, fun w _ => by as_aux_lemma => kernel_rfl⟩) X0 ?_
        simp only [List.getElem_toArray, List.getElem_cons_succ, List.getElem_cons_zero, Act.put, Act.eval, List.setIfInBounds_toArray, List.set_cons_zero, List.set_cons_succ, Nat.reduceAdd, Array.getD_eq_getD_getElem?, List.getElem?_toArray, List.getElem?_cons_succ, List.getElem?_cons_zero, Option.getD_some]
        refine Ordl.take (i := 8) (v := .int .i64 1) rfl (by kernel_rfl) (by kernel_rfl) (by kernel_rfl) (by kernel_rfl) (fun _ _ _ h => h) (.inl ⟨by kernel_rfl, fun w _ => by as_aux_lemma => kernel_rfl⟩) X0 ?_
        simp only [List.getElem_toArray, List.getElem_cons_succ, List.getElem_cons_zero, Act.put, Act.eval, List.setIfInBounds_toArray, List.set_cons_zero, List.set_cons_succ, Nat.reduceAdd, Array.getD_eq_getD_getElem?, List.getElem?_toArray, List.getElem?_cons_succ, List.getElem?_cons_zero, Option.getD_some]
        refine Ordl.take (i := 9) (v := .bool (decide (U = []))) rfl (by kernel_rfl) (by kernel_rfl) (by kernel_rfl) (by kernel_rfl) (fun _ _ _ h => h) (.inl ⟨by kernel_rfl, fun w _ => by as_aux_lemma => kernel_rfl⟩) X0 ?_
        simp only [List.getElem_toArray, List.getElem_cons_succ, List.getElem_cons_zero, Act.put, Act.eval, List.setIfInBounds_toArray, List.set_cons_zero, List.set_cons_succ, Nat.reduceAdd, Array.getD_eq_getD_getElem?, List.getElem?_toArray, List.getElem?_cons_succ, List.getElem?_cons_zero, Option.getD_some]
        refine Ordl.take (i := 10) (v := .int .i64 0) rfl (by kernel_rfl) (by kernel_rfl) (by kernel_rfl) (by kernel_rfl) (fun _ _ _ h => h) (.inl ⟨by kernel_rfl, fun w _ => by as_aux_lemma => kernel_rfl⟩) X0 ?_
        simp only [List.getElem_toArray, List.getElem_cons_succ, List.getElem_cons_zero, Act.put, Act.eval, List.setIfInBounds_toArray, List.set_cons_zero, List.set_cons_succ, Nat.reduceAdd, Array.getD_eq_getD_getElem?, List.getElem?_toArray, List.getElem?_cons_succ, List.getElem?_cons_zero, Option.getD_some]
        refine Ordl.take (i := 11) (v := .int .i64 1) rfl (by kernel_rfl) (by kernel_rfl) (by kernel_rfl) (by kernel_rfl) (fun _ _ _ h => h) (.inl ⟨by kernel_rfl, fun w _ => by as_aux_lemma => kernel_rfl⟩) X0 ?_
        simp only [List.getElem_toArray, List.getElem_cons_succ, List.getElem_cons_zero, Act.put, Act.eval, List.setIfInBounds_toArray, List.set_cons_zero, List.set_cons_succ, Nat.reduceAdd, Array.getD_eq_getD_getElem?, List.getElem?_toArray, List.getElem?_cons_succ, List.getElem?_cons_zero, Option.getD_some]
        refine Ordl.take (i := 12) (v := .bool (decide (U = []))) rfl (by kernel_rfl) (by kernel_rfl) (by kernel_rfl) (by kernel_rfl) (fun _ _ _ h => h) (.inl ⟨by kernel_rfl, fun w _ => by as_aux_lemma => kernel_rfl⟩) X0 ?_
        simp only [List.getElem_toArray, List.getElem_cons_succ, List.getElem_cons_zero, Act.put, Act.eval, List.setIfInBounds_toArray, List.set_cons_zero, List.set_cons_succ, Nat.reduceAdd, Array.getD_eq_getD_getElem?, List.getElem?_toArray, List.getElem?_cons_succ, List.getElem?_cons_zero, Option.getD_some]
        refine Ordl.take (i := 13) (v := .int .i64 0) rfl (by kernel_rfl) (by kernel_rfl) (by kernel_rfl) (by kernel_rfl) (fun _ _ _ h => h) (.inl ⟨by kernel_rfl, fun w _ => by as_aux_lemma => kernel_rfl⟩) X0 ?_
        simp only [List.getElem_toArray, List.getElem_cons_succ, List.getElem_cons_zero, Act.put, Act.eval, List.setIfInBounds_toArray, List.set_cons_zero, List.set_cons_succ, Nat.reduceAdd, Array.getD_eq_getD_getElem?, List.getElem?_toArray, List.getElem?_cons_succ, List.getElem?_cons_zero, Option.getD_some]
        refine Ordl.done (by kernel_rfl) ?_ _
        have HS6 : Hid (St W w6 h u7 U (U ++ [x]) 1 (3 * j + 3)) := Lib.hid ⟨es6, HL6.out, HR6.out⟩
        have HR7 := Lib.hid (HR6.out.1)
        have HZ6 : Hid (W.heap.size ≤ w6.heap.size) := Lib.hid X0.size
        have yc := X0.at_ hc
        clear HL6 HR6 X0
        go_upto_region 16 with (fail)
        go_wp2_with (at_builtin; refine wpList_pushI rfl _ _ rfl u7 U x rfl W.heap.size _ w6.heap.size (own_ext HR7.out (Reg.Ext.alloc _ _)) (by have := HZ6.out; simp; omega) rfl (by simp) (by omega) ?_; intro v' w7 ho7 hg7 hat7; generalize hvl : (U ++ [x]).length = m7 at ho7; have HVL := Lib.hid hvl; clear hvl; obtain ⟨vA, vc, rfl, -, -⟩ := own_rd ho7; have HO7 := Lib.hid ho7; have HG7 := Lib.hid hg7; have HAT7 := Lib.hid hat7; clear ho7 hg7 hat7 yc)
        have HS7 : Hid (St W w7 h (.slice vA m7 vc) (U ++ [x]) (U ++ [x]) 1 (3 * j + 3)) := Lib.hid (HS6.out.push (Reg.Ext.alloc _ _) (by unfold RowI; rw [HVL.out]; exact HO7.out) HG7.out HAT7.out)
        have hid1 : idOf (U ++ [x]) = 1 := by unfold idOf; rw [if_neg (by simp)]
        go_roundw
        case rel => exact ⟨j + 1, U ++ [x], by go_num, by omega, by rw [hid1], by rw [List.length_append]; simp; omega, by rw [hid1]; exact HS7⟩
        case measure => simp [intOf]; omega
        -- JW}
    · have hje : j = ws.length := by omega
      subst hje
      obtain ⟨l, hl⟩ : ∃ l, idOf U = l := ⟨_, rfl⟩
      rw [hl] at HS ⊢
      have HU1 : Hid (U ≠ [] → l = 1) := Lib.hid fun e => by rw [← hl]; unfold idOf; rw [if_neg e]
      have HL01 : Hid (l = 0 ∨ l = 1) := Lib.hid (by rw [← hl]; unfold idOf; split <;> simp)
      have HS2 := Lib.hid (HS.out.more (m := 180) (by omega))
      have hU6 : U.length ≤ 60 := by omega
      clear HS hl hU
      go_wp2_with fail
      go_loopw [7, 13, 14, 15, 16, 17] (fun want i _ _ _ _ wr => ∃ (j : Nat) (U : List Int), i = .int .i64 (j : Int) ∧ j ≤ ls.length ∧ U.length ≤ 60 ∧ Hid (U ≠ [] → l = 1) ∧ Hid (St W wr h want U U l 180)) (fun _ i _ _ _ _ _ => ls.length - (intOf i).toNat)
      case atStart => exact ⟨0, U, rfl, Nat.zero_le _, hU6, HU1, HS2⟩
      clear HU1 HS2 hU6
      case round =>
        obtain ⟨j, U, rfl, hj, hU6, HU1, HS⟩ := hrel
        by_cases hjs : j < ls.length
        · obtain ⟨bd, rfl, _, hc⟩ := HB.out j (by simpa using hjs)
          rw [List.getElem_map] at hc
          have hyw := Lib.hid (HWB.out _ (List.getElem_mem hjs))
          generalize ls[j] = y at hc hyw
          have hCY := Lib.hid hc
          clear hc
          obtain ⟨es0, hl0, hr0⟩ := HS.out
          obtain ⟨wA, wc, rfl, -, -⟩ := own_rd hr0.1
          clear hl0 hr0
          go_upto_region 20 with (fail)
          refine wp_region_lit ?_
          refine wpList_any (by kernel_rfl) (.slice (some ⟨wr.heap.size, 0, none⟩) 0 0) (wr.alloc (.cells #[] 3)) (by kernel_rfl) ?_
          simp only [Act.put, Act.eval, List.setIfInBounds_toArray, List.set_cons_zero, List.set_cons_succ, Nat.reduceAdd, Array.getD_eq_getD_getElem?, List.getElem?_toArray, List.getElem?_cons_succ, List.getElem?_cons_zero, Option.getD_some]
          have HT0 : Hid (St2 W (wr.alloc (.cells #[] 3)) h (.slice wA U.length wc) (.slice (some ⟨wr.heap.size, 0, none⟩) 0 0) U [] l) := Lib.hid HS.out.with
          clear HS
          generalize wr.alloc (.cells #[] 3) = w5 at *
          go_wp2_with fail
          go_loopw [14, 15] (fun out k wr => ∃ (m : Nat) (V : List Int), k = .int .i64 (m : Int) ∧ m ≤ U.length ∧ V.length ≤ 60 ∧ Hid (V = (U.take m).filter fun z => decide (z ≠ y)) ∧ Hid (St2 W wr h (.slice wA U.length wc) out U V l)) (fun _ k _ => U.length - (intOf k).toNat)
          case atStart => exact ⟨0, [], rfl, Nat.zero_le _, by simp, Lib.hid rfl, HT0⟩
          clear HT0
          case round =>
            obtain ⟨m, V, rfl, hm, hV6, HV, HT⟩ := hrel
            by_cases hml : m < U.length
            · as_aux_lemma =>
              -- {IN
              have hne : U ≠ [] := fun e => by rw [e] at hml; exact absurd hml (Nat.not_lt_zero _)
              obtain ⟨es0, hl0, hr0, ho0, hap0⟩ := HT.out
              obtain ⟨g, cap, hf, -⟩ := hr0.1.form hne
              injection hf with hf1 _ hf3
              subst hf1 hf3
              have y0 := RowI.at_ hr0.1 m hml
              have y1 := HT.out.base.at_ hCY.out
              have HRO := Lib.hid ho0.1
              have HVL : Hid (V.length ≤ m) := Lib.hid (by rw [HV.out]; exact Nat.le_trans (List.length_filter_le _ _) (by rw [List.length_take]; omega))
              have HZ : Hid (W.heap.size ≤ wr.heap.size) := Lib.hid HT.out.base.size
              have HTK : Hid (∀ z, z = U[m] → U.take (m + 1) = U.take m ++ [z]) := Lib.hid fun z hz => by rw [hz]; exact List.take_succ_eq_append_getElem hml
              obtain ⟨z, hz⟩ : ∃ z, z = U[m] := ⟨_, rfl⟩
              rw [← hz] at y0
              have HTZ := Lib.hid (HTK.out z hz)
              clear hl0 hr0 ho0 hap0 hne HTK hz
              by_cases hzy : z = y
              · have q : (z != y) = false := by rw [hzy]; exact bne_self_eq_false _
                have HVn : Hid (V = (U.take (m + 1)).filter fun z => decide (z ≠ y)) := Lib.hid (by
                  rw [HTZ.out, List.filter_append, ← HV.out]
                  simp [hzy])
                clear hzy HVL
                go_wp2_with fail
                go_quiet (fail)
                go_wp2_with fail
                go_roundw
                case rel => exact ⟨m + 1, V, by go_num, by omega, hV6, HVn, Lib.hid (HT.out.ext (Reg.Ext.drewN _ _))⟩
                case measure => simp [intOf]; omega
              · have q : (z != y) = true := bne_iff_ne.2 hzy
                have HVn : Hid (V ++ [z] = (U.take (m + 1)).filter fun z => decide (z ≠ y)) := Lib.hid (by
                  rw [HTZ.out, List.filter_append, ← HV.out]
                  simp [hzy])
                clear hzy
                have hvm := HVL.out
                go_wp2_with fail
                go_quiet (fail)
                go_upto_region 25 with (fail)
                have HTq := Lib.hid (HT.out.ext (Reg.Ext.drewN wr nq))
                have HROq := Lib.hid (RowI.ext HRO.out (Reg.Ext.drewN wr nq))
                have yq := (Reg.Ext.drewN wr nq).at_ y0
                clear y0 y1 HT HRO
                generalize wr.drewN nq = wq at *
                have HZq : Hid (W.heap.size ≤ wq.heap.size) := Lib.hid HTq.out.base.size
                go_wp2_with (at_builtin; refine wpList_pushI rfl _ _ rfl u14 V z rfl W.heap.size _ wq.heap.size (own_ext HROq.out (Reg.Ext.alloc _ _)) (Nat.le_trans HZq.out (Reg.Ext.alloc _ _).size) rfl (by simp) (by omega) ?_; intro v' w7 ho7 hg7 hat7; generalize hvl : (V ++ [z]).length = m7 at ho7; have HV7 := Lib.hid hvl; clear hvl; obtain ⟨vA, vc, rfl, -, -⟩ := own_rd ho7; have HO7 := Lib.hid ho7; have HG7 := Lib.hid hg7; have HAT7 := Lib.hid hat7; clear ho7 hg7 hat7 yq)
                have HT7 : Hid (St2 W w7 h (.slice (some ⟨g, 0, none⟩) U.length wc) (.slice vA m7 vc) U (V ++ [z]) l) := Lib.hid (HTq.out.push (Reg.Ext.alloc _ _) (by unfold RowI; rw [HV7.out]; exact HO7.out) HG7.out HAT7.out)
                go_roundw
                case rel => exact ⟨m + 1, V ++ [z], by go_num, by omega, by rw [List.length_append]; simp; omega, HVn, HT7⟩
                case measure => simp [intOf]; omega
              -- IN}
            · have hme : m = U.length := by omega
              subst hme
              have hVf : V = U.filter fun z => decide (z ≠ y) := by
                have := HV.out
                rw [List.take_length] at this
                exact this
              have HVF := Lib.hid hVf
              obtain ⟨es0, hl0, hr0, ho0, hap0⟩ := HT.out
              obtain ⟨oA, oc, rfl, -, -⟩ := own_rd ho0.1
              have y1 := HT.out.base.at_ hCY.out
              have hVl : V.length ≤ U.length := by rw [hVf]; exact List.length_filter_le _ _
              clear hl0 hr0 ho0 hap0 hVf HV
              by_cases hyU : y ∈ U
              · as_aux_lemma =>
                -- {LI
                have hUn : U ≠ [] := fun e => by rw [e] at hyU; cases hyU
                have hl1 := HU1.out hUn
                subst hl1
                have hUp : 0 < U.length := List.length_pos_iff.2 hUn
                have hlt : V.length < U.length := by
                  have := filter_lt (W := U) (x := y)
                  rw [decide_eq_true hyU, ← HVF.out] at this
                  exact of_decide_eq_true this
                have qA : decide ((V.length : Int) < (U.length : Int)) = true := decide_eq_true (by omega)
                have qC : decide ((0 : Int) < (U.length : Int)) = true := decide_eq_true (by omega)
                have hlv := HT.out.leave_in HVF.out hyw.out hyU
                have HU2 : Hid (V ≠ [] → (1 : Int) = 1) := Lib.hid fun _ => rfl
                clear hUn hyU
                by_cases hVn : V = []
                · rw [decide_eq_true hVn] at hlv
                  have HLV := Lib.hid hlv
                  have nC : decide (0 < U.length) = true := decide_eq_true hUp
                  clear hlv hlt hVl qA
                  subst hVn
                  go_wp2_with (go_at_call 10; refine (HLV.out).mono ?_; rintro e w6 ⟨rfl, hs6⟩; have HS6 := Lib.hid hs6; clear hs6 y1)
                  go_roundw
                  case rel => exact ⟨j + 1, _, by go_num, by omega, hV6, HU2, HS6⟩
                  case measure => simp [intOf]; omega
                · rw [decide_eq_false hVn] at hlv
                  have qB : ((V.length : Int) == 0) = false := beq_eq_false_iff_ne.2 (by have := List.length_pos_iff.2 hVn; omega)
                  have HLV := Lib.hid hlv
                  have nA : decide (V.length < U.length) = true := decide_eq_true hlt
                  have nC : decide (0 < U.length) = true := decide_eq_true hUp
                  have nB : (V.length == 0) = false := beq_eq_false_iff_ne.2 (by have := List.length_pos_iff.2 hVn; omega)
                  clear hlv hVl
                  go_wp2_with (go_at_call 10; refine (HLV.out).mono ?_; rintro e w6 ⟨rfl, hs6⟩; have HS6 := Lib.hid hs6; clear hs6 y1)
                  go_roundw
                  case rel => exact ⟨j + 1, _, by go_num, by omega, hV6, HU2, HS6⟩
                  case measure => simp [intOf]; omega
                -- LI}
              · as_aux_lemma =>
                -- {LU
                have hVU : V = U := by
                  rw [HVF.out]
                  exact List.filter_eq_self.2 fun z hz => by simp; exact fun e => hyU (e ▸ hz)
                have HLV := Lib.hid (HT.out.leave_out HVF.out hyw.out hyU)
                have HU2 : Hid (V ≠ [] → l = 1) := Lib.hid (by rw [hVU]; exact HU1.out)
                clear hyU hVl
                subst hVU
                by_cases hU0 : V = []
                · subst hU0
                  rcases HL01.out with hl0 | hl0 <;> subst hl0
                  · skip
                    go_wp2_with (go_at_call 10; refine (HLV.out).mono ?_; rintro e w6 ⟨rfl, hs6⟩; have HS6 := Lib.hid hs6; clear hs6 y1)
                    go_roundw
                    case rel => exact ⟨j + 1, _, by go_num, by omega, hV6, HU2, HS6⟩
                    case measure => simp [intOf]; omega
                  · skip
                    go_wp2_with (go_at_call 10; refine (HLV.out).mono ?_; rintro e w6 ⟨rfl, hs6⟩; have HS6 := Lib.hid hs6; clear hs6 y1)
                    go_roundw
                    case rel => exact ⟨j + 1, _, by go_num, by omega, hV6, HU2, HS6⟩
                    case measure => simp [intOf]; omega
                · have hp := List.length_pos_iff.2 hU0
                  have nC : decide (0 < V.length) = true := decide_eq_true hp
                  have nB : (V.length == 0) = false := beq_eq_false_iff_ne.2 (by omega)
                  have qB : ((V.length : Int) == 0) = false := beq_eq_false_iff_ne.2 (by omega)
                  rcases HL01.out with hl0 | hl0 <;> subst hl0
                  · skip
                    go_wp2_with (go_at_call 10; refine (HLV.out).mono ?_; rintro e w6 ⟨rfl, hs6⟩; have HS6 := Lib.hid hs6; clear hs6 y1)
                    go_roundw
                    case rel => exact ⟨j + 1, _, by go_num, by omega, hV6, HU2, HS6⟩
                    case measure => simp [intOf]; omega
                  · skip
                    go_wp2_with (go_at_call 10; refine (HLV.out).mono ?_; rintro e w6 ⟨rfl, hs6⟩; have HS6 := Lib.hid hs6; clear hs6 y1)
                    go_roundw
                    case rel => exact ⟨j + 1, _, by go_num, by omega, hV6, HU2, HS6⟩
                    case measure => simp [intOf]; omega
                -- LU}
        · have hje : j = ls.length := by omega
          subst hje
          obtain ⟨es0, hl0, hr0⟩ := HS.out
          obtain ⟨wA, wc, rfl, -, -⟩ := own_rd hr0.1
          have HL0 := Lib.hid hl0
          have HR0 := Lib.hid hr0
          have hor : U = [] ∨ l = 1 := by
            by_cases hU : U = []
            · exact .inl hU
            · exact .inr (HU1.out hU)
          have hwl : wfI l := by rcases HL01.out with e | e <;> rw [e] <;> exact wfI_of (by decide) (by decide)
          have HE1 := Lib.hid (hl0.end_ l hwl (by decide) (end_on hor))
          have HE2 := Lib.hid (fun w es (hl : Lw W w h es (on (lkey 1) [] l) 180) => hl.end_ l hwl (by decide) (end_on (.inl rfl)))
          clear hl0 hr0 HS hor hwl HU1 HB HWB
          go_upto_region 33 with (first
            | (go_at_call 11; refine (HE1.out).mono ?_; rintro e w4 ⟨v', rfl, hr4, es4, hl4, ht4⟩; have HL4 := Lib.hid hl4; have HSM := Lib.hid (same_any hr4 (HR0.out.turn ht4).1 (by omega)); clear hl4 hr4 ht4 HE1 HL0 HR0)
            | (go_at_call 12; refine (HSM.out).mono ?_; rintro e w5 ⟨rfl, hx5⟩; have HL5 := Lib.hid (HL4.out.ext hx5); have HLN := Lib.hid (HL4.out.ext hx5).len; clear hx5 HL4 HSM)
            | (go_at_call 13; refine (HLN.out).mono ?_; rintro e w6 ⟨rfl, rfl⟩)
            | (go_at_call 11; refine (HE2.out _ _ HL5.out).mono ?_; rintro e w7 ⟨v', rfl, hr7, es7, hl7, ht7⟩; obtain ⟨pA, pc, rfl⟩ := row_nil hr7; have HL7 := Lib.hid hl7; clear hl7 hr7 ht7 HL5 HE2 HLN))
          go_wp2_with fail
          go_loopw [19, 20, 21] (fun i _ _ wr => ∃ m : Nat, i = .int .i64 (m : Int) ∧ m ≤ ws.length ∧ Hid (Lw W wr h es7 (on (lkey 1) [] l) 180)) (fun i _ _ _ => ws.length - (intOf i).toNat)
          case atStart => exact ⟨0, rfl, Nat.zero_le _, HL7⟩
          clear HL7
          case round =>
            obtain ⟨m, rfl, hm, HL⟩ := hrel
            by_cases hml : m < ws.length
            · obtain ⟨ad, rfl, _, hc⟩ := HA.out m (by simpa using hml)
              rw [List.getElem_map] at hc
              have hxw := Lib.hid (HWA.out _ (List.getElem_mem hml))
              generalize ws[m] = x at hc hxw
              have y1 := HL.out.base.1.at_ hc
              have HWH : Hid (Calls Try.prog 14 #[.pointer (some ⟨h.d, 0, none⟩), .int .i64 x] wr fun e w' => e = .returned (.tuple #[.int .i64 0, .bool false]) ∧ w' = wr) := Lib.hid (by
                have h1 := HL.out.where_ x hxw.out
                have h2 : wfOf (on (lkey 1) [] l).fs x = none := rfl
                rw [h2] at h1
                exact h1)
              clear hc hxw
              go_wp2_with (go_at_call 14; refine (HWH.out).mono ?_; rintro e w8 ⟨rfl, rfl⟩)
              go_roundw
              case rel => exact ⟨m + 1, by go_num, by omega, HL⟩
              case measure => simp [intOf]; omega
            · have HX7 : Hid (Reg.Ext W wr) := Lib.hid HL.out.base.1
              clear HL
              have NK := Lib.hid (fun w => key_any 1 w)
              have NJ := Lib.hid (fun w => nil_join (lkey 1) 1 w)
              have NF := Lib.hid (fun w => nil_find (lkey 1) w)
              have NL := Lib.hid (fun w => nil_leave 1 w)
              have NN := Lib.hid nil_len
              have NI := Lib.hid nil_list
              have NE := Lib.hid (nil_end 1)
              have NW := Lib.hid (nil_waiters 1)
              go_wp2_with (first
                | (go_at_call 9; refine (NK.out _).mono ?_; rintro e w8 ⟨rfl, hx8⟩; have HX8 := Lib.hid (HX7.out.trans hx8); clear hx8 HX7)
                | (go_at_call 8; refine (NJ.out _).mono ?_; rintro e w9 ⟨rfl, hx9⟩; have HX9 := Lib.hid (HX8.out.trans hx9); clear hx9 HX8)
                | (go_at_call 9; refine (NK.out _).mono ?_; rintro e w10 ⟨rfl, hx10⟩; have HX10 := Lib.hid (HX9.out.trans hx10); clear hx10 HX9)
                | (go_at_call 15; refine (NF.out _).mono ?_; rintro e w11 ⟨rfl, hx11⟩; have HX11 := Lib.hid (HX10.out.trans hx11); clear hx11 HX10)
                | (go_at_call 10; refine (NL.out _).mono ?_; rintro e w12 ⟨rfl, hx12⟩; have HX12 := Lib.hid (HX11.out.trans hx12); clear hx12 HX11)
                | (go_at_call 13; refine (NN.out _).mono ?_; rintro e w13 ⟨rfl, rfl⟩)
                | (go_at_call 16; refine (NI.out _).mono ?_; rintro e w13 ⟨rfl, rfl⟩)
                | (go_at_call 11; refine (NE.out _).mono ?_; rintro e w13 ⟨rfl, rfl⟩)
                | (go_at_call 17; refine (NW.out _).mono ?_; rintro e w13 ⟨rfl, rfl⟩))
              go_ret
              exact ⟨rfl, HX12.out⟩
end Py
end Go.Proofs.Ytjkhfnfimicffaa

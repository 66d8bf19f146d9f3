/- Flights: Waiters, End. -/
import Derived.Test.YtjkhfnfimicffaaPyG
import Derived.Test.YtjkhfnfimicffaaLayCl
set_option linter.unusedSimpArgs false
set_option linter.unusedVariables false
set_option linter.unusedSectionVars false
namespace Go.Proofs.Ytjkhfnfimicffaa
open Go Go.RowKit Go.Proofs Go.Sort Go.Lib Go.Shelf
namespace Py
/-- a row of numbers that a call made -/
def RowI (B : Nat) (w : World) (v : Value) (l : List Int) : Prop := w.ownsRow B 3 1 v l.length (l.map (Value.int .i64))
theorem RowI.same {B : Nat} {w w' : World} {v : Value} {l : List Int} (h : RowI B w v l) (hk : ∀ g, v.ownBlock = some g → w'.heap[g]? = w.heap[g]?) : RowI B w' v l := own_same h hk
theorem RowI.ext {B : Nat} {w w' : World} {v : Value} {l : List Int} (h : RowI B w v l) (hx : Reg.Ext w w') : RowI B w' v l := own_ext h hx
theorem RowI.form {B : Nat} {w : World} {v : Value} {l : List Int} (h : RowI B w v l) (hl : l ≠ []) : ∃ g cap, v = .slice (some ⟨g, 0, none⟩) l.length cap ∧ B ≤ g ∧ g < w.heap.size ∧ l.length ≤ cap ∧ cap ≤ maxLen := by
  obtain ⟨g, cap, h1, h2, h3, h4, h5, _, _⟩ := holds_of_ownsRow (α := Int) h fun e => by
    rcases h.2 with ⟨_, h0⟩ | ⟨g, cap, cur, e1, _⟩
    · exact hl (List.eq_nil_of_length_eq_zero h0)
    · rw [e1] at e; cases e
  exact ⟨g, cap, h1, h2, h3, h4, h5⟩
theorem RowI.at_ {B : Nat} {w : World} {l : List Int} {g cap : Nat} (h : RowI B w (.slice (some ⟨g, 0, none⟩) l.length cap) l) (i : Nat) (hi : i < l.length) : w.cell? ⟨g, i, none⟩ = some (.int .i64 l[i]) := by
  have := h.cells (g := g) rfl i (.int .i64 l[i]) (by rw [List.getElem?_map, List.getElem?_eq_getElem hi]; rfl)
  rw [Addr.add_mid, Nat.zero_add] at this
  exact this
def ResRow (w : World) (l : List Int) (e : Ending) (w' : World) : Prop := ∃ v', e = .returned v' ∧ RowI w.heap.size w' v' l ∧ Reg.Ext w w'
def ResEnd (h : Hd) (w : World) (es : List E) (l : List Int) (p : P) (n : Nat) (e : Ending) (w' : World) : Prop := ∃ v', e = .returned v' ∧ RowI w.heap.size w' v' l ∧ ∃ es', Pn w' h es' p n ∧ Turn h w es w' es'
theorem clone_any {w : World} {v : Value} {l : List Int} (h : RowI 0 w v l) (hl : l ≠ []) (hn : l.length ≤ 1000000) : Calls Try.prog 30 #[v] w (ResRow w l) := by
  obtain ⟨g, cap, rfl, _, _, _, _⟩ := h.form hl
  obtain ⟨i0, hi, hz0, hz1, hz2⟩ := intInfo_of
  refine (AnyE.slices_Clone Try.layCl i0 (.int .i64 0) 1 8 hi hz0 hz1 hz2 rfl (by decide) Try.sizeOf3 g 0 l.length cap (l.map (Value.int .i64)) w (by simp) (by unfold maxLen; omega) (by omega) (fun j u hu => ?_) (fun u hu => ?_)).mono ?_
  · rw [List.getElem?_map] at hu
    obtain ⟨x, hx, rfl⟩ := Option.map_eq_some_iff.1 hu
    obtain ⟨hj, rfl⟩ := List.getElem?_eq_some_iff.1 hx
    rw [Nat.zero_add]
    exact h.at_ j hj
  · obtain ⟨x, _, rfl⟩ := List.mem_map.1 hu
    rfl
  · rintro e w' ⟨v', rfl, h1, _, h2⟩
    exact ⟨v', rfl, h1, h2⟩
section
variable {w : World} {h : Hd} {es : List E} {p : P} {n : Nat}
set_option maxRecDepth 100000 in
theorem waiters_none (P : Pn w h es p n) (i : Int) (hi : wfI i) (ha : at_ i p.fs = none) : Calls Try.prog 17 #[.pointer (some ⟨h.d, 0, none⟩), .int .i64 i] w fun e w' => e = .returned (.slice none 0 0) ∧ w' = w := by
  have hl := P.pt.lookF i hi
  have e1 : get i es = none := by
    cases hg : get i es with
    | none => rfl
    | some e => exact absurd (get_some hg).2 (at_none ha _ (P.mem (get_some hg).1))
  rw [e1] at hl
  unfold ptrV at hl
  obtain ⟨c0, c1, c2, c3, c4⟩ := P.pt.c
  clear P hi ha e1
  go_enter Try.func17, Try.ntmps17
  go_wp2_with fail
  go_ret
  exact ⟨rfl, rfl⟩
set_option maxRecDepth 100000 in
theorem waiters_some (P : Pn w h es p n) {e : E} (he : e ∈ es) (hn : n < 1000000) : Calls Try.prog 17 #[.pointer (some ⟨h.d, 0, none⟩), .int .i64 e.f.id] w (ResRow w e.f.who) := by
  have hm := P.mem he
  have hl := P.pt.lookF e.f.id (by
    have h1 := P.good.le e.f hm
    have h2 := P.last
    exact wfI_of (by omega) (by omega))
  rw [get_of P.pt.up he] at hl
  unfold ptrV at hl
  obtain ⟨c0, c1, c2, c3, c4⟩ := P.pt.c
  have y0 := cell36 (P.pt.file e he) (P.fine e.f hm).dig
  have HC := Lib.hid (clone_any (P.pt.row e he) (P.good.who e.f hm) (by have := (P.len e.f hm).1; omega))
  clear P hn hm he
  go_enter Try.func17, Try.ntmps17
  go_wp2_with (go_at_call 30; refine (HC.out).mono ?_; rintro e1 w' ⟨v', rfl, hr, hx⟩)
  go_ret
  exact ⟨v', rfl, hr, hx⟩
set_option maxRecDepth 100000 in
theorem end_none (P : Pn w h es p n) (i : Int) (hi : wfI i) (ha : at_ i p.fs = none) : Calls Try.prog 11 #[.pointer (some ⟨h.d, 0, none⟩), .int .i64 i] w fun e w' => e = .returned (.slice none 0 0) ∧ w' = w := by
  have HW := Lib.hid (waiters_none P i hi ha)
  have q22 : ∀ (w : World) (a : Option Addr) (n c n' c' : Nat), (binOp .eql 22 (.slice a n c) (.slice none n' c')).run Try.prog w = .ok (.bool a.isNone) w := fun w a n c n' c' => Lib.run_eql_slice_nil w _ _ a n c n' c' Try.underlying22
  clear P hi ha
  go_enter Try.func11, Try.ntmps11
  go_wp2_with (go_at_call 17; refine (HW.out).mono ?_; rintro e1 w' ⟨rfl, rfl⟩)
  go_ret
  exact ⟨rfl, rfl⟩
set_option maxRecDepth 100000 in
set_option maxHeartbeats 1000000 in
theorem end_some (P : Pn w h es p n) {e : E} (he : e ∈ es) (hn : n < 1000000) : Calls Try.prog 11 #[.pointer (some ⟨h.d, 0, none⟩), .int .i64 e.f.id] w (ResEnd h w es e.f.who { p with fs := del e.f.id p.fs } n) := by
  have HW := Lib.hid (waiters_some P he hn)
  have HP := Lib.hid P
  have HE := Lib.hid he
  have HM := Lib.hid (P.mem he)
  have HEI : Hid (wfI e.f.id) := Lib.hid (by
    have h1 := P.good.le e.f (P.mem he)
    have h2 := P.last
    exact wfI_of (by omega) (by omega))
  have HNE := Lib.hid (P.good.who e.f (P.mem he))
  have hlen : e.f.who.length < 1000000 := by have := (P.len e.f (P.mem he)).1; omega
  have q22 : ∀ (w : World) (a : Option Addr) (n c n' c' : Nat), (binOp .eql 22 (.slice a n c) (.slice none n' c')).run Try.prog w = .ok (.bool a.isNone) w := fun w a n c n' c' => Lib.run_eql_slice_nil w _ _ a n c n' c' Try.underlying22
  clear P he hn
  go_enter Try.func11, Try.ntmps11
  go_wp2_with (go_at_call 17; refine (HW.out).mono ?_; rintro e1 w1 ⟨v', rfl, hr, hx⟩; obtain ⟨g, cap, rfl, hgw, hgl, hlc, hcm⟩ := RowI.form hr HNE.out; have HR := Lib.hid hr; have HX := Lib.hid hx; have HGW := Lib.hid hgw; clear hr hx hgw hgl hlc hcm)
  have S0 : Hid (Pt w1 h es (kfOf p.fs) (fun y => if y ∈ e.f.who.take 0 then none else wfOf p.fs y) p.most p.last n) := Lib.hid (by
    have h1 := (HP.out.ext HX.out).pt
    have e1 : (fun y => if y ∈ e.f.who.take 0 then none else wfOf p.fs y) = wfOf p.fs := funext fun y => by simp
    rw [e1]
    exact h1)
  have T0 : Hid (Turn h w es w1 es) := Lib.hid (Turn.ext HX.out)
  have HOW : Hid (¬ Own h es g) := Lib.hid fun o => by have := HP.out.pt.own_lt o; have := HGW.out; omega
  clear HW HX q22
  go_loopw [7, 15] (fun _ i wr => ∃ m : Nat, i = .int .i64 (m : Int) ∧ m ≤ e.f.who.length ∧ Hid (Pt wr h es (kfOf p.fs) (fun y => if y ∈ e.f.who.take m then none else wfOf p.fs y) p.most p.last n) ∧ Hid (Turn h w es wr es) ∧ Hid (RowI w.heap.size wr (.slice (some ⟨g, 0, none⟩) e.f.who.length cap) e.f.who)) (fun _ i _ => e.f.who.length - (intOf i).toNat)
  case atStart => exact ⟨0, rfl, Nat.zero_le _, S0, T0, HR⟩
  case round =>
    obtain ⟨m, rfl, hm, HPm, HTm, HRm⟩ := hrel
    by_cases hml : m < e.f.who.length
    · have y0 := RowI.at_ HRm.out m hml
      obtain ⟨c0, c1, c2, c3, c4⟩ := HPm.out.c
      have HIx : Hid (wfI e.f.who[m]) := Lib.hid ((HP.out.len e.f HM.out).2 _ (List.getElem_mem hml))
      have HTK : Hid (∀ y, y ∈ e.f.who.take (m + 1) ↔ y = e.f.who[m] ∨ y ∈ e.f.who.take m) := Lib.hid fun y => by
        rw [List.take_succ_eq_append_getElem hml, List.mem_append, List.mem_singleton]
        exact Or.comm
      generalize e.f.who[m] = x at *
      obtain ⟨D, hm0, hMD⟩ := HPm.out.mw
      have HMo := Lib.hid hm0
      have HMD := Lib.hid hMD
      clear hm0 hMD
      go_wp2_with (at_delete; refine wpList_delete_own _ rfl _ _ 61 3 rfl 3 kun Try.underlying61 (plainElem Try.prog 3) h.wm n D rfl HMo.out _ _ rfl (keyI x HIx.out) ?_; intro w7 hm7 ht7)
      go_roundw
      case rel =>
        refine ⟨m + 1, by go_num, by omega, ?_, Lib.hid (HTm.out.trans (Turn.but (b := h.wm) ht7.grown own_wm)), Lib.hid (HRm.out.same fun g' hg' => ht7.grown.block g' (Go.Proofs.Ytjkhfnfimicffaa.own_lt HRm.out hg') fun e1 => HOW.out (by
          have h1 : g = g' := by injection hg'
          injection e1 with e1
          rw [h1, e1]; exact own_wm))⟩
        have h1 := HPm.out.setW (Nat.le_refl _) hm7 (HMD.out.del x) ht7.grown
        have e1 : (fun y => if y ∈ e.f.who.take (m + 1) then none else wfOf p.fs y) = fun y => if y = x then none else (if y ∈ e.f.who.take m then none else wfOf p.fs y) := funext fun y => by
          by_cases hy : y = x
          · rw [if_pos hy, if_pos ((HTK.out y).2 (.inl hy))]
          · by_cases hy2 : y ∈ e.f.who.take m
            · rw [if_neg hy, if_pos hy2, if_pos ((HTK.out y).2 (.inr hy2))]
            · rw [if_neg hy, if_neg hy2, if_neg fun h3 => ((HTK.out y).1 h3).elim hy hy2]
        exact Lib.hid (by rw [e1]; exact h1)
      case measure => simp [intOf]; omega
    · have hme : m = e.f.who.length := by omega
      subst hme
      have HOV := Lib.hid (over_any HPm.out HE.out (HP.out.fine e.f HM.out) HEI.out)
      go_wp2_with (go_at_call 27; refine (HOV.out).mono ?_; rintro e' w10 ⟨rfl, es1, hes1, hp10, ht10⟩)
      go_ret
      refine ⟨_, rfl, ?_, es1, ?_, HTm.out.trans ht10⟩
      · refine HRm.out.same fun g' hg' => ht10.kept g' (Go.Proofs.Ytjkhfnfimicffaa.own_lt HRm.out hg') fun o => HOW.out ?_
        have h1 : g = g' := by injection hg'
        rw [h1]; exact o
      · have hg := HP.out.good.del_ e.f.id
        have hfs : es1.map E.f = del e.f.id p.fs := by rw [hes1, map_delE, show es.map E.f = p.fs from HP.out.fs]
        refine ⟨?_, hfs, hg, fun f hf => HP.out.fine f (mem_del.1 hf).1, HP.out.last, fun f hf => HP.out.len f (mem_del.1 hf).1, Nat.le_trans (List.length_filter_le _ _) HP.out.cnt⟩
        show Pt w10 h es1 (kfOf (del e.f.id p.fs)) (wfOf (del e.f.id p.fs)) p.most p.last n
        rw [kf_del HP.out.good HM.out, wf_del HP.out.good HM.out]
        have h1 := hp10
        rw [List.take_length] at h1
        exact h1
/-- End, whatever comes -/
theorem end_any (P : Pn w h es p n) (i : Int) (hi : wfI i) (hn : n < 1000000) : Calls Try.prog 11 #[.pointer (some ⟨h.d, 0, none⟩), .int .i64 i] w (ResEnd h w es (p.end_ i).1 (p.end_ i).2 n) := by
  unfold Py.P.end_
  cases ha : at_ i p.fs with
  | none =>
    refine (end_none P i hi ha).mono ?_
    rintro e w' ⟨rfl, rfl⟩
    exact ⟨_, rfl, ⟨rfl, .inl ⟨rfl, rfl⟩⟩, es, P, Turn.refl _ _ _⟩
  | some f =>
    have hf := at_some ha
    obtain ⟨e, he, hef⟩ : ∃ e ∈ es, e.f = f := by
      have := hf.1
      rw [← show es.map E.f = p.fs from P.fs] at this
      exact List.mem_map.1 this
    subst hef
    rw [← hf.2]
    exact end_some P he hn
end
end Py
end Go.Proofs.Ytjkhfnfimicffaa

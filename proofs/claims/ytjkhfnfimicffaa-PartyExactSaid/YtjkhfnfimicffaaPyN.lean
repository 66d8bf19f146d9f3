/- Flights: List: the numbers of all flights, rising. -/
import Derived.Test.YtjkhfnfimicffaaPyM
import Derived.Test.YtjkhfnfimicffaaLaySI
set_option linter.unusedSimpArgs false
set_option linter.unusedVariables false
set_option linter.unusedSectionVars false
namespace Go.Proofs.Ytjkhfnfimicffaa
open Go Go.RowKit Go.Proofs Go.Sort Go.Lib Go.Shelf
namespace Py
def leI : Int → Int → Bool := fun x y => decide (x ≤ y)
theorem grow_ext (w : World) (os : Array Obj) : Reg.Ext w (grow w os) :=
  ⟨rfl, rfl, rfl, by show w.heap.size ≤ (w.heap ++ os).size; rw [Array.size_append]; omega, fun _ hj => Sort.heap_grow_old w os hj⟩
theorem sort_any {B : Nat} {w : World} {v : Value} {l : List Int} (h : RowI B w v l) (hn : l.length ≤ 1000000) : Calls Try.prog 36 #[v] w fun e w' => e = .returned (.tuple #[]) ∧ RowI B w' v (l.mergeSort leI) ∧ w.grownBy w' v.ownBlock := by
  by_cases hl : l = []
  · subst hl
    obtain ⟨A, c, rfl⟩ := row_nil h
    refine (show Calls Try.prog 36 #[.slice A 0 c] w _ from AnyM.slices_Sort_int_none Try.laySI A c w).mono ?_
    rintro e w' ⟨rfl, rfl⟩
    exact ⟨rfl, by rw [List.mergeSort_nil]; exact h, World.grownBy.refl _ _⟩
  · obtain ⟨g, cap, rfl, hB, hg, hc, hcm⟩ := h.form hl
    obtain ⟨g', cap', e1, _, _, _, _, _, hH⟩ := holds_of_ownsRow (α := Int) h (by intro e; cases e)
    injection e1 with e1 _ _
    injection e1 with e1
    injection e1 with e1 _ _
    subst e1
    refine (show Calls Try.prog 36 #[.slice (some ⟨g, 0, none⟩) l.length cap] w _ from AnyM.slices_Sort_int Try.laySI g 0 cap l w hH hg (by omega)).mono ?_
    rintro e w' ⟨rfl, q, os, rfl⟩
    have hp : (l.mergeSort leI).length = l.length := (List.mergeSort_perm l leI).length_eq
    have hrow := ownsRow_putRow (q := q) (k := l.length) (ys := l.mergeSort leI) h hp (Nat.le_refl _)
    rw [List.take_of_length_le (by omega)] at hrow
    refine ⟨rfl, ?_, ?_⟩
    · refine RowI.ext ?_ (grow_ext _ _)
      unfold RowI
      rw [hp]
      exact hrow
    · have hx := grow_ext (putRow (Value.int .i64) (Sort.ahead w q) g 0 (l.mergeSort leI).toArray) os
      refine ⟨rfl, rfl, rfl, Nat.le_trans (by simp [putRow, mapBlock, Sort.ahead]) hx.size, fun i hi hn => (hx.block i (by simpa [putRow, mapBlock, Sort.ahead] using hi)).trans ?_⟩
      have : g ≠ i := fun e => hn (by rw [e]; rfl)
      simp [putRow, mapBlock, Sort.ahead, Array.getElem?_modify, this]
def ResK (w : World) (S : List Int → Prop) (e : Ending) (w' : World) : Prop := ∃ v ss, e = .returned v ∧ S ss ∧ RowI w.heap.size w' v ss ∧ Reg.Ext w w'
theorem collect_any (w : World) (g : Nat) (lb : Array Value) (S : List Int → Prop) (h : CallsIn Fence.wide 5 Try.prog 38 #[.slice none 0 0, .func (.func g) #[] lb] w (ResK w S)) :
    CallsIn Fence.wide 6 Try.prog 35 #[.func (.func g) #[] lb] w (ResK w S) := by
  have HH := Lib.hid h
  clear h
  refine callsIn_of_wp Try.func35 rfl trivial ?_ rfl
  simp only [Try.ntmps35, List.size_toArray, List.length_cons, List.length_nil, Nat.reduceAdd, Nat.reduceSub, Array.replicate_succ, Array.replicate_zero, List.push_toArray, List.append_toArray, List.nil_append, List.cons_append]
  gi_wp2_with (refine ⟨trivial, ?_⟩; gi_at_call 38; refine (HH.out).mono ?_; rintro e w' ⟨v, ss, rfl, h1, h2, h3⟩)
  go_ret
  exact ⟨v, ss, rfl, h1, h2, h3⟩
theorem sorted_any (w : World) (g : Nat) (lb : Array Value) (S : List Int → Prop) (hS : ∀ ss, S ss → ss.length ≤ 1000000) (h : CallsIn Fence.wide 6 Try.prog 35 #[.func (.func g) #[] lb] w (ResK w S)) :
    CallsIn Fence.wide 7 Try.prog 28 #[.func (.func g) #[] lb] w fun e w' => ∃ v ss, e = .returned v ∧ S ss ∧ RowI w.heap.size w' v (ss.mergeSort leI) ∧ Reg.Ext w w' := by
  have HH := Lib.hid h
  have HL := Lib.hid hS
  clear h hS
  refine callsIn_of_wp Try.func28 rfl trivial ?_ rfl
  simp only [Try.ntmps28, List.size_toArray, List.length_cons, List.length_nil, Nat.reduceAdd, Nat.reduceSub, Array.replicate_succ, Array.replicate_zero, List.push_toArray, List.append_toArray, List.nil_append, List.cons_append]
  gi_wp2_with (first
    | (refine ⟨trivial, ?_⟩; gi_at_call 35; refine (HH.out).mono ?_; rintro e w1 ⟨v, ss, rfl, h1, h2, h3⟩; have HS := Lib.hid h1; have HR := Lib.hid h2; have HX := Lib.hid h3; clear h1 h2 h3 HH)
    | (refine ⟨trivial, ?_⟩; gi_at_call 36; refine (callsIn_wide.2 (sort_any HR.out (HL.out _ HS.out))).mono ?_; rintro e w2 ⟨rfl, hr2, hg2⟩))
  go_ret
  refine ⟨v, ss, rfl, HS.out, hr2, ⟨hg2.os.trans HX.out.os, hg2.tape.trans HX.out.tape, hg2.output.trans HX.out.output, Nat.le_trans HX.out.size hg2.size, fun i hi => (hg2.block i (Nat.lt_of_lt_of_le hi HX.out.size) fun e => ?_).trans (HX.out.block i hi)⟩⟩
  have := (HR.out.lt i e.symm).1
  omega
theorem keys_any (w : World) (mb : Option Nat) : Calls Try.prog 29 #[.map mb] w fun e w' => e = .returned (.func (.func 37) #[] #[.pointer (some ⟨w.heap.size, 0, none⟩)]) ∧ w' = w.alloc (.cells #[.map mb] 59) := by
  go_enter Try.func29, Try.ntmps29
  go_wp2_with fail
  go_ret
  exact ⟨rfl, rfl⟩
theorem met_perm {D : DataW Unit} {es : List E} (hD : MapF D es) (hu : (es.map fun e => e.f.id).Pairwise (· < ·)) {ss : List Int} (h : Met D (fun _ => false) ss) : ss.Perm (es.map fun e => e.f.id) := by
  refine (List.perm_ext_iff_of_nodup h.nodup (hu.imp fun h e => by omega)).2 fun i => ?_
  rw [h.mem, (hD.2 i).2]
  cases hg : get i es with
  | none =>
    refine ⟨fun hx => (by cases hx.1), fun hx => ?_⟩
    obtain ⟨e, he, rfl⟩ := List.mem_map.1 hx
    exact absurd rfl (get_none hg e he)
  | some e => exact ⟨fun _ => List.mem_map.2 ⟨e, (get_some hg).1, (get_some hg).2⟩, fun _ => ⟨rfl, rfl⟩⟩
theorem sort_ids {l : List Int} (hu : l.Pairwise (· < ·)) {ss : List Int} (hp : ss.Perm l) : ss.mergeSort leI = l := by
  have h1 := List.pairwise_mergeSort (le := leI) (fun a b c h1 h2 => by unfold leI at *; simp at *; omega) (fun a b => by unfold leI; simp; omega) ss
  exact List.Perm.eq_of_pairwise (le := fun x y : Int => x ≤ y) (fun a b _ _ h1 h2 => by omega) (h1.imp fun h => by unfold leI at h; simpa using h) (hu.imp fun h => by omega) ((List.mergeSort_perm _ _).trans hp)
def ResI (w : World) (l : List Int) (e : Ending) (w' : World) : Prop := ∃ v, e = .returned v ∧ RowI w.heap.size w' v l ∧ Reg.Ext w w'
theorem list_any {w : World} {h : Hd} {es : List E} {p : P} {n : Nat} (P : Pn w h es p n) (hn : n ≤ 1000000) : Calls Try.prog 16 #[.pointer (some ⟨h.d, 0, none⟩)] w (ResI w (p.fs.map Fl.id)) := by
  obtain ⟨D, hm, hMD⟩ := P.pt.mf
  obtain ⟨w1, hw1⟩ : ∃ w1, w.alloc (.cells #[.map (some h.fm)] 59) = w1 := ⟨_, rfl⟩
  have hx1 : Reg.Ext w w1 := by rw [← hw1]; exact Reg.Ext.alloc _ _
  have hb1 : Blk w1 w.heap.size 59 [.map (some h.fm)] := by rw [← hw1]; exact Blk.new w _ #[.map (some h.fm)]
  have hS : ∀ ss, Met D (fun _ => false) ss → ss.length ≤ 1000000 := fun ss hs => by
    rw [(met_perm hMD P.pt.up hs).length_eq, List.length_map]
    have := P.length
    have := P.cnt
    omega
  have hN : Maps.size D ≤ 1000000 := by
    rw [hMD.1]
    have := P.length
    have := P.cnt
    omega
  have hap := append_seq w1 37 #[.pointer (some ⟨w.heap.size, 0, none⟩)] trivial (enters_of Try.func37 (by kernel_rfl) rfl) (Maps.size D) hN (fun ss => Met D (fun _ => false) ss) (fun l J W hW hJ hY h0 =>
    keys1I 4 (by decide) l w.heap.size h.fm n D J hY W hJ ((hb1.ext hW).cell 0) (map_same hm ((hx1.trans hW).block h.fm hm.lt)) h0)
  have HSR := Lib.hid (sorted_any w1 _ _ _ hS (collect_any w1 _ _ _ hap))
  have HK := Lib.hid (keys_any w (some h.fm))
  have HX := Lib.hid hx1
  have HID : Hid (∀ ss, Met D (fun _ => false) ss → ss.mergeSort leI = p.fs.map Fl.id) := Lib.hid fun ss hs => by
    have e1 : p.fs.map Fl.id = es.map fun e => e.f.id := by rw [← show es.map E.f = p.fs from P.fs, List.map_map]; rfl
    rw [e1]
    exact sort_ids P.pt.up (met_perm hMD P.pt.up hs)
  obtain ⟨c0, c1, c2, c3, c4⟩ := P.pt.c
  have HW1 := Lib.hid hw1
  clear P hm hMD hx1 hb1 hS hN hap hw1
  refine (callsIn_wide (n := 8)).1 ?_
  refine callsIn_of_wp Try.func16 rfl trivial ?_ rfl
  simp only [Try.ntmps16, List.size_toArray, List.length_cons, List.length_nil, Nat.reduceAdd, Nat.reduceSub, Array.replicate_succ, Array.replicate_zero, List.push_toArray, List.append_toArray, List.nil_append, List.cons_append]
  gi_wp2_with (first
    | (refine ⟨trivial, ?_⟩; gi_at_call 29; refine (callsIn_wide.2 HK.out).mono ?_; rintro e w2 ⟨rfl, rfl⟩; rw [HW1.out])
    | (refine ⟨trivial, ?_⟩; gi_at_call 28; refine (HSR.out).mono ?_; rintro e w3 ⟨v, ss, rfl, hs3, hr3, hx3⟩))
  go_ret
  refine ⟨v, rfl, ?_, HX.out.trans hx3⟩
  rw [← HID.out ss hs3]
  exact ⟨hr3.1, hr3.2.imp id fun ⟨g, cap, cur, e, hb, h⟩ => ⟨g, cap, cur, e, Nat.le_trans HX.out.size hb, h⟩⟩
end Py
end Go.Proofs.Ytjkhfnfimicffaa

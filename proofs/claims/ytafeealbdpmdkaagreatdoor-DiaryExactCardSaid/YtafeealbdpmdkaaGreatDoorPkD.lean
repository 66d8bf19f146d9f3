/- Made by merge.py from: PlkM PlkQ PlkR PlkS. -/
import Derived.Test.YtafeealbdpmdkaaGreatDoorPkA
import Derived.Test.YtafeealbdpmdkaaGreatDoorPkB
import Derived.Test.YtafeealbdpmdkaaGreatDoorLayKeys
import Derived.Test.YtafeealbdpmdkaaGreatDoorPkC
set_option linter.unusedSimpArgs false
set_option linter.unusedVariables false
set_option linter.unusedSectionVars false
set_option maxRecDepth 100000
/- Names. -/
open Go.Lib renaming hid → y_
open List renaming size_toArray → z_a
open Nat renaming reduceAdd → z_b
-- squeezed
namespace Go.Proofs.YtafeealbdpmdkaaGreatDoor
open Go Go.RowKit Go.Proofs Go.Maps Go.Sort Go.Shelf
namespace Plk
theorem sorts (m : Nat) : AnyZ.SortsIn Tryz.prog Tryz.laySorted_ren Fence.wide m :=
 ⟨fun blk off cap ss W hH hblk hsz => callsIn_wide.2 (AnyM.slices_Sort_string Tryz.laySort blk off cap ss W hH hblk hsz),
  fun p cap W => callsIn_wide.2 (AnyM.slices_Sort_string_none Tryz.laySort p cap W)⟩
theorem keys_of (mb : Option Nat) (W : World) : CallsIn Fence.wide 5 Tryz.prog 60 #[.map mb] W fun e w' => e = .returned (.func (.func 85) #[] #[.pointer (some ⟨W.heap.size, 0, none⟩)]) ∧ w' = W.alloc (.cells #[.map mb] 70) :=
 AnyZ.keys_in Tryz.layKeys Fence.wide 5 trivial rfl mb W
set_option maxHeartbeats 1000000 in
theorem sorted_of (b nn : Nat) (D0 : DataW Unit) (w : World) (hown : w.ownsMap Tryz.prog 9 ptrR b nn D0) (hmax : Maps.size D0 ≤ maxLen) (hbytes : Maps.size D0 * 16 ≤ 140737488355328) :
  CallsIn Fence.wide 5 Tryz.prog 59 #[.func (.func 85) #[] #[.pointer (some ⟨w.heap.size, 0, none⟩)]] (w.alloc (.cells #[.map (some b)] 70)) fun e w' => ∃ (v : Value) (ss : List (List UInt8)), e = .returned v ∧ ss.Perm (strKeys D0) ∧
   w'.ownsRow (w.alloc (.cells #[.map (some b)] 70)).heap.size 9 1 v ss.length ((ss.mergeSort (fun x y => decide (x ≤ y))).map encStr) ∧ (v = .slice none 0 0 ↔ ss = []) ∧ Below (w.alloc (.cells #[.map (some b)] 70)).heap.size (w.alloc (.cells #[.map (some b)] 70)) w' := by
 have hbl := hown.lt
 have hseq : SeqGives Fence.wide 2 Tryz.prog 85 #[.pointer (some ⟨w.heap.size, 0, none⟩)] encStr (fun ss => ss.Perm (strKeys D0)) (Maps.size D0) (w.alloc (.cells #[.map (some b)] 70)) :=
  AnyZ.keys_gives (ρ := Tryz.layKeys_ren) { Tryz.layKeys with } Fence.wide _ trivial rfl (by omega) w.heap.size b nn D0 _ (by simp) (by simp) (by
   obtain ⟨es, clock, hb, Ft, hs, hD⟩ := hown
   exact ⟨es, clock, (Below.heap_alloc _ _ b hbl).trans hb, Ft, hs, hD⟩)
 exact AnyZ.sorted_in Tryz.laySorted Fence.wide 5 trivial trivial trivial trivial rfl (by omega) (sorts _) (enters_of Tryz.func84 (by kernel_rfl) rfl) 85 #[.pointer (some ⟨w.heap.size, 0, none⟩)] trivial (enters_of Tryz.func85 (by kernel_rfl) rfl) _ _ hmax hbytes _ hseq
set_option maxHeartbeats 1000000 in
theorem names_any (W : World) (d mp : Nat) (es : List E) (s : H) (hD : Dk W d mp es s) (hc : es.length ≤ 200) :
  Calls Tryz.prog 31 #[.pointer (some ⟨d, 0, none⟩)] W fun e w' => ∃ v, e = .returned v ∧ w'.ownsRow W.heap.size 9 1 v es.length ((es.map E.nm).map encStr) ∧ Reg.Ext W w' := by
 obtain ⟨D, hm, hMD⟩ := hD.map
 have hperm := keys_perm hm hMD hD.up
 have hK := keys_of (some mp) W
 have hS := sorted_of mp es.length D W hm (by rw [hMD.1]; unfold maxLen; omega) (by rw [hMD.1]; omega)
 have fin : ∀ (v : Value) (ss : List (List UInt8)) (w' : World), ss.Perm (strKeys D) → w'.ownsRow (W.alloc (.cells #[.map (some mp)] 70)).heap.size 9 1 v ss.length ((ss.mergeSort (fun x y => decide (x ≤ y))).map encStr) →
   Below (W.alloc (.cells #[.map (some mp)] 70)).heap.size (W.alloc (.cells #[.map (some mp)] 70)) w' → w'.ownsRow W.heap.size 9 1 v es.length ((es.map E.nm).map encStr) ∧ Reg.Ext W w' := by
  intro v ss w' hp hr hb
  have e1 := Nmd.sorted_names hD.up (hp.trans hperm)
  have e2 : ss.length = es.length := by rw [(hp.trans hperm).length_eq, List.length_map]
  rw [e1, e2] at hr
  exact ⟨ownsRow_base_a hr (by simp), (Reg.Ext.alloc _ _).trans hb⟩
 have c0 := hD.c.1
 clear hm hMD hperm hD
 refine (callsIn_wide (n := 6)).1 ?_
 have hfK : Fence.wide.fn 60 := trivial
 have hfS : Fence.wide.fn 59 := trivial
 refine callsIn_of_wp Tryz.func31 rfl trivial ?_ rfl
 simp only [Tryz.ntmps31, z_a, List.length_cons, List.length_nil, z_b, Nat.reduceSub, Array.replicate_succ, Array.replicate_zero, List.push_toArray, List.append_toArray, List.nil_append, List.cons_append]
 gi_wp2_with (first
  | (gi_at_call 60; refine hK.mono ?_; rintro e w' ⟨rfl, rfl⟩)
  | (gi_at_call 59; refine hS.mono ?_; rintro e w' ⟨v, ss, rfl, hSS, hrow, hnil, hb⟩))
 go_ret
 obtain ⟨h1, h2⟩ := fin _ _ _ hSS hrow hb
 exact ⟨v, rfl, h1, h2⟩
end Plk
end Go.Proofs.YtafeealbdpmdkaaGreatDoor
/- On. -/
namespace Go.Proofs.YtafeealbdpmdkaaGreatDoor
open Go Go.RowKit
namespace Plk
def lost (f : F) (m : Nat) : F := ⟨f.name, f.l.take (keptN f m), keptN f m⟩
def onL : List F → List Int → List F
 | [], _ => []
 | f :: fs, ks => if f.safe = f.l.length then f :: onL fs ks else lost f (max (ks.headD 0) 0).toNat :: onL fs ks.tail
/-- the names that Names gave, to be read while the disk turns -/
def NR (W w1 : World) (v : Value) (ns : List (List UInt8)) : Prop := ∃ A cap, v = .slice A ns.length cap ∧ ns.length ≤ cap ∧ ∀ i (h : i < ns.length), ∃ rb, A = some ⟨rb, 0, none⟩ ∧ W.heap.size ≤ rb ∧ rb < w1.heap.size ∧ w1.cell? ⟨rb, i, none⟩ = some (str ns[i])
theorem NR.of {W w1 : World} {v : Value} {n : Nat} {ns : List (List UInt8)} (h : w1.ownsRow W.heap.size 9 1 v n (ns.map encStr)) : NR W w1 v ns := by
 obtain ⟨h1, h2⟩ := h
 rw [List.length_map, Nat.mul_one] at h1
 rcases h2 with ⟨rfl, hn⟩ | ⟨g, cap, cur, rfl, hb, hr, hc, hm, hsz, ht⟩
 ·exact ⟨none, 0, by rw [h1, hn], by omega, fun i hi => absurd hi (by omega)⟩
 ·refine ⟨_, cap, by rw [h1], by omega, fun i hi => ⟨g, rfl, hb, (Array.getElem?_eq_some_iff.1 hr).1, ?_⟩⟩
  rw [Nat.mul_one, ← h1] at ht
  have e := congrArg (fun x => x[i]?) ht
  simp only [List.getElem?_take, List.getElem?_map] at e
  rw [if_pos hi, Array.getElem?_toList, List.getElem?_eq_getElem hi] at e
  unfold World.cell?
  rw [hr]
  exact e
/-- a row of numbers that the disk doesn't hold -/
def KR (w1 : World) (d mp : Nat) (es : List E) (v : Value) (ks : List Int) : Prop := ∃ A cap, v = .slice A ks.length cap ∧ ks.length ≤ cap ∧ cap ≤ maxLen ∧ ∀ j (h : j < ks.length), ∃ kb ko, A = some ⟨kb, ko, none⟩ ∧ kb < w1.heap.size ∧ ¬ Own d mp es kb ∧ w1.cell? ⟨kb, ko + j, none⟩ = some (.int .i64 ks[j])
theorem cell_block {w w' : World} {b i : Nat} (h : w'.heap[b]? = w.heap[b]?) : w'.cell? ⟨b, i, none⟩ = w.cell? ⟨b, i, none⟩ := by
 unfold World.cell?
 rw [h]
theorem KR.turn {w w1 : World} {d mp : Nat} {es es' : List E} {v : Value} {ks : List Int} (h : KR w d mp es v ks) (hT : Turn d mp w es w1 es') : KR w1 d mp es v ks := by
 obtain ⟨A, cap, hv, h1, h2, h3⟩ := h
 refine ⟨A, cap, hv, h1, h2, fun j hj => ?_⟩
 obtain ⟨kb, ko, hA, hlt, hno, hc⟩ := h3 j hj
 exact ⟨kb, ko, hA, Nat.lt_of_lt_of_le hlt hT.size, hno, (cell_block (hT.kept kb hlt hno)).trans hc⟩
theorem KR.next {w1 : World} {d mp : Nat} {es : List E} {kb ko kcap : Nat} {x : Int} {ks : List Int} (h : KR w1 d mp es (.slice (some ⟨kb, ko, none⟩) (x :: ks).length kcap) (x :: ks)) (hc : kcap ≠ 1) : KR w1 d mp es (.slice (some ⟨kb, ko + 1, none⟩) ks.length (kcap - 1)) ks := by
 obtain ⟨A, cap, hv, h1, h2, h3⟩ := h
 injection hv with e1 e2 e3
 subst e1 e3
 rw [List.length_cons] at h1
 refine ⟨_, _, rfl, by omega, by omega, fun j hj => ?_⟩
 obtain ⟨kb', ko', hA, hlt, hno, hcl⟩ := h3 (j + 1) (by rw [List.length_cons]; omega)
 injection hA with hA
 injection hA with e1 e2
 subst e1 e2
 exact ⟨kb, ko + 1, rfl, hlt, hno, by rw [show ko + 1 + j = ko + (j + 1) by omega]; exact hcl⟩
theorem KR.last {w1 : World} {d mp : Nat} {es : List E} (A : Option Addr) : KR w1 d mp es (.slice A 0 0) [] := ⟨A, 0, rfl, Nat.le_refl _, Nat.zero_le _, fun j hj => absurd hj (Nat.not_lt_zero _)⟩
def P.on (p : P) (ks : List Int) : P := if p.h.off = true then ⟨onL p.fs ks, { p.h with off := false, used := (sum (onL p.fs ks) : Int) }⟩ else p
theorem onL_keep (l : List F) (ks : List Int) (j : Nat) (hj : j < l.length) (h : l[j].safe = l[j].l.length) : l.take j ++ onL (l.drop j) ks = l.take (j + 1) ++ onL (l.drop (j + 1)) ks := by
 rw [List.drop_eq_getElem_cons hj]
 conv => lhs; unfold onL
 rw [if_pos h, List.take_succ_eq_append_getElem hj, List.append_assoc]
 rfl
theorem onL_lose (l : List F) (ks : List Int) (j : Nat) (hj : j < l.length) (h : l[j].safe ≠ l[j].l.length) :
  l.take j ++ onL (l.drop j) ks = (l.set j (lost l[j] (max (ks.headD 0) 0).toNat)).take (j + 1) ++ onL ((l.set j (lost l[j] (max (ks.headD 0) 0).toNat)).drop (j + 1)) ks.tail := by
 rw [List.drop_eq_getElem_cons hj, List.take_succ_eq_append_getElem (by rw [List.length_set]; exact hj), List.getElem_set_self, List.drop_set_of_lt (by omega), List.take_set_of_le (Nat.le_refl _)]
 conv => lhs; unfold onL
 rw [if_neg h]
 simp
theorem sum_set (l : List F) (j : Nat) (hj : j < l.length) (x : F) : sum (l.set j x) + l[j].l.length = sum l + x.l.length := by
 induction l generalizing j with
 | nil => exact absurd hj (by simp)
 | cons y l ih =>
   cases j with
   | zero => simp [sum]; omega
   | succ j =>
     have := ih j (by simpa using hj)
     simp [sum] at this ⊢
     omega
theorem upd_set {nm : E → List UInt8} (l : List E) (h : Nmd.Up nm l) (j : Nat) (hj : j < l.length) (x : E) (hx : nm x = nm l[j]) : Nmd.upd nm x l = l.set j x := by
 have hp := h.ne
 clear h
 induction l generalizing j with
 | nil => exact absurd hj (by simp)
 | cons y l ih =>
   obtain ⟨h1, h2⟩ := List.pairwise_cons.1 hp
   unfold Nmd.upd
   rw [List.map_cons]
   cases j with
   | zero =>
     have hx : nm x = nm y := hx
     rw [if_pos hx.symm, List.set_cons_zero]
     congr 1
     have : ∀ z ∈ l, (if nm z = nm x then x else z) = z := fun z hz => if_neg fun e => h1 z hz (hx.symm.trans e.symm)
     exact (List.map_congr_left this).trans (List.map_id' l)
   | succ j =>
     have hj' : j < l.length := by simpa using hj
     have hx : nm x = nm l[j] := hx
     have hne : nm y ≠ nm x := by rw [hx]; exact h1 _ (List.getElem_mem hj')
     rw [if_neg hne, List.set_cons_succ]
     congr 1
     exact ih j hj' hx h2
structure OnI (w1 wr : World) (d mp : Nat) (es es' : List E) (ks ks' : List Int) (room ops ak af al : Int) (kv : Value) (j : Nat) : Prop where
 dk : Dk wr d mp es' ⟨room, (sum (es'.map E.f) : Int), ops, false, ak, af, al⟩
 turn : Turn d mp w1 es wr es'
 names : es'.map E.nm = es.map E.nm
 now : (es'.map E.f).take j ++ onL ((es'.map E.f).drop j) ks' = onL (es.map E.f) ks
 safe : ∀ e ∈ es', e.f.safe ≤ e.f.l.length
 small : sum (es'.map E.f) ≤ 4194304
 kr : KR w1 d mp es kv ks'
theorem len_sum {fs : List F} {f : F} (h : f ∈ fs) : f.l.length ≤ sum fs := by
 induction fs with
 | nil => cases h
 | cons y fs ih =>
   unfold sum at ih ⊢
   rw [List.map_cons, List.sum_cons]
   rcases List.mem_cons.1 h with rfl | h
   ·omega
   ·have := ih h; omega
theorem OnI.keep {w1 wr wr' : World} {d mp : Nat} {es es' : List E} {ks ks' : List Int} {room ops ak af al : Int} {kv : Value} {j : Nat} (h : OnI w1 wr d mp es es' ks ks' room ops ak af al kv j) (hx : Reg.Ext wr wr') (hj : j < es'.length) (hs : es'[j].f.safe = es'[j].f.l.length) :
  OnI w1 wr' d mp es es' ks ks' room ops ak af al kv (j + 1) := by
 refine { h with dk := h.dk.ext hx, turn := h.turn.trans (Turn.ext hx), now := ?_ }
 have hj' : j < (es'.map E.f).length := by rw [List.length_map]; exact hj
 rw [← onL_keep (es'.map E.f) ks' j hj' (by simpa using hs)]
 exact h.now
theorem OnI.lose {w1 wr wr' : World} {d mp : Nat} {es es' : List E} {ks ks' : List Int} {room ops ak af al : Int} {kv kv' : Value} {j m : Nat} {v : Value} (h : OnI w1 wr d mp es es' ks ks' room ops ak af al kv j) (hj : j < es'.length) (hs : es'[j].f.safe ≠ es'[j].f.l.length)
  (hm : m = (max (ks'.headD 0) 0).toNat) (hk : KR w1 d mp es kv' ks'.tail)
  (hD : Dk wr' d mp (Nmd.upd E.nm ⟨⟨es'[j].nm, es'[j].f.l.take (keptN es'[j].f m), keptN es'[j].f m⟩, es'[j].g, v⟩ es') ⟨room, (sum (es'.map E.f) : Int) - (es'[j].f.l.length - keptN es'[j].f m), ops, false, ak, af, al⟩)
  (hT : Turn d mp wr es' wr' (Nmd.upd E.nm ⟨⟨es'[j].nm, es'[j].f.l.take (keptN es'[j].f m), keptN es'[j].f m⟩, es'[j].g, v⟩ es')) :
  ∃ es2, OnI w1 wr' d mp es es2 ks ks'.tail room ops ak af al kv' (j + 1) ∧ es2.length = es'.length := by
 have hj' : j < (es'.map E.f).length := by rw [List.length_map]; exact hj
 have hkl := keptN_le es'[j].f m (h.safe _ (List.getElem_mem hj))
 have hset := upd_set es' h.dk.up j hj ⟨⟨es'[j].nm, es'[j].f.l.take (keptN es'[j].f m), keptN es'[j].f m⟩, es'[j].g, v⟩ rfl
 have hfs : (es'.set j ⟨⟨es'[j].nm, es'[j].f.l.take (keptN es'[j].f m), keptN es'[j].f m⟩, es'[j].g, v⟩).map E.f = (es'.map E.f).set j (lost (es'.map E.f)[j] m) := by
  rw [List.map_set]; simp [lost]
 have hsum := sum_set (es'.map E.f) j hj' (lost (es'.map E.f)[j] m)
 have hlen : (lost (es'.map E.f)[j] m).l.length = keptN es'[j].f m := by
  simp [lost]; omega
 rw [hlen, List.getElem_map] at hsum
 rw [hset] at hD hT
 refine ⟨es'.set j ⟨⟨es'[j].nm, es'[j].f.l.take (keptN es'[j].f m), keptN es'[j].f m⟩, es'[j].g, v⟩, ⟨?_, h.turn.trans hT, ?_, ?_, ?_, ?_, hk⟩, List.length_set⟩
 ·rw [hfs]
  rw [List.getElem_map]
  have : (sum (es'.map E.f) : Int) - (es'[j].f.l.length - keptN es'[j].f m) = (sum ((es'.map E.f).set j (lost es'[j].f m)) : Int) := by omega
  rw [← this]
  exact hD
 ·rw [← h.names, ← hset, Nmd.upd_names]
 ·rw [hfs, hm, ← onL_lose (es'.map E.f) ks' j hj' (by simpa using hs)]
  exact h.now
 ·intro e he
  rcases List.mem_or_eq_of_mem_set he with he | rfl
  ·exact h.safe e he
  ·show keptN es'[j].f m ≤ (es'[j].f.l.take (keptN es'[j].f m)).length
   rw [List.length_take]; omega
 ·rw [hfs, List.getElem_map]
  have := h.small
  omega
set_option maxRecDepth 100000 in
set_option maxHeartbeats 1000000 in
theorem on_any (W : World) (d mp : Nat) (es : List E) (s : H) (hD : Dk W d mp es s) (v : Value) (ks : List Int) (hk : KR W d mp es v ks) (hc : es.length ≤ 200) (hsf : ∀ e ∈ es, e.f.safe ≤ e.f.l.length) (hus : s.used = (sum (es.map E.f) : Int)) (hu : s.used ≤ 4194304) (hnm : ∀ e ∈ es, e.nm.length ≤ 80) :
  Calls Tryz.prog 15 #[.pointer (some ⟨d, 0, none⟩), v] W fun e w' => e = .returned (.tuple #[]) ∧ ∃ es' s', Dk w' d mp es' s' ∧ Turn d mp W es w' es' ∧ pl es' s' = (pl es s).on ks := by
 obtain ⟨c0, c1, c2, c3, c4, c5, c6, c7⟩ := hD.c
 have f4 := hD.blk.frozen 4
 obtain ⟨room, used, ops, off, ak, af, al⟩ := s
 dsimp only at c1 c2 c3 c4 c5 c6 c7 hus hu
 cases off with
 | false =>
   have hp : (pl es ⟨room, used, ops, false, ak, af, al⟩).on ks = pl es ⟨room, used, ops, false, ak, af, al⟩ := rfl
   rw [hp]
   clear hp hk hus
   go_enter Tryz.func15, Tryz.ntmps15
   go_wp2
   refine bodyPost_ret (results_none rfl _ _ _) rfl ?_
   exact ⟨rfl, es, _, hD, Turn.refl _ _ _ _, rfl⟩
 | true =>
   have hp : (pl es ⟨room, used, ops, true, ak, af, al⟩).on ks = ⟨onL (es.map E.f) ks, ⟨room, (sum (onL (es.map E.f) ks) : Int), ops, false, ak, af, al⟩⟩ := rfl
   rw [hp]
   clear hp
   have hD1 : Dk (W.setCell ⟨d, 4, none⟩ (.bool false)) d mp es ⟨room, used, ops, false, ak, af, al⟩ := hD.setH 4 _ rfl
   have hT1 : Turn d mp W es (W.setCell ⟨d, 4, none⟩ (.bool false)) es := Turn.of_but (But.set_ d W 4 _)
   have hN := names_any _ d mp es _ hD1 hc
   go_enter Tryz.func15, Tryz.ntmps15
   have hke := y_ hk
   have huk := y_ hus
   clear hk hus
   go_wp2_with (go_at_call 31; refine hN.mono ?_; rintro e w1 ⟨nv, rfl, hnr, hx1⟩; have hnk := NR.of hnr; clear hnr; obtain ⟨NA, ncap, rfl, hncap, hncell⟩ := hnk)
   have hT2 : Turn d mp W es w1 es := hT1.trans (Turn.ext hx1)
   have hst : OnI w1 w1 d mp es es ks ks room ops ak af al v 0 := by
    refine ⟨?_, Turn.refl _ _ _ _, rfl, rfl, hsf, ?_, hke.out.turn hT2⟩
    ·have h := hD1.ext hx1
     rw [huk.out] at h
     exact h
    ·have := huk.out
     omega
   have hno : ∀ rb, W.heap.size ≤ rb → ¬ Own d mp es rb := fun rb hge ho => by
    have := hD.own_lt ho
    omega
   have hlenm : (es.map E.nm).length = es.length := List.length_map _
   have hT2k := y_ hT2
   have hstk := y_ hst
   have hnok := y_ hno
   have hcells := y_ hncell
   have hnmk := y_ hnm
   clear hT2 hst hno hncell hnm hsf hD1 hT1 hN c0 c1 c2 c3 c4 c5 c6 c7 f4 hx1 hD hke huk hu
   go_loopw [1, 5, 6, 7, 23] (fun kv _ _ _ i wr => ∃ (j : Nat) (es' : List E) (ks' : List Int), i = .int .i64 (j : Int) ∧ j ≤ es.length ∧ Hid (es'.length = es.length) ∧ Hid (OnI w1 wr d mp es es' ks ks' room ops ak af al kv j)) (fun _ _ _ _ i _ => es.length - (intOf i).toNat)
   case atStart => exact ⟨0, es, ks, rfl, Nat.zero_le _, y_ rfl, hstk⟩
   case round =>
    obtain ⟨j, es', ks', rfl, hjl, HL, HI⟩ := hrel
    by_cases hjs : j < es.length
    ·obtain ⟨rb, rfl, hB, hlt, hcell⟩ := hcells.out j (by rw [hlenm]; exact hjs)
     have hj2 : j < es'.length := by rw [HL.out]; exact hjs
     have hnj : (es.map E.nm)[j]'(by rw [hlenm]; exact hjs) = es'[j].nm := by
      have h := HI.out.names
      have : (es'.map E.nm)[j]'(by rw [List.length_map]; exact hj2) = (es.map E.nm)[j]'(by rw [hlenm]; exact hjs) := by simp only [h]
      rw [← this, List.getElem_map]
     rw [hnj] at hcell
     have hcw := (cell_block (i := j) (HI.out.turn.kept rb hlt (hnok.out rb (by simpa using hB)))).trans hcell
     have hm2 : es'[j] ∈ es' := List.getElem_mem hj2
     have hln : es'[j].nm.length ≤ 80 := by
      rw [← hnj, List.getElem_map]
      exact hnmk.out _ (List.getElem_mem hjs)
     have hge : Nmd.get E.nm es'[j].nm es' = some es'[j] := by
      cases hgt : Nmd.get E.nm es'[j].nm es' with
      | none => exact absurd rfl (Nmd.get_none hgt es'[j] hm2)
      | some y => rw [HI.out.dk.up.same y (Nmd.get_mem hgt).1 es'[j] hm2 (Nmd.get_mem hgt).2]
     have hlk := HI.out.dk.look es'[j].nm (by unfold maxLen; omega)
     rw [hge] at hlk
     have c0 := HI.out.dk.c.1
     have hbk := HI.out.dk.file _ hm2
     have k0 := hbk.cell 0
     have k1 := hbk.cell 1
     dsimp only [List.getElem?_cons_zero, List.getElem?_cons_succ] at k0 k1
     obtain ⟨A, cap, hv, hc1, hc2⟩ := (HI.out.dk.row _ hm2).form3
     rw [hv] at k0
     have hll : es'[j].f.l.length ≤ 4194304 := Nat.le_trans (len_sum (List.mem_map.2 ⟨_, hm2, rfl⟩)) HI.out.small
     have hssf := HI.out.safe _ hm2
     unfold ptrV at hlk
     unfold str at hlk hcw
     clear hbk hv hnj hcell hge
     by_cases hs : es'[j].f.safe = es'[j].f.l.length
     ·have q1 : (((es'[j].f.safe : Nat) : Int) == ((es'[j].f.l.length : Nat) : Int)) = true := by rw [hs]; exact beq_self_eq_true _
      have HK : ∀ wr', Reg.Ext wr wr' → Hid (OnI w1 wr' d mp es es' ks ks' room ops ak af al _ (j + 1)) := fun wr' hx => y_ (HI.out.keep hx hj2 hs)
      have HKk := y_ HK
      have hsk := y_ hs
      clear HK hs
      generalize es'[j].f.safe = sf at *
      generalize es'[j].f.l.length = ln at *
      go_wp2_with fail
      go_quiet (fail)
      go_wp2_with fail
      go_roundw
      case rel => exact ⟨j + 1, es', ks', by go_num, by omega, HL, HKk.out _ (Reg.Ext.drewN _ _)⟩
      case measure => simp [intOf]; omega
     ·have q1 : (((es'[j].f.safe : Nat) : Int) == ((es'[j].f.l.length : Nat) : Int)) = false := beq_eq_false_iff_ne.2 fun e => hs (by omega)
      have HLs : ∀ (kv' : Value) (m : Nat) (keep : Int), max keep 0 = m → m = (max (ks'.headD 0) 0).toNat → KR w1 d mp es kv' ks'.tail → ∀ wr', Reg.Ext wr wr' →
        Calls Tryz.prog 44 #[.pointer (some ⟨d, 0, none⟩), .pointer (some ⟨es'[j].g, 0, none⟩), .int .i64 keep] wr' fun e w' => e = .returned (.tuple #[]) ∧ ∃ es2, OnI w1 w' d mp es es2 ks ks'.tail room ops ak af al kv' (j + 1) ∧ es2.length = es'.length := by
       intro kv' m keep h1 h2 h3 wr' hx
       have hsm := HI.out.small
       refine (lose_any wr' d mp es' _ (HI.out.dk.ext hx) es'[j] hm2 m keep h1 hssf ⟨Int.natCast_nonneg _, by dsimp only; omega⟩ hll).mono ?_
       rintro e w' ⟨rfl, v', h4, h5⟩
       exact ⟨rfl, HI.out.lose hj2 hs h2 h3 h4 ((Turn.ext hx).trans h5)⟩
      have HLk := y_ HLs
      obtain ⟨KA, kcap, rfl, hkc1, hkc2, hkcell⟩ := HI.out.kr
      have hskk := y_ hs
      clear HLs hs
      generalize es'[j].f.safe = sf at *
      generalize es'[j].f.l.length = ln at *
      go_wp2_with fail
      go_quiet (fail)
      generalize nq = n1
      cases ks' with
      | nil =>
        have hk0 := y_ HI.out.kr
        go_wp2_with (go_at_call 44; refine (HLk.out _ 0 0 rfl rfl hk0.out _ (Reg.Ext.drewN _ _)).mono ?_; rintro e w2 ⟨rfl, es2, hO2, hl2⟩; have hO2k := y_ hO2; have hl2k := y_ hl2; clear hO2 hl2)
        go_roundw
        case rel => exact ⟨j + 1, es2, [], by go_num, by omega, y_ (hl2k.out.trans HL.out), hO2k⟩
        case measure => simp [intOf]; omega
      | cons x ks2 =>
        obtain ⟨kb, ko, rfl, hkl, hkn, hkx⟩ := hkcell 0 (by rw [List.length_cons]; omega)
        have hkw := (cell_block (i := ko + 0) (HI.out.turn.kept kb hkl hkn)).trans hkx
        rw [Nat.add_zero] at hkw
        have hk0 := y_ HI.out.kr
        have hmx : max x 0 = (((max x 0).toNat : Nat) : Int) := by omega
        have hmk := y_ hmx
        clear hkcell hkx hmx
        by_cases hc1 : kcap = 1
        ·have hk2 : ks2 = [] := by
          rw [List.length_cons] at hkc1
          exact List.eq_nil_of_length_eq_zero (by omega)
         subst hk2 hc1
         have hkr : Hid (KR w1 d mp es (.slice (some ⟨kb, ko, none⟩) 0 0) []) := KR.last _
         have HH := y_ (HLk.out (.slice (some ⟨kb, ko, none⟩) 0 0) (max x 0).toNat x hmk.out rfl hkr.out)
         go_wp2_with fail
         go_quiet (fail)
         go_wp2_with (go_at_call 44; refine (HH.out _ (Reg.Ext.drewN wr _)).mono ?_; rintro e w2 ⟨rfl, es2, hO2, hl2⟩; have hO2k := y_ hO2; have hl2k := y_ hl2; clear hO2 hl2)
         go_roundw
         case rel => exact ⟨j + 1, es2, [], by go_num, by omega, y_ (hl2k.out.trans HL.out), hO2k⟩
         case measure => simp [intOf]; omega
        ·have hkr := y_ (hk0.out.next hc1)
         have HH := y_ (HLk.out _ (max x 0).toNat x hmk.out rfl hkr.out)
         go_wp2_with fail
         go_quiet (fail)
         go_wp2_with (go_at_call 44; refine (HH.out _ (Reg.Ext.drewN wr _)).mono ?_; rintro e w2 ⟨rfl, es2, hO2, hl2⟩; have hO2k := y_ hO2; have hl2k := y_ hl2; clear hO2 hl2)
         go_roundw
         case rel => exact ⟨j + 1, es2, ks2, by go_num, by omega, y_ (hl2k.out.trans HL.out), hO2k⟩
         case measure => simp [intOf]; omega
    ·have hje : j = es.length := by omega
     subst hje
     go_wp2_with fail
     go_end0
     have HO := HI.out
     have hnow := HO.now
     have hl2 : (es'.map E.f).length = es.length := by rw [List.length_map]; exact HL.out
     rw [List.take_of_length_le (by omega), List.drop_of_length_le (by omega)] at hnow
     have hfs : es'.map E.f = onL (es.map E.f) ks := by
      rw [← hnow]
      unfold onL
      simp
     refine ⟨rfl, es', _, HO.dk, hT2k.out.trans HO.turn, ?_⟩
     unfold pl
     rw [← hfs]
end Plk
end Go.Proofs.YtafeealbdpmdkaaGreatDoor
/- A disk that a law holds; the operations on it. -/
namespace Go.Proofs.YtafeealbdpmdkaaGreatDoor
open Go Go.RowKit
namespace Plk
theorem sum_ins (f : F) (fs : List F) : sum (Nmd.ins F.name f fs) = sum fs + f.l.length := by
 induction fs with
 | nil => simp [sum, Nmd.ins]
 | cons y fs ih =>
   unfold Nmd.ins
   by_cases h : F.name y < F.name f
   ·rw [if_pos h]
    simp [sum] at ih ⊢
    omega
   ·rw [if_neg h]
    simp [sum]
    omega
theorem sum_del {fs : List F} {n : List UInt8} {f : F} (hu : Nmd.Up F.name fs) (h : Nmd.get F.name n fs = some f) : sum (Nmd.del F.name n fs) + f.l.length = sum fs := by
 have hp := hu.ne
 clear hu
 induction fs with
 | nil => cases h
 | cons y fs ih =>
   obtain ⟨h1, h2⟩ := List.pairwise_cons.1 hp
   rw [Nmd.get_cons] at h
   unfold Nmd.del
   rw [List.filter_cons]
   by_cases hy : y.name = n
   ·rw [if_pos hy] at h
    injection h with h
    subst h
    have e1 : (y.name == n) = true := by rw [hy]; exact beq_self_eq_true n
    rw [e1, Bool.not_true, if_neg (by decide), List.filter_eq_self.2]
    ·simp [sum]; omega
    ·intro z hz
     rw [beq_eq_false_iff_ne.2 (fun e => h1 z hz (hy.trans e.symm))]; rfl
   ·rw [if_neg hy] at h
    have e1 : (y.name == n) = false := beq_eq_false_iff_ne.2 hy
    rw [e1, Bool.not_false, if_pos rfl]
    have := ih h h2
    unfold Nmd.del at this
    simp [sum] at this ⊢
    omega
theorem sum_upd {fs : List F} {f x : F} (hu : Nmd.Up F.name fs) (h : f ∈ fs) (hx : x.name = f.name) : sum (Nmd.upd F.name x fs) + f.l.length = sum fs + x.l.length := by
 have hp := hu.ne
 clear hu
 induction fs with
 | nil => cases h
 | cons y fs ih =>
   obtain ⟨h1, h2⟩ := List.pairwise_cons.1 hp
   unfold Nmd.upd
   rw [List.map_cons]
   rcases List.mem_cons.1 h with rfl | h
   ·have : ∀ z ∈ fs, (if z.name = x.name then x else z) = z := fun z hz => if_neg fun e => h1 z hz (hx.symm.trans e.symm)
    rw [if_pos hx.symm, (List.map_congr_left this).trans (List.map_id' fs)]
    simp [sum]; omega
   ·have hne : y.name ≠ x.name := by rw [hx]; exact h1 f h
    rw [if_neg hne]
    have := ih h h2
    unfold Nmd.upd at this
    simp [sum] at this ⊢
    omega
theorem Good.begin_ {p : P} (h : Good p) (ns : List (List UInt8)) : Good ⟨p.fs, (p.h.begin ns).2⟩ := by
 obtain ⟨k1, k2, k3, _⟩ := begin_keep p.h ns
 refine ⟨h.up, ?_, ?_, h.safe, h.cnt, h.names, Int.le_trans h.ops k3⟩
 ·show (p.h.begin ns).2.used = _
  rw [k2]; exact h.used
 ·show (p.h.begin ns).2.used ≤ (p.h.begin ns).2.room ∧ (p.h.begin ns).2.room ≤ _
  rw [k1, k2]; exact h.room
theorem begin_names {s : H} {n : List UInt8} (h : (s.begin [n]).1 = 0) : isName n = true := by
 unfold H.begin at h
 by_cases hb : ([n].any fun n => !isName n) = true
 ·rw [if_pos hb] at h; cases h
 ·simpa using hb
theorem Good.create {p : P} (h : Good p) (n : List UInt8) : Good (p.create n).2 := by
 unfold P.create
 have hb := h.begin_ [n]
 by_cases h1 : (p.h.begin [n]).1 ≠ 0
 ·rw [if_pos h1]; exact hb
 ·rw [if_neg h1]
  by_cases h2 : (Nmd.get F.name n p.fs).isSome = true
  ·rw [if_pos h2]; exact hb
  ·rw [if_neg h2]
   by_cases h3 : 200 ≤ p.fs.length
   ·rw [if_pos h3]; exact hb
   ·rw [if_neg h3]
    have hg : Nmd.get F.name n p.fs = none := by simpa using h2
    refine ⟨h.up.ins (Nmd.get_none hg), ?_, hb.room, ?_, ?_, ?_, hb.ops⟩
    ·show (p.h.begin [n]).2.used = ((sum (Nmd.ins F.name ⟨n, [], 0⟩ p.fs) : Nat) : Int)
     rw [sum_ins]; exact hb.used
    ·intro f hf
     rcases Nmd.mem_ins.1 hf with rfl | hf
     ·exact Nat.zero_le _
     ·exact h.safe f hf
    ·show (Nmd.ins F.name ⟨n, [], 0⟩ p.fs).length ≤ 200
     rw [Nmd.length_ins]; omega
    ·intro f hf
     rcases Nmd.mem_ins.1 hf with rfl | hf
     ·exact begin_names (Decidable.not_not.1 h1)
     ·exact h.names f hf
theorem pfind_keep (p : P) (n : List UInt8) : (p.find n).2.1 = (p.h.begin [n]).2 := by
 unfold P.find
 split
 ·rfl
 ·split <;> rfl
theorem pfind_some {p : P} {n : List UInt8} {f : F} (h : (p.find n).2.2 = some f) : Nmd.get F.name n p.fs = some f ∧ f ∈ p.fs ∧ f.name = n := by
 unfold P.find at h
 by_cases he : (p.h.begin [n]).1 ≠ 0
 ·rw [if_pos he] at h; cases h
 ·rw [if_neg he] at h
  cases hg : Nmd.get F.name n p.fs with
  | none => rw [hg] at h; cases h
  | some y =>
    rw [hg] at h
    injection h with h
    subst h
    exact ⟨rfl, (Nmd.get_mem hg).1, (Nmd.get_mem hg).2⟩
theorem Good.upd {fs : List F} {s : H} (h : Good ⟨fs, s⟩) {f x : F} (hf : f ∈ fs) (hx : x.name = f.name) (hs : x.safe ≤ x.l.length) (s' : H) (hu : s'.used = s.used + x.l.length - f.l.length) (hr : s'.used ≤ s'.room ∧ s'.room ≤ 4194304) (ho : 0 ≤ s'.ops) : Good ⟨Nmd.upd F.name x fs, s'⟩ := by
 have hsum : sum (Nmd.upd F.name x fs) + f.l.length = sum fs + x.l.length := sum_upd h.up hf hx
 have hus : s.used = ((sum fs : Nat) : Int) := h.used
 refine ⟨h.up.upd x, ?_, hr, ?_, ?_, ?_, ho⟩
 ·show s'.used = ((sum (Nmd.upd F.name x fs) : Nat) : Int)
  rw [hu]
  omega
 ·intro y hy
  rcases Nmd.mem_upd hy with rfl | ⟨hy, _⟩
  ·exact hs
  ·exact h.safe y hy
 ·show (Nmd.upd F.name x fs).length ≤ 200
  rw [Nmd.length_upd]; exact h.cnt
 ·intro y hy
  rcases Nmd.mem_upd hy with rfl | ⟨hy, _⟩
  ·rw [hx]; exact h.names f hf
  ·exact h.names y hy
theorem Good.find_ {p : P} (h : Good p) (n : List UInt8) : Good ⟨p.fs, (p.find n).2.1⟩ := by
 rw [pfind_keep]; exact h.begin_ [n]
theorem Good.sync {p : P} (h : Good p) (n : List UInt8) : Good (p.sync n).2 := by
 unfold P.sync
 have hb := h.find_ n
 cases hf : (p.find n).2.2 with
 | none => exact hb
 | some f =>
   obtain ⟨_, hm, _⟩ := pfind_some hf
   exact hb.upd (x := ⟨f.name, f.l, f.l.length⟩) hm rfl (Nat.le_refl _) _ (by dsimp only; omega) hb.room hb.ops
theorem Good.append {p : P} (h : Good p) (n t : List UInt8) : Good (p.append n t).2 := by
 unfold P.append
 have hb := h.find_ n
 cases hf : (p.find n).2.2 with
 | none => exact hb
 | some f =>
   obtain ⟨_, hm, _⟩ := pfind_some hf
   dsimp only
   by_cases h1 : p.h.room - p.h.used < t.length
   ·rw [if_pos h1]; exact hb
   ·rw [if_neg h1]
    have hk := begin_keep p.h [n]
    have hk2 := pfind_keep p n
    rw [← hk2] at hk
    refine hb.upd (x := ⟨f.name, f.l ++ t, f.safe⟩) hm rfl ?_ { (p.find n).2.1 with used := (p.find n).2.1.used + t.length } ?_ ⟨?_, hb.room.2⟩ hb.ops
    ·have := h.safe f hm
     show f.safe ≤ (f.l ++ t).length
     rw [List.length_append]; omega
    ·dsimp only
     rw [List.length_append]; omega
    ·dsimp only
     rw [hk.1, hk.2.1]; omega
theorem Good.delete {p : P} (h : Good p) (n : List UInt8) : Good (p.delete n).2 := by
 unfold P.delete
 have hb := h.find_ n
 cases hf : (p.find n).2.2 with
 | none => exact hb
 | some f =>
   obtain ⟨hg, hm, _⟩ := pfind_some hf
   have hsum := sum_del h.up hg
   have hus := hb.used
   have hro := hb.room
   dsimp only at hus hro ⊢
   refine ⟨h.up.del n, ?_, ⟨?_, hro.2⟩, ?_, ?_, ?_, hb.ops⟩
   ·dsimp only; omega
   ·dsimp only; omega
   ·intro y hy; exact h.safe y (Nmd.mem_del.1 hy).1
   ·have := List.length_filter_le (fun y => !(F.name y == n)) p.fs
    exact Nat.le_trans this h.cnt
   ·intro y hy; exact h.names y (Nmd.mem_del.1 hy).1
theorem onL_names : ∀ (fs : List F) (ks : List Int), (onL fs ks).map F.name = fs.map F.name
 | [], _ => rfl
 | f :: fs, ks => by
   unfold onL
   by_cases h : f.safe = f.l.length
   ·rw [if_pos h, List.map_cons, List.map_cons, onL_names]
   ·rw [if_neg h, List.map_cons, List.map_cons, onL_names]; rfl
theorem onL_ok : ∀ (fs : List F) (ks : List Int), (∀ f ∈ fs, f.safe ≤ f.l.length) → (∀ f ∈ onL fs ks, f.safe ≤ f.l.length) ∧ sum (onL fs ks) ≤ sum fs
 | [], _, _ => ⟨fun f hf => (by cases hf), Nat.le_refl _⟩
 | f :: fs, ks, h => by
   have hf := h f List.mem_cons_self
   have ht := fun ks => onL_ok fs ks fun x hx => h x (List.mem_cons_of_mem _ hx)
   unfold onL
   by_cases hs : f.safe = f.l.length
   ·rw [if_pos hs]
    refine ⟨fun x hx => ?_, ?_⟩
    ·rcases List.mem_cons.1 hx with rfl | hx
     ·exact hf
     ·exact (ht ks).1 x hx
    ·have := (ht ks).2
     simp [sum] at this ⊢
     omega
   ·rw [if_neg hs]
    have hk := keptN_le f (max (ks.headD 0) 0).toNat hf
    refine ⟨fun x hx => ?_, ?_⟩
    ·rcases List.mem_cons.1 hx with rfl | hx
     ·show keptN f _ ≤ (f.l.take (keptN f _)).length
      rw [List.length_take]; omega
     ·exact (ht ks.tail).1 x hx
    ·have := (ht ks.tail).2
     have e1 : (lost f (max (ks.headD 0) 0).toNat).l.length ≤ f.l.length := by
      show (f.l.take _).length ≤ _
      rw [List.length_take]; omega
     simp only [sum, List.map_cons, List.sum_cons] at this ⊢
     omega
theorem Good.on {p : P} (h : Good p) (ks : List Int) : Good (p.on ks) := by
 unfold P.on
 by_cases ho : p.h.off = true
 ·rw [if_pos ho]
  obtain ⟨h1, h2⟩ := onL_ok p.fs ks h.safe
  have hn := onL_names p.fs ks
  have hl : (onL p.fs ks).length = p.fs.length := by
   have := congrArg List.length hn
   simpa using this
  refine ⟨?_, rfl, ⟨?_, h.room.2⟩, h1, ?_, ?_, h.ops⟩
  ·show Nmd.Up F.name (onL p.fs ks)
   rw [Nmd.up_names, hn]
   exact Nmd.up_names.1 h.up
  ·have := h.used
   have := h.room.1
   dsimp only
   omega
  ·show (onL p.fs ks).length ≤ 200
   rw [hl]; exact h.cnt
  ·intro f hf
   have : f.name ∈ p.fs.map F.name := by
    rw [← hn]
    exact List.mem_map.2 ⟨f, hf, rfl⟩
   obtain ⟨g, hg, hgn⟩ := List.mem_map.1 this
   rw [← hgn]
   exact h.names g hg
 ·rw [if_neg ho]; exact h
end Plk
end Go.Proofs.YtafeealbdpmdkaaGreatDoor
/- A disk that a law holds; the operations on it. -/
namespace Go.Proofs.YtafeealbdpmdkaaGreatDoor
open Go Go.RowKit
namespace Plk
structure Hold (W0 w : World) (d : Nat) (p : P) : Prop where
 ext : Reg.Ext W0 w
 good : Good p
 dk : ∃ mp es, Dk w d mp es p.h ∧ es.map E.f = p.fs ∧ ∀ i, Own d mp es i → W0.heap.size ≤ i
theorem Hold.step {W0 w w' : World} {d mp : Nat} {es es' : List E} {s' : H} {p' : P} (hx : Reg.Ext W0 w) (ho : ∀ i, Own d mp es i → W0.heap.size ≤ i) (hD : Dk w' d mp es' s') (hT : Turn d mp w es w' es') (hp : pl es' s' = p') (hg : Good p') : Hold W0 w' d p' := by
 subst hp
 refine ⟨⟨hT.os.trans hx.os, hT.tape.trans hx.tape, hT.output.trans hx.output, Nat.le_trans hx.size hT.size, fun i hi => ?_⟩, hg, mp, es', hD, rfl, fun i hi => ?_⟩
 ·refine (hT.kept i (Nat.lt_of_lt_of_le hi hx.size) fun o => ?_).trans (hx.block i hi)
  have := ho i o
  omega
 ·rcases hT.own i hi with h | h
  ·exact ho i h
  ·exact Nat.le_trans hx.size h
theorem Hold.more {W0 w w' : World} {d : Nat} {p : P} (h : Hold W0 w d p) (hx : Reg.Ext w w') : Hold W0 w' d p := by
 obtain ⟨h1, h2, mp, es, h3, h4, h5⟩ := h
 exact ⟨h1.trans hx, h2, mp, es, h3.ext hx, h4, h5⟩
abbrev big : Int := 4611686018427387904
theorem good_len {es : List E} {s : H} (hg : Good ⟨es.map E.f, s⟩) : ∀ e ∈ es, e.f.l.length ≤ 4194304 := by
 intro e he
 have h1 := len_sum (List.mem_map.2 ⟨e, he, rfl⟩ : e.f ∈ es.map E.f)
 have h2 := hg.used
 have h3 := hg.room
 dsimp only at h2 h3
 omega
theorem good_room {p : P} (hg : Good p) : 0 ≤ p.h.used ∧ p.h.used ≤ p.h.room ∧ p.h.room ≤ 4194304 := by
 have h2 := hg.used
 have h3 := hg.room
 omega
theorem Hold.new (room : Int) (W : World) : Calls Tryz.prog 5 #[.int .i64 room] W fun e w' => ∃ d, e = .returned (.pointer (some ⟨d, 0, none⟩)) ∧ Hold W w' d (new room) := by
 refine (new_any room W).mono ?_
 rintro e w' ⟨d, mp, rfl, hD, h1, h2, hx⟩
 refine ⟨d, rfl, hx, good_new room, mp, [], hD, rfl, fun i hi => ?_⟩
 rcases hi with rfl | rfl | ⟨e, he, _⟩
 ·exact h1
 ·exact h2
 ·cases he
theorem arm_keep (s : H) (x k m : Int) : (s.arm x k m).room = s.room ∧ (s.arm x k m).used = s.used ∧ (s.arm x k m).ops = s.ops ∧ (s.arm x k m).off = s.off := by
 unfold H.arm
 split <;> exact ⟨rfl, rfl, rfl, rfl⟩
section
variable {W0 w : World} {d : Nat} {p : P} (h : Hold W0 w d p)
include h
theorem Hold.create (n : List UInt8) (h1 : p.h.ops < big) : Calls Tryz.prog 62 #[.pointer (some ⟨d, 0, none⟩), str n] w fun e w' => e = .returned (.int .i64 (p.create n).1) ∧ Hold W0 w' d (p.create n).2 := by
 obtain ⟨hx, hg, mp, es, hD, hfs, ho⟩ := h
 obtain ⟨fs, s⟩ := p
 dsimp only at hD hfs
 subst hfs
 refine (create_any w d mp es s hD n hg.ops h1 (by have := hg.cnt; simpa using this)).mono ?_
 rintro e w' ⟨es', s', rfl, h2, h3, h4⟩
 exact ⟨rfl, Hold.step hx ho h2 h3 h4 (hg.create n)⟩
theorem Hold.append (n t : List UInt8) (h1 : p.h.ops < big) (ht : t.length ≤ 4294967296) : Calls Tryz.prog 19 #[.pointer (some ⟨d, 0, none⟩), str n, str t] w fun e w' => e = .returned (.int .i64 (p.append n t).1) ∧ Hold W0 w' d (p.append n t).2 := by
 obtain ⟨hx, hg, mp, es, hD, hfs, ho⟩ := h
 obtain ⟨fs, s⟩ := p
 dsimp only at hD hfs
 subst hfs
 refine (append_any w d mp es s hD n t hg.ops h1 (good_room hg) (good_len hg) ht).mono ?_
 rintro e w' ⟨es', s', rfl, h2, h3, h4⟩
 exact ⟨rfl, Hold.step hx ho h2 h3 h4 (hg.append n t)⟩
theorem Hold.sync (n : List UInt8) (h1 : p.h.ops < big) : Calls Tryz.prog 55 #[.pointer (some ⟨d, 0, none⟩), str n] w fun e w' => e = .returned (.int .i64 (p.sync n).1) ∧ Hold W0 w' d (p.sync n).2 := by
 obtain ⟨hx, hg, mp, es, hD, hfs, ho⟩ := h
 obtain ⟨fs, s⟩ := p
 dsimp only at hD hfs
 subst hfs
 refine (sync_any w d mp es s hD n hg.ops h1).mono ?_
 rintro e w' ⟨es', s', rfl, h2, h3, h4⟩
 exact ⟨rfl, Hold.step hx ho h2 h3 h4 (hg.sync n)⟩
theorem Hold.delete (n : List UInt8) (h1 : p.h.ops < big) : Calls Tryz.prog 86 #[.pointer (some ⟨d, 0, none⟩), str n] w fun e w' => e = .returned (.int .i64 (p.delete n).1) ∧ Hold W0 w' d (p.delete n).2 := by
 obtain ⟨hx, hg, mp, es, hD, hfs, ho⟩ := h
 obtain ⟨fs, s⟩ := p
 dsimp only at hD hfs
 subst hfs
 refine (delete_any w d mp es s hD n hg.ops h1 (by have := good_room hg; dsimp only at this; omega) (good_len hg)).mono ?_
 rintro e w' ⟨es', s', rfl, h2, h3, h4⟩
 exact ⟨rfl, Hold.step hx ho h2 h3 h4 (hg.delete n)⟩
theorem Hold.off : Calls Tryz.prog 13 #[.pointer (some ⟨d, 0, none⟩)] w fun e w' => e = .returned (.tuple #[]) ∧ Hold W0 w' d ⟨p.fs, { p.h with off := true, ak := 0, af := 0, al := 0 }⟩ := by
 obtain ⟨hx, hg, mp, es, hD, hfs, ho⟩ := h
 obtain ⟨fs, s⟩ := p
 dsimp only at hD hfs
 subst hfs
 refine (off_any w d mp es s hD).mono ?_
 rintro e w' ⟨rfl, h2, h3⟩
 exact ⟨rfl, Hold.step hx ho h2 (Turn.of_but h3) rfl ⟨hg.up, hg.used, hg.room, hg.safe, hg.cnt, hg.names, hg.ops⟩⟩
theorem Hold.arm (x k m : Int) (h1 : p.h.ops < big) : Calls Tryz.prog 11 #[.pointer (some ⟨d, 0, none⟩), .int .i64 x, .int .i64 k, .int .i64 m] w fun e w' => e = .returned (.tuple #[]) ∧ Hold W0 w' d ⟨p.fs, p.h.arm x k m⟩ := by
 obtain ⟨hx, hg, mp, es, hD, hfs, ho⟩ := h
 obtain ⟨fs, s⟩ := p
 dsimp only at hD hfs
 subst hfs
 refine (arm_any w d mp es s hD x k m hg.ops h1).mono ?_
 rintro e w' ⟨rfl, h2, h3⟩
 obtain ⟨k1, k2, k3, _⟩ := arm_keep s x k m
 refine ⟨rfl, Hold.step hx ho h2 (Turn.of_but h3) rfl ⟨hg.up, ?_, ?_, hg.safe, hg.cnt, hg.names, ?_⟩⟩
 ·exact k2.trans hg.used
 ·show (s.arm x k m).used ≤ (s.arm x k m).room ∧ (s.arm x k m).room ≤ _
  rw [k1, k2]; exact hg.room
 ·show 0 ≤ (s.arm x k m).ops
  rw [k3]; exact hg.ops
theorem Hold.read (n : List UInt8) (x k : Int) (h1 : p.h.ops < big) : Calls Tryz.prog 63 #[.pointer (some ⟨d, 0, none⟩), str n, .int .i64 x, .int .i64 k] w fun e w' => e = .returned (.tuple #[str (p.read n x k).1, .int .i64 (p.read n x k).2.1]) ∧ Hold W0 w' d (p.read n x k).2.2 := by
 obtain ⟨hx, hg, mp, es, hD, hfs, ho⟩ := h
 obtain ⟨fs, s⟩ := p
 dsimp only at hD hfs
 subst hfs
 refine (read_any w d mp es s hD n x k hg.ops h1 (good_len hg)).mono ?_
 rintro e w' ⟨s', rfl, h2, h3, h4⟩
 refine ⟨rfl, Hold.step hx ho h2 (Turn.of_but h3) h4 ?_⟩
 show Good (P.read ⟨es.map E.f, s⟩ n x k).2.2
 have hb := hg.find_ n
 unfold P.read
 split
 ·exact hg
 ·split
  ·exact hb
  ·split
   ·exact hb
   ·exact hb
theorem Hold.on1 (k : Int) : Calls Tryz.prog 15 #[.pointer (some ⟨d, 0, none⟩), .slice (some ⟨w.heap.size, 0, none⟩) 1 1] (w.alloc (.cells #[.int .i64 k] 3)) fun e w' => e = .returned (.tuple #[]) ∧ Hold W0 w' d (p.on [k]) := by
 obtain ⟨hx, hg, mp, es, hD, hfs, ho⟩ := h
 obtain ⟨fs, s⟩ := p
 dsimp only at hD hfs
 subst hfs
 have hxa := Reg.Ext.alloc w (.cells #[.int .i64 k] 3)
 have hD1 := hD.ext hxa
 have hk : KR (w.alloc (.cells #[.int .i64 k] 3)) d mp es (.slice (some ⟨w.heap.size, 0, none⟩) 1 1) [k] := by
  refine ⟨_, 1, rfl, Nat.le_refl _, by unfold maxLen; omega, fun j hj => ⟨w.heap.size, 0, rfl, by simp, fun o => ?_, ?_⟩⟩
  ·have := hD.own_lt o
   omega
  ·have : j = 0 := by simpa using hj
   subst this
   simp
 have hr := good_room hg
 dsimp only at hr
 refine (on_any _ d mp es s hD1 _ [k] hk (by have := hg.cnt; simpa using this) (fun e he => hg.safe e.f (List.mem_map.2 ⟨e, he, rfl⟩)) hg.used (by omega) (fun e he => ?_)).mono ?_
 ·have := hg.names e.f (List.mem_map.2 ⟨e, he, rfl⟩)
  unfold isName at this
  simp at this
  exact this.2
 ·rintro e w' ⟨rfl, es', s', h2, h3, h4⟩
  exact ⟨rfl, Hold.step (hx.trans hxa) ho h2 h3 h4 (hg.on [k])⟩
theorem Hold.bytes (n : List UInt8) (hn : n.length ≤ maxLen) : Calls Tryz.prog 33 #[.pointer (some ⟨d, 0, none⟩), str n] w fun e w' => e = .returned (str (match Nmd.get F.name n p.fs with | none => [] | some f => f.l)) ∧ w' = w := by
 obtain ⟨hx, hg, mp, es, hD, hfs, ho⟩ := h
 obtain ⟨fs, s⟩ := p
 dsimp only at hD hfs
 subst hfs
 dsimp only
 rw [get_pl]
 refine (bytes_any w d mp es s hD n hn).mono ?_
 rintro e w' ⟨rfl, rfl⟩
 cases Nmd.get E.nm n es <;> exact ⟨rfl, rfl⟩
theorem Hold.safe (n : List UInt8) (hn : n.length ≤ maxLen) : Calls Tryz.prog 34 #[.pointer (some ⟨d, 0, none⟩), str n] w fun e w' => e = .returned (.int .i64 (match Nmd.get F.name n p.fs with | none => 0 | some f => (f.safe : Int))) ∧ w' = w := by
 obtain ⟨hx, hg, mp, es, hD, hfs, ho⟩ := h
 obtain ⟨fs, s⟩ := p
 dsimp only at hD hfs
 subst hfs
 dsimp only
 rw [get_pl]
 refine (safe_any w d mp es s hD n hn).mono ?_
 rintro e w' ⟨rfl, rfl⟩
 cases Nmd.get E.nm n es <;> exact ⟨rfl, rfl⟩
end
end Plk
end Go.Proofs.YtafeealbdpmdkaaGreatDoor

/- On. -/
import Derived.Test.YtbiikihapfpkfaaPlkO
import Derived.Test.YtbiikihapfpkfaaPlkM
set_option linter.unusedSimpArgs false
set_option linter.unusedVariables false
set_option linter.unusedSectionVars false
namespace Go.Proofs.Ytbiikihapfpkfaa
open Go Go.RowKit
namespace Plk
def lost (f : F) (m : Nat) : F := ⟨f.name, f.l.take (keptN f m), keptN f m⟩
def onL : List F → List Int → List F
  | [], _ => []
  | f :: fs, ks => if f.safe = f.l.length then f :: onL fs ks else lost f (max (ks.headD 0) 0).toNat :: onL fs ks.tail
/-- the names that Names gave, to be read while the disk turns -/
def NR (W w1 : World) (v : Value) (ns : List (List UInt8)) : Prop := ∃ A cap, v = .slice A ns.length cap ∧ ns.length ≤ cap ∧ ∀ i (h : i < ns.length), ∃ rb, A = some ⟨rb, 0, none⟩ ∧ W.heap.size ≤ rb ∧ rb < w1.heap.size ∧ w1.cell? ⟨rb, i, none⟩ = some (str ns[i])
theorem NR.of {W w1 : World} {v : Value} {n : Nat} {ns : List (List UInt8)} (h : w1.ownsRow W.heap.size 9 1 v n (ns.map encStr)) : NR W w1 v ns := by
  obtain ⟨h1, h2⟩ := h
  rw [List.length_map, Nat.mul_one] at h1
  rcases h2 with ⟨rfl, hn⟩ | ⟨g, cap, cur, rfl, hb, hr, hc, hm, hsz, ht⟩
  · exact ⟨none, 0, by rw [h1, hn], by omega, fun i hi => absurd hi (by omega)⟩
  · refine ⟨_, cap, by rw [h1], by omega, fun i hi => ⟨g, rfl, hb, (Array.getElem?_eq_some_iff.1 hr).1, ?_⟩⟩
    rw [Nat.mul_one, ← h1] at ht
    have e := congrArg (fun x => x[i]?) ht
    simp only [List.getElem?_take, List.getElem?_map] at e
    rw [if_pos hi, Array.getElem?_toList, List.getElem?_eq_getElem hi] at e
    unfold World.cell?
    rw [hr]
    exact e
/-- a row of numbers that the disk doesn't hold -/
def KR (w1 : World) (d mp : Nat) (es : List E) (v : Value) (ks : List Int) : Prop := ∃ A cap, v = .slice A ks.length cap ∧ ks.length ≤ cap ∧ cap ≤ maxLen ∧ ∀ j (h : j < ks.length), ∃ kb ko, A = some ⟨kb, ko, none⟩ ∧ kb < w1.heap.size ∧ ¬ Own d mp es kb ∧ w1.cell? ⟨kb, ko + j, none⟩ = some (.int .i64 ks[j])
theorem cell_block {w w' : World} {b i : Nat} (h : w'.heap[b]? = w.heap[b]?) : w'.cell? ⟨b, i, none⟩ = w.cell? ⟨b, i, none⟩ := by
  unfold World.cell?
  rw [h]
theorem KR.turn {w w1 : World} {d mp : Nat} {es es' : List E} {v : Value} {ks : List Int} (h : KR w d mp es v ks) (hT : Turn d mp w es w1 es') : KR w1 d mp es v ks := by
  obtain ⟨A, cap, hv, h1, h2, h3⟩ := h
  refine ⟨A, cap, hv, h1, h2, fun j hj => ?_⟩
  obtain ⟨kb, ko, hA, hlt, hno, hc⟩ := h3 j hj
  exact ⟨kb, ko, hA, Nat.lt_of_lt_of_le hlt hT.size, hno, (cell_block (hT.kept kb hlt hno)).trans hc⟩
theorem KR.next {w1 : World} {d mp : Nat} {es : List E} {kb ko kcap : Nat} {x : Int} {ks : List Int} (h : KR w1 d mp es (.slice (some ⟨kb, ko, none⟩) (x :: ks).length kcap) (x :: ks)) (hc : kcap ≠ 1) : KR w1 d mp es (.slice (some ⟨kb, ko + 1, none⟩) ks.length (kcap - 1)) ks := by
  obtain ⟨A, cap, hv, h1, h2, h3⟩ := h
  injection hv with e1 e2 e3
  subst e1 e3
  rw [List.length_cons] at h1
  refine ⟨_, _, rfl, by omega, by omega, fun j hj => ?_⟩
  obtain ⟨kb', ko', hA, hlt, hno, hcl⟩ := h3 (j + 1) (by rw [List.length_cons]; omega)
  injection hA with hA
  injection hA with e1 e2
  subst e1 e2
  exact ⟨kb, ko + 1, rfl, hlt, hno, by rw [show ko + 1 + j = ko + (j + 1) by omega]; exact hcl⟩
theorem KR.last {w1 : World} {d mp : Nat} {es : List E} (A : Option Addr) : KR w1 d mp es (.slice A 0 0) [] := ⟨A, 0, rfl, Nat.le_refl _, Nat.zero_le _, fun j hj => absurd hj (Nat.not_lt_zero _)⟩
def P.on (p : P) (ks : List Int) : P := if p.h.off = true then ⟨onL p.fs ks, { p.h with off := false, used := (sum (onL p.fs ks) : Int) }⟩ else p
theorem onL_keep (l : List F) (ks : List Int) (j : Nat) (hj : j < l.length) (h : l[j].safe = l[j].l.length) : l.take j ++ onL (l.drop j) ks = l.take (j + 1) ++ onL (l.drop (j + 1)) ks := by
  rw [List.drop_eq_getElem_cons hj]
  conv => lhs; unfold onL
  rw [if_pos h, List.take_succ_eq_append_getElem hj, List.append_assoc]
  rfl
theorem onL_lose (l : List F) (ks : List Int) (j : Nat) (hj : j < l.length) (h : l[j].safe ≠ l[j].l.length) :
    l.take j ++ onL (l.drop j) ks = (l.set j (lost l[j] (max (ks.headD 0) 0).toNat)).take (j + 1) ++ onL ((l.set j (lost l[j] (max (ks.headD 0) 0).toNat)).drop (j + 1)) ks.tail := by
  rw [List.drop_eq_getElem_cons hj, List.take_succ_eq_append_getElem (by rw [List.length_set]; exact hj), List.getElem_set_self, List.drop_set_of_lt (by omega), List.take_set_of_le (Nat.le_refl _)]
  conv => lhs; unfold onL
  rw [if_neg h]
  simp
theorem sum_set (l : List F) (j : Nat) (hj : j < l.length) (x : F) : sum (l.set j x) + l[j].l.length = sum l + x.l.length := by
  induction l generalizing j with
  | nil => exact absurd hj (by simp)
  | cons y l ih =>
    cases j with
    | zero => simp [sum]; omega
    | succ j =>
      have := ih j (by simpa using hj)
      simp [sum] at this ⊢
      omega
theorem upd_set {nm : E → List UInt8} (l : List E) (h : Nmd.Up nm l) (j : Nat) (hj : j < l.length) (x : E) (hx : nm x = nm l[j]) : Nmd.upd nm x l = l.set j x := by
  have hp := h.ne
  clear h
  induction l generalizing j with
  | nil => exact absurd hj (by simp)
  | cons y l ih =>
    obtain ⟨h1, h2⟩ := List.pairwise_cons.1 hp
    unfold Nmd.upd
    rw [List.map_cons]
    cases j with
    | zero =>
      have hx : nm x = nm y := hx
      rw [if_pos hx.symm, List.set_cons_zero]
      congr 1
      have : ∀ z ∈ l, (if nm z = nm x then x else z) = z := fun z hz => if_neg fun e => h1 z hz (hx.symm.trans e.symm)
      exact (List.map_congr_left this).trans (List.map_id' l)
    | succ j =>
      have hj' : j < l.length := by simpa using hj
      have hx : nm x = nm l[j] := hx
      have hne : nm y ≠ nm x := by rw [hx]; exact h1 _ (List.getElem_mem hj')
      rw [if_neg hne, List.set_cons_succ]
      congr 1
      exact ih j hj' hx h2
structure OnI (w1 wr : World) (d mp : Nat) (es es' : List E) (ks ks' : List Int) (room ops ak af al : Int) (kv : Value) (j : Nat) : Prop where
  dk : Dk wr d mp es' ⟨room, (sum (es'.map E.f) : Int), ops, false, ak, af, al⟩
  turn : Turn d mp w1 es wr es'
  names : es'.map E.nm = es.map E.nm
  now : (es'.map E.f).take j ++ onL ((es'.map E.f).drop j) ks' = onL (es.map E.f) ks
  safe : ∀ e ∈ es', e.f.safe ≤ e.f.l.length
  small : sum (es'.map E.f) ≤ 4194304
  kr : KR w1 d mp es kv ks'
theorem len_sum {fs : List F} {f : F} (h : f ∈ fs) : f.l.length ≤ sum fs := by
  induction fs with
  | nil => cases h
  | cons y fs ih =>
    unfold sum at ih ⊢
    rw [List.map_cons, List.sum_cons]
    rcases List.mem_cons.1 h with rfl | h
    · omega
    · have := ih h; omega
theorem OnI.keep {w1 wr wr' : World} {d mp : Nat} {es es' : List E} {ks ks' : List Int} {room ops ak af al : Int} {kv : Value} {j : Nat} (h : OnI w1 wr d mp es es' ks ks' room ops ak af al kv j) (hx : Reg.Ext wr wr') (hj : j < es'.length) (hs : es'[j].f.safe = es'[j].f.l.length) :
    OnI w1 wr' d mp es es' ks ks' room ops ak af al kv (j + 1) := by
  refine { h with dk := h.dk.ext hx, turn := h.turn.trans (Turn.ext hx), now := ?_ }
  have hj' : j < (es'.map E.f).length := by rw [List.length_map]; exact hj
  rw [← onL_keep (es'.map E.f) ks' j hj' (by simpa using hs)]
  exact h.now
theorem OnI.lose {w1 wr wr' : World} {d mp : Nat} {es es' : List E} {ks ks' : List Int} {room ops ak af al : Int} {kv kv' : Value} {j m : Nat} {v : Value} (h : OnI w1 wr d mp es es' ks ks' room ops ak af al kv j) (hj : j < es'.length) (hs : es'[j].f.safe ≠ es'[j].f.l.length)
    (hm : m = (max (ks'.headD 0) 0).toNat) (hk : KR w1 d mp es kv' ks'.tail)
    (hD : Dk wr' d mp (Nmd.upd E.nm ⟨⟨es'[j].nm, es'[j].f.l.take (keptN es'[j].f m), keptN es'[j].f m⟩, es'[j].g, v⟩ es') ⟨room, (sum (es'.map E.f) : Int) - (es'[j].f.l.length - keptN es'[j].f m), ops, false, ak, af, al⟩)
    (hT : Turn d mp wr es' wr' (Nmd.upd E.nm ⟨⟨es'[j].nm, es'[j].f.l.take (keptN es'[j].f m), keptN es'[j].f m⟩, es'[j].g, v⟩ es')) :
    ∃ es2, OnI w1 wr' d mp es es2 ks ks'.tail room ops ak af al kv' (j + 1) ∧ es2.length = es'.length := by
  have hj' : j < (es'.map E.f).length := by rw [List.length_map]; exact hj
  have hkl := keptN_le es'[j].f m (h.safe _ (List.getElem_mem hj))
  have hset := upd_set es' h.dk.up j hj ⟨⟨es'[j].nm, es'[j].f.l.take (keptN es'[j].f m), keptN es'[j].f m⟩, es'[j].g, v⟩ rfl
  have hfs : (es'.set j ⟨⟨es'[j].nm, es'[j].f.l.take (keptN es'[j].f m), keptN es'[j].f m⟩, es'[j].g, v⟩).map E.f = (es'.map E.f).set j (lost (es'.map E.f)[j] m) := by
    rw [List.map_set]; simp [lost]
  have hsum := sum_set (es'.map E.f) j hj' (lost (es'.map E.f)[j] m)
  have hlen : (lost (es'.map E.f)[j] m).l.length = keptN es'[j].f m := by
    simp [lost]; omega
  rw [hlen, List.getElem_map] at hsum
  rw [hset] at hD hT
  refine ⟨es'.set j ⟨⟨es'[j].nm, es'[j].f.l.take (keptN es'[j].f m), keptN es'[j].f m⟩, es'[j].g, v⟩, ⟨?_, h.turn.trans hT, ?_, ?_, ?_, ?_, hk⟩, List.length_set⟩
  · rw [hfs]
    rw [List.getElem_map]
    have : (sum (es'.map E.f) : Int) - (es'[j].f.l.length - keptN es'[j].f m) = (sum ((es'.map E.f).set j (lost es'[j].f m)) : Int) := by omega
    rw [← this]
    exact hD
  · rw [← h.names, ← hset, Nmd.upd_names]
  · rw [hfs, hm, ← onL_lose (es'.map E.f) ks' j hj' (by simpa using hs)]
    exact h.now
  · intro e he
    rcases List.mem_or_eq_of_mem_set he with he | rfl
    · exact h.safe e he
    · show keptN es'[j].f m ≤ (es'[j].f.l.take (keptN es'[j].f m)).length
      rw [List.length_take]; omega
  · rw [hfs, List.getElem_map]
    have := h.small
    omega
set_option maxRecDepth 100000 in
set_option maxHeartbeats 1000000 in
theorem on_any (W : World) (d mp : Nat) (es : List E) (s : H) (hD : Dk W d mp es s) (v : Value) (ks : List Int) (hk : KR W d mp es v ks) (hc : es.length ≤ 200) (hsf : ∀ e ∈ es, e.f.safe ≤ e.f.l.length) (hus : s.used = (sum (es.map E.f) : Int)) (hu : s.used ≤ 4194304) (hnm : ∀ e ∈ es, e.nm.length ≤ 80) :
    Calls Try.prog 14 #[.pointer (some ⟨d, 0, none⟩), v] W fun e w' => e = .returned (.tuple #[]) ∧ ∃ es' s', Dk w' d mp es' s' ∧ Turn d mp W es w' es' ∧ pl es' s' = (pl es s).on ks := by
  obtain ⟨c0, c1, c2, c3, c4, c5, c6, c7⟩ := hD.c
  have f4 := hD.blk.frozen 4
  obtain ⟨room, used, ops, off, ak, af, al⟩ := s
  dsimp only at c1 c2 c3 c4 c5 c6 c7 hus hu
  cases off with
  | false =>
    have hp : (pl es ⟨room, used, ops, false, ak, af, al⟩).on ks = pl es ⟨room, used, ops, false, ak, af, al⟩ := rfl
    rw [hp]
    clear hp hk hus
    go_enter Try.func14, Try.ntmps14
    go_wp2
    refine bodyPost_ret (results_none rfl _ _ _) rfl ?_
    exact ⟨rfl, es, _, hD, Turn.refl _ _ _ _, rfl⟩
  | true =>
    have hp : (pl es ⟨room, used, ops, true, ak, af, al⟩).on ks = ⟨onL (es.map E.f) ks, ⟨room, (sum (onL (es.map E.f) ks) : Int), ops, false, ak, af, al⟩⟩ := rfl
    rw [hp]
    clear hp
    have hD1 : Dk (W.setCell ⟨d, 4, none⟩ (.bool false)) d mp es ⟨room, used, ops, false, ak, af, al⟩ := hD.setH 4 _ rfl
    have hT1 : Turn d mp W es (W.setCell ⟨d, 4, none⟩ (.bool false)) es := Turn.of_but (But.set_ d W 4 _)
    have hN := names_any _ d mp es _ hD1 hc
    go_enter Try.func14, Try.ntmps14
    have hke := Lib.hid hk
    have huk := Lib.hid hus
    clear hk hus
    go_wp2_with (go_at_call 20; refine hN.mono ?_; rintro e w1 ⟨nv, rfl, hnr, hx1⟩; have hnk := NR.of hnr; clear hnr; obtain ⟨NA, ncap, rfl, hncap, hncell⟩ := hnk)
    have hT2 : Turn d mp W es w1 es := hT1.trans (Turn.ext hx1)
    have hst : OnI w1 w1 d mp es es ks ks room ops ak af al v 0 := by
      refine ⟨?_, Turn.refl _ _ _ _, rfl, rfl, hsf, ?_, hke.out.turn hT2⟩
      · have h := hD1.ext hx1
        rw [huk.out] at h
        exact h
      · have := huk.out
        omega
    have hno : ∀ rb, W.heap.size ≤ rb → ¬ Own d mp es rb := fun rb hge ho => by
      have := hD.own_lt ho
      omega
    have hlenm : (es.map E.nm).length = es.length := List.length_map _
    have hT2k := Lib.hid hT2
    have hstk := Lib.hid hst
    have hnok := Lib.hid hno
    have hcells := Lib.hid hncell
    have hnmk := Lib.hid hnm
    clear hT2 hst hno hncell hnm hsf hD1 hT1 hN c0 c1 c2 c3 c4 c5 c6 c7 f4 hx1 hD hke huk hu
    go_loopw [1, 5, 6, 7, 23] (fun kv _ _ _ i wr => ∃ (j : Nat) (es' : List E) (ks' : List Int), i = .int .i64 (j : Int) ∧ j ≤ es.length ∧ Hid (es'.length = es.length) ∧ Hid (OnI w1 wr d mp es es' ks ks' room ops ak af al kv j)) (fun _ _ _ _ i _ => es.length - (intOf i).toNat)
    case atStart => exact ⟨0, es, ks, rfl, Nat.zero_le _, Lib.hid rfl, hstk⟩
    case round =>
      obtain ⟨j, es', ks', rfl, hjl, HL, HI⟩ := hrel
      by_cases hjs : j < es.length
      · obtain ⟨rb, rfl, hB, hlt, hcell⟩ := hcells.out j (by rw [hlenm]; exact hjs)
        have hj2 : j < es'.length := by rw [HL.out]; exact hjs
        have hnj : (es.map E.nm)[j]'(by rw [hlenm]; exact hjs) = es'[j].nm := by
          have h := HI.out.names
          have : (es'.map E.nm)[j]'(by rw [List.length_map]; exact hj2) = (es.map E.nm)[j]'(by rw [hlenm]; exact hjs) := by simp only [h]
          rw [← this, List.getElem_map]
        rw [hnj] at hcell
        have hcw := (cell_block (i := j) (HI.out.turn.kept rb hlt (hnok.out rb (by simpa using hB)))).trans hcell
        have hm2 : es'[j] ∈ es' := List.getElem_mem hj2
        have hln : es'[j].nm.length ≤ 80 := by
          rw [← hnj, List.getElem_map]
          exact hnmk.out _ (List.getElem_mem hjs)
        have hge : Nmd.get E.nm es'[j].nm es' = some es'[j] := by
          cases hgt : Nmd.get E.nm es'[j].nm es' with
          | none => exact absurd rfl (Nmd.get_none hgt es'[j] hm2)
          | some y => rw [HI.out.dk.up.same y (Nmd.get_mem hgt).1 es'[j] hm2 (Nmd.get_mem hgt).2]
        have hlk := HI.out.dk.look es'[j].nm (by unfold maxLen; omega)
        rw [hge] at hlk
        have c0 := HI.out.dk.c.1
        have hbk := HI.out.dk.file _ hm2
        have k0 := hbk.cell 0
        have k1 := hbk.cell 1
        dsimp only [List.getElem?_cons_zero, List.getElem?_cons_succ] at k0 k1
        obtain ⟨A, cap, hv, hc1, hc2⟩ := (HI.out.dk.row _ hm2).form3
        rw [hv] at k0
        have hll : es'[j].f.l.length ≤ 4194304 := Nat.le_trans (len_sum (List.mem_map.2 ⟨_, hm2, rfl⟩)) HI.out.small
        have hssf := HI.out.safe _ hm2
        unfold ptrV at hlk
        unfold str at hlk hcw
        clear hbk hv hnj hcell hge
        by_cases hs : es'[j].f.safe = es'[j].f.l.length
        · have q1 : (((es'[j].f.safe : Nat) : Int) == ((es'[j].f.l.length : Nat) : Int)) = true := by rw [hs]; exact beq_self_eq_true _
          have HK : ∀ wr', Reg.Ext wr wr' → Hid (OnI w1 wr' d mp es es' ks ks' room ops ak af al _ (j + 1)) := fun wr' hx => Lib.hid (HI.out.keep hx hj2 hs)
          have HKk := Lib.hid HK
          have hsk := Lib.hid hs
          clear HK hs
          generalize es'[j].f.safe = sf at *
          generalize es'[j].f.l.length = ln at *
          go_wp2_with fail
          go_quiet (fail)
          go_wp2_with fail
          go_roundw
          case rel => exact ⟨j + 1, es', ks', by go_num, by omega, HL, HKk.out _ (Reg.Ext.drewN _ _)⟩
          case measure => simp [intOf]; omega
        · have q1 : (((es'[j].f.safe : Nat) : Int) == ((es'[j].f.l.length : Nat) : Int)) = false := beq_eq_false_iff_ne.2 fun e => hs (by omega)
          have HLs : ∀ (kv' : Value) (m : Nat) (keep : Int), max keep 0 = m → m = (max (ks'.headD 0) 0).toNat → KR w1 d mp es kv' ks'.tail → ∀ wr', Reg.Ext wr wr' →
              Calls Try.prog 44 #[.pointer (some ⟨d, 0, none⟩), .pointer (some ⟨es'[j].g, 0, none⟩), .int .i64 keep] wr' fun e w' => e = .returned (.tuple #[]) ∧ ∃ es2, OnI w1 w' d mp es es2 ks ks'.tail room ops ak af al kv' (j + 1) ∧ es2.length = es'.length := by
            intro kv' m keep h1 h2 h3 wr' hx
            have hsm := HI.out.small
            refine (lose_any wr' d mp es' _ (HI.out.dk.ext hx) es'[j] hm2 m keep h1 hssf ⟨Int.natCast_nonneg _, by dsimp only; omega⟩ hll).mono ?_
            rintro e w' ⟨rfl, v', h4, h5⟩
            exact ⟨rfl, HI.out.lose hj2 hs h2 h3 h4 ((Turn.ext hx).trans h5)⟩
          have HLk := Lib.hid HLs
          obtain ⟨KA, kcap, rfl, hkc1, hkc2, hkcell⟩ := HI.out.kr
          have hskk := Lib.hid hs
          clear HLs hs
          generalize es'[j].f.safe = sf at *
          generalize es'[j].f.l.length = ln at *
          go_wp2_with fail
          go_quiet (fail)
          generalize nq = n1
          cases ks' with
          | nil =>
            have hk0 := Lib.hid HI.out.kr
            go_wp2_with (go_at_call 44; refine (HLk.out _ 0 0 rfl rfl hk0.out _ (Reg.Ext.drewN _ _)).mono ?_; rintro e w2 ⟨rfl, es2, hO2, hl2⟩; have hO2k := Lib.hid hO2; have hl2k := Lib.hid hl2; clear hO2 hl2)
            go_roundw
            case rel => exact ⟨j + 1, es2, [], by go_num, by omega, Lib.hid (hl2k.out.trans HL.out), hO2k⟩
            case measure => simp [intOf]; omega
          | cons x ks2 =>
            obtain ⟨kb, ko, rfl, hkl, hkn, hkx⟩ := hkcell 0 (by rw [List.length_cons]; omega)
            have hkw := (cell_block (i := ko + 0) (HI.out.turn.kept kb hkl hkn)).trans hkx
            rw [Nat.add_zero] at hkw
            have hk0 := Lib.hid HI.out.kr
            have hmx : max x 0 = (((max x 0).toNat : Nat) : Int) := by omega
            have hmk := Lib.hid hmx
            clear hkcell hkx hmx
            by_cases hc1 : kcap = 1
            · have hk2 : ks2 = [] := by
                rw [List.length_cons] at hkc1
                exact List.eq_nil_of_length_eq_zero (by omega)
              subst hk2 hc1
              have hkr : Hid (KR w1 d mp es (.slice (some ⟨kb, ko, none⟩) 0 0) []) := KR.last _
              have HH := Lib.hid (HLk.out (.slice (some ⟨kb, ko, none⟩) 0 0) (max x 0).toNat x hmk.out rfl hkr.out)
              go_wp2_with fail
              go_quiet (fail)
              go_wp2_with (go_at_call 44; refine (HH.out _ (Reg.Ext.drewN wr _)).mono ?_; rintro e w2 ⟨rfl, es2, hO2, hl2⟩; have hO2k := Lib.hid hO2; have hl2k := Lib.hid hl2; clear hO2 hl2)
              go_roundw
              case rel => exact ⟨j + 1, es2, [], by go_num, by omega, Lib.hid (hl2k.out.trans HL.out), hO2k⟩
              case measure => simp [intOf]; omega
            · have hkr := Lib.hid (hk0.out.next hc1)
              have HH := Lib.hid (HLk.out _ (max x 0).toNat x hmk.out rfl hkr.out)
              go_wp2_with fail
              go_quiet (fail)
              go_wp2_with (go_at_call 44; refine (HH.out _ (Reg.Ext.drewN wr _)).mono ?_; rintro e w2 ⟨rfl, es2, hO2, hl2⟩; have hO2k := Lib.hid hO2; have hl2k := Lib.hid hl2; clear hO2 hl2)
              go_roundw
              case rel => exact ⟨j + 1, es2, ks2, by go_num, by omega, Lib.hid (hl2k.out.trans HL.out), hO2k⟩
              case measure => simp [intOf]; omega
      · have hje : j = es.length := by omega
        subst hje
        go_wp2_with fail
        go_end0
        have HO := HI.out
        have hnow := HO.now
        have hl2 : (es'.map E.f).length = es.length := by rw [List.length_map]; exact HL.out
        rw [List.take_of_length_le (by omega), List.drop_of_length_le (by omega)] at hnow
        have hfs : es'.map E.f = onL (es.map E.f) ks := by
          rw [← hnow]
          unfold onL
          simp
        refine ⟨rfl, es', _, HO.dk, hT2k.out.trans HO.turn, ?_⟩
        unfold pl
        rw [← hfs]
end Plk
end Go.Proofs.Ytbiikihapfpkfaa

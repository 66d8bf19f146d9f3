/- The log over a disk whose power goes: plainly. -/
import Derived.Test.YtafeealbdpmdkaaDoorDyX
set_option linter.unusedSimpArgs false
set_option linter.unusedVariables false
set_option linter.unusedSectionVars false
namespace Go.Proofs.YtafeealbdpmdkaaDoor
open Go Go.RowKit
namespace Plk
open Slp (S good frame body frames allP Row RdS Fit sameL)
theorem onk_ops (fs : List F) (s : H) (ks : List Int) : (P.on ⟨fs, { s with off := true, ak := 0, af := 0, al := 0 }⟩ ks).h.ops = s.ops := by
  unfold P.on
  rw [if_pos rfl]
theorem add_free {s : H} (h : Free s) {R u : Int} (hR : s.room = R) (hu : s.used = u) (l : List UInt8) (k : Nat) {x : S} {y : Y} (hy : y.sick = false) (hg : good x = true) (hr : ((frame (body x)).length : Int) ≤ R - u) :
    addP ⟨d1 l k, s⟩ y x = (0, ⟨d1 (l ++ frame (body x)) k, s.tick.more (frame (body x)).length⟩, ⟨y.n + 1, y.sure, y.size + ((frame (body x)).length : Int), false⟩) := by
  unfold addP
  rw [if_neg (by rw [hy]; decide), if_neg (by rw [hg]; decide), append_d1 h l _ k (by omega), if_neg (fun h => h rfl)]
/-- what stands: the log has ws, so many of them are safe -/
structure Kept (s : H) (ws : List S) (sure o : Nat) : Prop where
  fit : Fit ws
  le : sure ≤ ws.length
  room : s.room = 1048576
  used : s.used = ((frames ws).length : Int)
  ops : s.ops ≤ (o : Int)
def kp (ws : List S) (sure : Nat) (s : H) : P := ⟨d1 (frames ws) (frames (ws.take sure)).length, s⟩
def ky (ws : List S) (sure : Nat) (b : Bool) : Y := ⟨(ws.length : Int), (sure : Int), ((frames ws).length : Int), b⟩
theorem fit_snoc {ws : List S} {x : S} (h : Fit ws) (hx : x.dig.length = 32) (hg : good x = true) : Fit (ws ++ [x]) := fun y hy => by
  rcases List.mem_append.1 hy with hy | hy
  · exact h y hy
  · rw [List.mem_singleton.1 hy]; exact ⟨hx, hg⟩
theorem fit_small {ws : List S} (h : Fit ws) : (frames ws).length ≤ 1030 * ws.length := frames_le ws (fun x hx => (h x hx).1) (fit_good h)
theorem kept_add {s : H} {ws : List S} {sure o j : Nat} (h : Kept s ws sure o) (ha : Armed s j) (hw : ws.length ≤ 100) {x : S} (hx : x.dig.length = 32) (hg : good x = true) :
    (∃ s', addP (kp ws sure s) (ky ws sure false) x = (12, kp ws sure s', ky ws sure true) ∧ Kept s' ws sure (o + 1)) ∨
    (∃ s' j', addP (kp ws sure s) (ky ws sure false) x = (0, kp (ws ++ [x]) sure s', ky (ws ++ [x]) sure false) ∧ Kept s' (ws ++ [x]) sure (o + 1) ∧ Armed s' j') := by
  obtain ⟨h1, h2, h3, h4, h5⟩ := h
  rcases ha.cases with hb | ⟨i, hf, ha'⟩
  · exact .inl ⟨s.dead, hb.add _ rfl hg, h1, h2, h3, h4, by show s.ops + 1 ≤ _; omega⟩
  · have hs := fit_small h1
    have hb := (body_size hx hg).1
    have e := add_free hf h3 h4 (frames ws) (frames (ws.take sure)).length (x := x) (y := ky ws sure false) rfl hg (by omega)
    refine .inr ⟨s.tick.more (frame (body x)).length, i, ?_, ⟨fit_snoc h1 hx hg, by rw [List.length_append]; omega, h3, ?_, by show s.ops + 1 ≤ _; omega⟩, ha'.more _⟩
    · refine e.trans ?_
      unfold kp ky
      rw [Slp.frames_snoc, List.take_append_of_le_length h2, List.length_append, List.length_append, List.length_singleton, Int.natCast_add, Int.natCast_add]
      rfl
    · show s.used + _ = _
      rw [Slp.frames_snoc, List.length_append, h4]
      omega
theorem kept_bad {s : H} {ws : List S} {sure o : Nat} {x : S} (hg : good x = false) : addP (kp ws sure s) (ky ws sure false) x = (1, kp ws sure s, ky ws sure false) := add_bad rfl hg
theorem kept_sync {s : H} {ws : List S} {sure o j : Nat} (h : Kept s ws sure o) (ha : Armed s j) :
    (∃ s', syncP (kp ws sure s) (ky ws sure false) = (12, kp ws sure s', ky ws sure true) ∧ Kept s' ws sure (o + 1)) ∨
    (∃ s' j', syncP (kp ws sure s) (ky ws sure false) = (0, kp ws ws.length s', ky ws ws.length false) ∧ Kept s' ws ws.length (o + 1) ∧ Armed s' j') := by
  obtain ⟨h1, h2, h3, h4, h5⟩ := h
  by_cases hs : sure = ws.length
  · subst hs
    refine .inr ⟨s, j, ?_, ⟨h1, h2, h3, h4, by omega⟩, ha⟩
    unfold syncP ky
    rw [if_neg (show ¬ (false = true) from Bool.false_ne_true), if_pos rfl]
  · have hn : (ky ws sure false).sure ≠ (ky ws sure false).n := by show (sure : Int) ≠ (ws.length : Int); omega
    rcases ha.cases with hb | ⟨i, hf, ha'⟩
    · exact .inl ⟨s.dead, hb.lsync _ rfl hn, h1, h2, h3, h4, by show s.ops + 1 ≤ _; omega⟩
    · refine .inr ⟨s.tick, i, ?_, ⟨h1, Nat.le_refl _, h3, h4, by show s.ops + 1 ≤ _; omega⟩, ha'⟩
      unfold syncP
      rw [if_neg (show ¬ (ky ws sure false).sick = true from Bool.false_ne_true), if_neg hn]
      unfold kp
      rw [sync_d1 hf, if_neg (fun h => h rfl), List.take_length]
      rfl
/-- the slips that are whole within the first bytes -/
theorem cut_at (ws : List S) (m : Nat) : ∃ i, i ≤ ws.length ∧ (frames (ws.take i)).length ≤ m ∧ (i < ws.length → m < (frames (ws.take (i + 1))).length) := by
  induction ws generalizing m with
  | nil => exact ⟨0, Nat.le_refl _, Nat.zero_le _, fun h => absurd h (Nat.lt_irrefl _)⟩
  | cons x ws ih =>
    by_cases h : (frame (body x)).length ≤ m
    · obtain ⟨i, h1, h2, h3⟩ := ih (m - (frame (body x)).length)
      refine ⟨i + 1, by simpa using h1, ?_, fun hi => ?_⟩
      · rw [List.take_succ_cons, Slp.frames_cons, List.length_append]; omega
      · have := h3 (by simpa using hi)
        rw [List.take_succ_cons, Slp.frames_cons, List.length_append]; omega
    · refine ⟨0, Nat.zero_le _, Nat.zero_le _, fun _ => ?_⟩
      rw [List.take_succ_cons, Slp.frames_cons, List.length_append]; omega
theorem frames_take_le (ws : List S) {i j : Nat} (h : i ≤ j) : (frames (ws.take i)).length ≤ (frames (ws.take j)).length := by
  have e : ws.take j = ws.take i ++ (ws.take j).drop i := by
    conv => lhs; rw [← List.take_append_drop i (ws.take j), List.take_take, Nat.min_eq_left h]
  rw [e, Slp.frames_append, List.length_append]
  omega
/-- behind the power: the log is opened again -/
theorem kept_on {s : H} {ws : List S} {sure o : Nat} (h : Kept s ws sure o) (hw : ws.length ≤ 100) (keep : Int) :
    ∃ (l : List UInt8) (zs : List S) (b : Bool) (s' : H) (u : Int), P.load (P.on ⟨(kp ws sure s).fs, { s with off := true, ak := 0, af := 0, al := 0 }⟩ [keep]) = (l, 0, ⟨d1 l l.length, s'⟩) ∧ sure ≤ zs.length ∧ zs.length ≤ ws.length ∧ ws.take zs.length = zs ∧ (allP l).1 = zs ∧ opened l = ky zs zs.length b ∧ Calm s' 1048576 u ((o : Int) + 2) ∧ l.length ≤ 103000 ∧ u = (l.length : Int) ∧ (b = false → l = frames zs) := by
  obtain ⟨h1, h2, h3, h4, h5⟩ := h
  have hs := fit_small h1
  have hle : (frames (ws.take sure)).length ≤ (frames ws).length := by
    have := frames_take_le ws (i := sure) (j := ws.length) h2
    rwa [List.take_length] at this
  obtain ⟨m, m1, m2, m3, -⟩ := on_d1 (frames ws) (frames (ws.take sure)).length s hle [keep]
  have hl : ((frames ws).take m).length = m := by rw [List.length_take]; omega
  obtain ⟨i, i1, i2, i3⟩ := cut_at ws m
  have hi : sure ≤ i := by
    rcases Nat.lt_or_ge i sure with hlt | hge
    · have a := i3 (by omega)
      have b := frames_take_le ws (i := i + 1) (j := sure) hlt
      omega
    · exact hge
  have ha := Slp.allP_cut ws h1 m i m2 i1 i2 i3
  obtain ⟨s', E, c⟩ := load1 (calm_on h3 h5 (m : Int)) ((frames ws).take m) m
  have hz : (ws.take i).length = i := by rw [List.length_take, Nat.min_eq_left i1]
  refine ⟨(frames ws).take m, ws.take i, decide (((frames (ws.take i)).length : Int) < ((m : Nat) : Int)), s', (m : Int), ?_, by omega, by omega, by rw [hz], by rw [ha], ?_, c, by omega, by rw [hl], fun hb => ?_⟩
  · show P.load (P.on ⟨d1 (frames ws) (frames (ws.take sure)).length, _⟩ [keep]) = _
    rw [m3]
    exact E
  · unfold opened ky
    rw [ha, hl]
  · have := of_decide_eq_false hb
    have e : frames ws = frames (ws.take i) ++ frames (ws.drop i) := by rw [← Slp.frames_append, List.take_append_drop]
    rw [e, List.take_append_of_le_length (by omega), List.take_of_length_le (by omega)]
end Plk
end Go.Proofs.YtafeealbdpmdkaaDoor

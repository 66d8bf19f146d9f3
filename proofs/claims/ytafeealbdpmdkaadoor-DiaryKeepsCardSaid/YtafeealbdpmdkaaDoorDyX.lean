/- What the laws over a log share: the adding of old slips. -/
import Derived.Test.YtafeealbdpmdkaaDoorDyW
import Derived.Test.YtafeealbdpmdkaaDoorDyG
import Derived.Test.YtafeealbdpmdkaaDoorDyR
set_option linter.unusedSimpArgs false
set_option linter.unusedVariables false
set_option linter.unusedSectionVars false
namespace Go.Proofs.YtafeealbdpmdkaaDoor
open Go Go.RowKit
namespace Plk
open Slp (S good frame body frames allP Row RdS Fit sameL)
theorem kr_of {W w : World} {d mp : Nat} {es : List E} {q : Option Addr} {cap : Nat} {ks : List Int} (hx : Reg.Ext W w) (ho : ∀ i, Own d mp es i → W.heap.size ≤ i) (h1 : ks.length ≤ cap) (h2 : cap ≤ maxLen) (h3 : Rd W q (ks.map (Value.int .i64))) : KR w d mp es (.slice q ks.length cap) ks := by
  refine ⟨q, cap, rfl, h1, h2, fun j hj => ?_⟩
  obtain ⟨ad, e, hlt, hc⟩ := h3 j (by rw [List.length_map]; exact hj)
  obtain ⟨ad0, e0, _, hc0⟩ := h3 0 (by rw [List.length_map]; omega)
  have e1 : ad0 = ad := by rw [e] at e0; injection e0 with e0; exact e0.symm
  subst e1
  have hs : ad0.spot = none := by
    have hc0 : W.cell? ad0 = some _ := hc0
    unfold World.cell? at hc0
    cases hs : ad0.spot with
    | none => rfl
    | some q => rw [hs] at hc0; simp at hc0; split at hc0 <;> cases hc0
  obtain ⟨kb, ko, sp⟩ := ad0
  dsimp only at hs
  subst hs
  have hcw := hx.at_ hc
  rw [add_plain, List.getElem_map] at hcw
  exact ⟨kb, ko, e, Nat.lt_of_lt_of_le hlt hx.size, fun o => by have := ho kb o; dsimp only at hlt; omega, hcw⟩
theorem slice_of {p : Option Addr} {n c : Nat} {xs : List S} {w : World} (h : RdS (.slice p n c) xs w) : n = xs.length := by
  obtain ⟨_, p', c', e, _, _⟩ := h
  injection e
/-- the adding of the old slips: relation of the loop -/
structure Adding (W wr : World) (d mp g B : Nat) (v : Value) (xs : List S) (k : Nat) (es : List E) (s : H) : Prop where
  lw : Lw W wr d mp es ⟨d1 (frames (okS (xs.take k))) 0, s⟩ g ⟨((okS (xs.take k)).length : Int), 0, ((frames (okS (xs.take k))).length : Int), false⟩
  calm : Calm s 1048576 ((frames (okS (xs.take k))).length : Int) (3 + (k : Int))
  held : Held wr d mp es g B v (okS (xs.take k))
def RelA (W : World) (d mp g B : Nat) (xs : List S) (v i : Value) (wr : World) : Prop := ∃ (k : Nat) (es : List E) (s : H), k ≤ xs.length ∧ i = .int .i64 (k : Int) ∧ Hid (Adding W wr d mp g B v xs k es s) ∧ Hid (B ≤ wr.heap.size)
theorem fine_of (n m : Nat) (h1 : n ≤ 100000) (h2 : m ≤ 10000000) (u : Int) (b : Bool) : Y.Fine ⟨(n : Int), u, (m : Int), b⟩ := ⟨by dsimp only; unfold big; omega, by dsimp only; unfold big; omega⟩
theorem Adding.small {W wr : World} {d mp g B : Nat} {v : Value} {xs : List S} {k : Nat} {es : List E} {s : H} (h : Adding W wr d mp g B v xs k es s) (hd : ∀ x ∈ xs, x.dig.length = 32) : (frames (okS (xs.take k))).length ≤ 1030 * k := by
  have h1 := frames_le (okS (xs.take k)) (fun x hx => (okS_fit hd k x hx).1) (fit_good (okS_fit hd k))
  have h2 := okS_len xs k
  have : 1030 * (okS (xs.take k)).length ≤ 1030 * k := Nat.mul_le_mul_left _ h2
  omega
section
variable {W wr : World} {d mp g B : Nat} {v : Value} {xs : List S} {k : Nat} {es : List E} {s : H} (h : Adding W wr d mp g B v xs k es s) (hd : ∀ x ∈ xs, x.dig.length = 32) (hk : k < xs.length) (h20 : xs.length ≤ 20) (hT : Crc.Tab W)
include h hd h20 hT
theorem Adding.good_ (hg : good xs[k] = true) : ∃ q s', Calls Tryd.prog 11 #[.pointer (some ⟨g, 0, none⟩), .agg xs[k].cells.toArray] wr (ResW W d mp g wr es (.int .i64 0) q ⟨((okS (xs.take (k + 1))).length : Int), 0, ((frames (okS (xs.take (k + 1)))).length : Int), false⟩) ∧
    q = ⟨d1 (frames (okS (xs.take (k + 1)))) 0, s'⟩ ∧ Calm s' 1048576 ((frames (okS (xs.take (k + 1)))).length : Int) (3 + ((k + 1 : Nat) : Int)) := by
  have hl := h.small hd
  have ho := okS_len xs k
  have hx := hd xs[k] (List.getElem_mem hk)
  have hb := (body_size hx hg).1
  obtain ⟨s', E, c⟩ := add1 h.calm (frames (okS (xs.take k))) 0 (x := xs[k]) (y := ⟨((okS (xs.take k)).length : Int), 0, ((frames (okS (xs.take k))).length : Int), false⟩) rfl hg (by omega)
  have hops := h.calm.ops
  have hc := h.lw.add (fine_of _ _ (by omega) (by omega) _ _) (by show s.ops < big; unfold big; omega) xs[k] hx hT E
  refine ⟨_, s', ?_, rfl, ?_⟩
  · rw [okS_good hk hg, Slp.frames_snoc, List.length_append, List.length_append, List.length_singleton]
    rw [Int.natCast_add, Int.natCast_add]
    exact hc
  · rw [okS_good hk hg, Slp.frames_snoc, List.length_append]
    exact c.le (by omega) (by omega)
theorem Adding.bad_ (hg : good xs[k] = false) : Calls Tryd.prog 11 #[.pointer (some ⟨g, 0, none⟩), .agg xs[k].cells.toArray] wr (ResW W d mp g wr es (.int .i64 1) ⟨d1 (frames (okS (xs.take (k + 1)))) 0, s⟩ ⟨((okS (xs.take (k + 1))).length : Int), 0, ((frames (okS (xs.take (k + 1)))).length : Int), false⟩) := by
  have hl := h.small hd
  have ho := okS_len xs k
  have hx := hd xs[k] (List.getElem_mem hk)
  have hops := h.calm.ops
  rw [okS_bad hk hg]
  exact h.lw.add (fine_of _ _ (by omega) (by omega) _ _) (by show s.ops < big; unfold big; omega) xs[k] hx hT (add_bad rfl hg)
end
theorem Adding.sync_ {W wr : World} {d mp g B : Nat} {v : Value} {xs : List S} {es : List E} {s : H} (h : Adding W wr d mp g B v xs xs.length es s) (h20 : xs.length ≤ 20) :
    ∃ q s', Calls Tryd.prog 12 #[.pointer (some ⟨g, 0, none⟩)] wr (ResW W d mp g wr es (.int .i64 0) q ⟨((okS xs).length : Int), ((okS xs).length : Int), ((frames (okS xs)).length : Int), false⟩) ∧
      q = ⟨d1 (frames (okS xs)) (frames (okS xs)).length, s'⟩ ∧ Calm s' 1048576 ((frames (okS xs)).length : Int) 24 := by
  obtain ⟨h1, h2, -⟩ := h
  rw [List.take_length] at h1 h2
  obtain ⟨s', k', E, c, e1, e2⟩ := syn1 h2 (frames (okS xs)) 0 (y := ⟨((okS xs).length : Int), 0, ((frames (okS xs)).length : Int), false⟩) rfl
  have hk : k' = (frames (okS xs)).length := by
    by_cases h0 : (okS xs).length = 0
    · rw [e2 (by show (0 : Int) = ((okS xs).length : Int); omega), List.length_eq_zero_iff.1 h0]
      rfl
    · exact e1 (by show (0 : Int) ≠ ((okS xs).length : Int); omega)
  subst hk
  refine ⟨_, s', h1.sync (by have := h2.ops; show s.ops < big; unfold big; omega) E, rfl, c.le rfl (by omega)⟩
theorem great_len {x : S} {xs : List S} {s : ByteArray} (h : greatA x xs s = false) : xs.length ≤ 20 := by
  unfold greatA at h
  rw [Bool.or_eq_false_iff] at h
  have := of_decide_eq_false h.1
  omega
theorem on_keep_ops (fs : List F) (s : H) (ks : List Int) : (P.on ⟨fs, { s with off := true, ak := 0, af := 0, al := 0 }⟩ ks).h.ops = s.ops := by
  unfold P.on
  rw [if_pos rfl]
/-- behind the power: the log is opened again -/
theorem again_old {W w : World} {d mp : Nat} {es : List E} {g : Nat} {y : Y} {l : List UInt8} {fs : List F} {s : H} {o : Int} {xs : List S} (ks : List Int) (ho : Old l fs) (hR : s.room = 1048576) (hop : s.ops ≤ o) (hob : o ≤ 1000)
    (hf : Fit xs) (hl : l = frames xs) (hs : xs.length ≤ 100) (hT : Crc.Tab W)
    (h : Lw W w d mp es (P.on ⟨fs, { s with off := true, ak := 0, af := 0, al := 0 }⟩ ks) g y) :
    Calls Tryd.prog 8 #[.pointer (some ⟨d, 0, none⟩)] w fun e w' => ∃ es' g' pp c q,
      e = .returned (.tuple #[.pointer (some ⟨g', 0, none⟩), .slice pp xs.length c, .int .i64 0]) ∧ Lw W w' d mp es' q g y ∧ Lw W w' d mp es' q g' ⟨(xs.length : Int), (xs.length : Int), ((frames xs).length : Int), false⟩ ∧ q.lenN = -1 ∧ RdS (.slice pp xs.length c) xs w' ∧ TurnG d mp g w es w' es' := by
  subst hl
  obtain ⟨s', u, E, c⟩ := old_load ho hR hop ks
  have hx := frames_le xs (fun x hx => (hf x hx).1) (fit_good hf)
  have hops := (on_keep_ops fs s ks)
  refine (h.again (by rw [hops]; unfold big; omega) E (by omega) hT (by rw [Slp.allP_whole xs hf]) (opened_whole hf)).mono ?_
  rintro e w' ⟨es', g', pp, c, rfl, k1, k2, h1, h2, h3⟩
  exact ⟨es', g', pp, c, _, rfl, k1, k2, rfl, h1.rd, .of h3⟩
end Plk
end Go.Proofs.YtafeealbdpmdkaaDoor

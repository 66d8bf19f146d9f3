/- A disk with its blocks in sight; On; an act. -/
import Derived.Test.YtbiikihapfpkfaaPlkA
set_option linter.unusedSimpArgs false
set_option linter.unusedVariables false
set_option linter.unusedSectionVars false
namespace Go.Proofs.Ytbiikihapfpkfaa
section
open Go Go.RowKit
namespace Plk
theorem Hold.onV {W0 w : World} {d : Nat} {p : P} (h : Hold W0 w d p) (v : Value) (ks : List Int) (hk : ∀ mp es, (∀ i, Own d mp es i → W0.heap.size ≤ i) → KR w d mp es v ks) : Calls Try.prog 14 #[.pointer (some ⟨d, 0, none⟩), v] w fun e w' => e = .returned (.tuple #[]) ∧ Hold W0 w' d (p.on ks) := by
  obtain ⟨hx, hg, mp, es, hD, hfs, ho⟩ := h
  obtain ⟨fs, s⟩ := p
  dsimp only at hD hfs
  subst hfs
  have hr := good_room hg
  dsimp only at hr
  refine (on_any _ d mp es s hD v ks (hk mp es ho) (by have := hg.cnt; simpa using this) (fun e he => hg.safe e.f (List.mem_map.2 ⟨e, he, rfl⟩)) hg.used (by omega) (fun e he => ?_)).mono ?_
  · have := hg.names e.f (List.mem_map.2 ⟨e, he, rfl⟩)
    unfold isName at this
    simp at this
    exact this.2
  · rintro e w' ⟨rfl, es', s', h2, h3, h4⟩
    exact ⟨rfl, Hold.step hx ho h2 h3 h4 (hg.on ks)⟩
theorem Hold.on0 {W0 w : World} {d : Nat} {p : P} (h : Hold W0 w d p) : Calls Try.prog 14 #[.pointer (some ⟨d, 0, none⟩), .slice none 0 0] w fun e w' => e = .returned (.tuple #[]) ∧ Hold W0 w' d (p.on []) :=
  h.onV _ [] fun mp es _ => KR.last none
theorem Hold.onK {W0 w : World} {d : Nat} {p : P} (h : Hold W0 w d p) (a : A) (hk : a.keeps W0) : Calls Try.prog 14 #[.pointer (some ⟨d, 0, none⟩), .slice a.ka a.ks.length a.kc] w fun e w' => e = .returned (.tuple #[]) ∧ Hold W0 w' d (p.on a.ks) := by
  refine h.onV _ a.ks fun mp es ho => ⟨a.ka, a.kc, rfl, hk.2.1, hk.2.2, fun j hj => ?_⟩
  obtain ⟨ad, e, hlt, hc⟩ := hk.1 j (by rw [List.length_map]; exact hj)
  obtain ⟨ad0, e0, _, hc0⟩ := hk.1 0 (by rw [List.length_map]; omega)
  have e1 : ad0 = ad := by rw [e] at e0; injection e0 with e0; exact e0.symm
  subst e1
  have hs : ad0.spot = none := by
    have hc0 : W0.cell? ad0 = some _ := hc0
    unfold World.cell? at hc0
    cases hs : ad0.spot with
    | none => rfl
    | some q => rw [hs] at hc0; simp at hc0; split at hc0 <;> cases hc0
  obtain ⟨kb, ko, sp⟩ := ad0
  dsimp only at hs
  subst hs
  have hcw := h.ext.at_ hc
  rw [add_plain, List.getElem_map] at hcw
  exact ⟨kb, ko, e, Nat.lt_of_lt_of_le hlt h.ext.size, fun o => by have := ho kb o; dsimp only at hlt; omega, hcw⟩
end Plk
end
section
open Go Go.RowKit
namespace Plk
structure Dg (w : World) (d mp : Nat) (es : List E) (p : P) : Prop where
  dk : Dk w d mp es p.h
  fs : es.map E.f = p.fs
  good : Good p
def ResG (d mp : Nat) (W : World) (es : List E) (v : Value) (p' : P) (e : Ending) (w' : World) : Prop := e = .returned v ∧ ∃ es', Dg w' d mp es' p' ∧ Turn d mp W es w' es'
/-- a block that the disk doesn't own -/
def Out (w : World) (d mp : Nat) (es : List E) (g : Nat) : Prop := g < w.heap.size ∧ ¬ Own d mp es g
theorem Turn.out {d mp : Nat} {w w' : World} {es es' : List E} (h : Turn d mp w es w' es') {g : Nat} (ho : Out w d mp es g) : Out w' d mp es' g ∧ w'.heap[g]? = w.heap[g]? := by
  refine ⟨⟨Nat.lt_of_lt_of_le ho.1 h.size, fun o => ?_⟩, h.kept g ho.1 ho.2⟩
  rcases h.own g o with h1 | h1
  · exact ho.2 h1
  · have := ho.1; omega
theorem Turn.blk {d mp : Nat} {w w' : World} {es es' : List E} (h : Turn d mp w es w' es') {g : Nat} {t : TypeId} {cs : List Value} (ho : Out w d mp es g) (hb : Blk w g t cs) : Blk w' g t cs := (h.out ho).2.trans hb
theorem Dg.ext {w w' : World} {d mp : Nat} {es : List E} {p : P} (h : Dg w d mp es p) (hx : Reg.Ext w w') : Dg w' d mp es p := ⟨h.dk.ext hx, h.fs, h.good⟩
theorem Out.ext {w w' : World} {d mp : Nat} {es : List E} {g : Nat} (h : Out w d mp es g) (hx : Reg.Ext w w') : Out w' d mp es g := ⟨Nat.lt_of_lt_of_le h.1 hx.size, h.2⟩
theorem Dg.fresh {w w' : World} {d mp : Nat} {es : List E} {p : P} (h : Dg w d mp es p) {g : Nat} (h1 : w.heap.size ≤ g) (h2 : g < w'.heap.size) : Out w' d mp es g := ⟨h2, fun o => by have := h.dk.own_lt o; omega⟩
/-- all that was there ahead of the disk is as it was -/
theorem Turn.base {W0 w w' : World} {d mp : Nat} {es es' : List E} (h : Turn d mp w es w' es') (hx : Reg.Ext W0 w) (ho : ∀ i, Own d mp es i → W0.heap.size ≤ i) : Reg.Ext W0 w' ∧ ∀ i, Own d mp es' i → W0.heap.size ≤ i := by
  refine ⟨⟨h.os.trans hx.os, h.tape.trans hx.tape, h.output.trans hx.output, Nat.le_trans hx.size h.size, fun i hi => ?_⟩, fun i hi => ?_⟩
  · refine (h.kept i (Nat.lt_of_lt_of_le hi hx.size) fun o => ?_).trans (hx.block i hi)
    have := ho i o
    omega
  · rcases h.own i hi with h1 | h1
    · exact ho i h1
    · exact Nat.le_trans hx.size h1
theorem Dg.new (room : Int) (W : World) : Calls Try.prog 8 #[.int .i64 room] W fun e w' => ∃ d mp, e = .returned (.pointer (some ⟨d, 0, none⟩)) ∧ Dg w' d mp [] (new room) ∧ Reg.Ext W w' ∧ ∀ i, Own d mp [] i → W.heap.size ≤ i := by
  refine (new_any room W).mono ?_
  rintro e w' ⟨d, mp, rfl, hD, h1, h2, hx⟩
  refine ⟨d, mp, rfl, ⟨hD, rfl, good_new room⟩, hx, fun i hi => ?_⟩
  rcases hi with rfl | rfl | ⟨e, he, _⟩
  · exact h1
  · exact h2
  · cases he
section
variable {w : World} {d mp : Nat} {es : List E} {p : P} (h : Dg w d mp es p)
include h
theorem Dg.cnt : es.length ≤ 200 := by
  have := h.good.cnt
  rw [← h.fs, List.length_map] at this
  exact this
theorem Dg.create (n : List UInt8) (h1 : p.h.ops < big) : Calls Try.prog 9 #[.pointer (some ⟨d, 0, none⟩), str n] w (ResG d mp w es (.int .i64 (p.create n).1) (p.create n).2) := by
  have hcn := h.cnt
  obtain ⟨hD, hfs, hg⟩ := h
  obtain ⟨fs, s⟩ := p
  dsimp only at hD hfs
  subst hfs
  refine (create_any w d mp es s hD n hg.ops h1 hcn).mono ?_
  rintro e w' ⟨es', s', rfl, h2, h3, h4⟩
  exact ⟨rfl, es', ⟨by rw [show (P.create ⟨es.map E.f, s⟩ n).2 = pl es' s' from h4.symm]; exact h2, by rw [show (P.create ⟨es.map E.f, s⟩ n).2 = pl es' s' from h4.symm]; rfl, hg.create n⟩, h3⟩
theorem resG {v : Int} {r : Int × P} {W w' : World} {e : Ending} {es1 es' : List E} {s' : H} (hv : e = .returned (.int .i64 r.1)) (h2 : Dk w' d mp es' s') (h3 : Turn d mp W es1 w' es') (h4 : pl es' s' = r.2) (hg : Good r.2) : ResG d mp W es1 (.int .i64 r.1) r.2 e w' :=
  ⟨hv, es', ⟨by rw [← h4]; exact h2, by rw [← h4]; rfl, hg⟩, h3⟩
end
section
variable {w : World} {d mp : Nat} {es : List E} {p : P} (h : Dg w d mp es p)
include h
theorem Dg.append (n t : List UInt8) (h1 : p.h.ops < big) (ht : t.length ≤ 4294967296) : Calls Try.prog 11 #[.pointer (some ⟨d, 0, none⟩), str n, str t] w (ResG d mp w es (.int .i64 (p.append n t).1) (p.append n t).2) := by
  obtain ⟨hD, hfs, hg⟩ := h
  obtain ⟨fs, s⟩ := p
  dsimp only at hD hfs
  subst hfs
  refine (append_any w d mp es s hD n t hg.ops h1 (good_room hg) (good_len hg) ht).mono ?_
  rintro e w' ⟨es', s', rfl, h2, h3, h4⟩
  exact ⟨rfl, es', ⟨by rw [show (P.append ⟨es.map E.f, s⟩ n t).2 = pl es' s' from h4.symm]; exact h2, by rw [show (P.append ⟨es.map E.f, s⟩ n t).2 = pl es' s' from h4.symm]; rfl, hg.append n t⟩, h3⟩
theorem Dg.sync (n : List UInt8) (h1 : p.h.ops < big) : Calls Try.prog 12 #[.pointer (some ⟨d, 0, none⟩), str n] w (ResG d mp w es (.int .i64 (p.sync n).1) (p.sync n).2) := by
  obtain ⟨hD, hfs, hg⟩ := h
  obtain ⟨fs, s⟩ := p
  dsimp only at hD hfs
  subst hfs
  refine (sync_any w d mp es s hD n hg.ops h1).mono ?_
  rintro e w' ⟨es', s', rfl, h2, h3, h4⟩
  exact ⟨rfl, es', ⟨by rw [show (P.sync ⟨es.map E.f, s⟩ n).2 = pl es' s' from h4.symm]; exact h2, by rw [show (P.sync ⟨es.map E.f, s⟩ n).2 = pl es' s' from h4.symm]; rfl, hg.sync n⟩, h3⟩
theorem Dg.delete (n : List UInt8) (h1 : p.h.ops < big) : Calls Try.prog 34 #[.pointer (some ⟨d, 0, none⟩), str n] w (ResG d mp w es (.int .i64 (p.delete n).1) (p.delete n).2) := by
  obtain ⟨hD, hfs, hg⟩ := h
  obtain ⟨fs, s⟩ := p
  dsimp only at hD hfs
  subst hfs
  refine (delete_any w d mp es s hD n hg.ops h1 (by have := good_room hg; dsimp only at this; omega) (good_len hg)).mono ?_
  rintro e w' ⟨es', s', rfl, h2, h3, h4⟩
  exact ⟨rfl, es', ⟨by rw [show (P.delete ⟨es.map E.f, s⟩ n).2 = pl es' s' from h4.symm]; exact h2, by rw [show (P.delete ⟨es.map E.f, s⟩ n).2 = pl es' s' from h4.symm]; rfl, hg.delete n⟩, h3⟩
theorem Dg.rename (n t : List UInt8) (h1 : p.h.ops < big) : Calls Try.prog 32 #[.pointer (some ⟨d, 0, none⟩), str n, str t] w (ResG d mp w es (.int .i64 (p.rename n t).1) (p.rename n t).2) := by
  have hcn := h.cnt
  obtain ⟨hD, hfs, hg⟩ := h
  obtain ⟨fs, s⟩ := p
  dsimp only at hD hfs
  subst hfs
  refine (rename_any w d mp es s hD n t hg.ops h1 hcn (by have := good_room hg; dsimp only at this; omega) (good_len hg)).mono ?_
  rintro e w' ⟨es', s', rfl, h2, h3, h4⟩
  exact ⟨rfl, es', ⟨by rw [show (P.rename ⟨es.map E.f, s⟩ n t).2 = pl es' s' from h4.symm]; exact h2, by rw [show (P.rename ⟨es.map E.f, s⟩ n t).2 = pl es' s' from h4.symm]; rfl, hg.rename n t⟩, h3⟩
theorem Dg.lay (n t : List UInt8) (hn : n.length ≤ maxLen) (ht : t.length ≤ 4294967296) : Calls Try.prog 25 #[.pointer (some ⟨d, 0, none⟩), str n, str t] w (ResG d mp w es (.int .i64 (p.lay n t).1) (p.lay n t).2) := by
  have hcn := h.cnt
  obtain ⟨hD, hfs, hg⟩ := h
  obtain ⟨fs, s⟩ := p
  dsimp only at hD hfs
  subst hfs
  refine (lay_any w d mp es s hD n t hcn (good_room hg) (good_len hg) (good_sum hg) ht hn).mono ?_
  rintro e w' ⟨es', s', rfl, h2, h3, h4⟩
  exact ⟨rfl, es', ⟨by rw [show (P.lay ⟨es.map E.f, s⟩ n t).2 = pl es' s' from h4.symm]; exact h2, by rw [show (P.lay ⟨es.map E.f, s⟩ n t).2 = pl es' s' from h4.symm]; rfl, hg.lay n t⟩, h3⟩
theorem Dg.flip (n : List UInt8) (x : Int) (b : UInt8) (hn : n.length ≤ maxLen) : Calls Try.prog 26 #[.pointer (some ⟨d, 0, none⟩), str n, .int .i64 x, byteV b] w (ResG d mp w es (.bool (p.flip n x b).1) (p.flip n x b).2) := by
  obtain ⟨hD, hfs, hg⟩ := h
  obtain ⟨fs, s⟩ := p
  dsimp only at hD hfs
  subst hfs
  refine (flip_any w d mp es s hD n x b (good_len hg) hn).mono ?_
  rintro e w' ⟨es', s', rfl, h2, h3, h4⟩
  exact ⟨rfl, es', ⟨by rw [show (P.flip ⟨es.map E.f, s⟩ n x b).2 = pl es' s' from h4.symm]; exact h2, by rw [show (P.flip ⟨es.map E.f, s⟩ n x b).2 = pl es' s' from h4.symm]; rfl, hg.flip n x b⟩, h3⟩
theorem Dg.read (n : List UInt8) (x k : Int) (h1 : p.h.ops < big) : Calls Try.prog 18 #[.pointer (some ⟨d, 0, none⟩), str n, .int .i64 x, .int .i64 k] w (ResG d mp w es (.tuple #[str (p.read n x k).1, .int .i64 (p.read n x k).2.1]) (p.read n x k).2.2) := by
  obtain ⟨hD, hfs, hg⟩ := h
  obtain ⟨fs, s⟩ := p
  dsimp only at hD hfs
  subst hfs
  refine (read_any w d mp es s hD n x k hg.ops h1 (good_len hg)).mono ?_
  rintro e w' ⟨s', rfl, h2, h3, h4⟩
  refine ⟨rfl, es, ⟨by rw [show (P.read ⟨es.map E.f, s⟩ n x k).2.2 = pl es s' from h4.symm]; exact h2, by rw [show (P.read ⟨es.map E.f, s⟩ n x k).2.2 = pl es s' from h4.symm]; rfl, ?_⟩, Turn.of_but h3⟩
  have hb := hg.find_ n
  unfold P.read
  split
  · exact hg
  · split
    · exact hb
    · split
      · exact hb
      · exact hb
theorem Dg.off : Calls Try.prog 13 #[.pointer (some ⟨d, 0, none⟩)] w (ResG d mp w es (.tuple #[]) ⟨p.fs, { p.h with off := true, ak := 0, af := 0, al := 0 }⟩) := by
  obtain ⟨hD, hfs, hg⟩ := h
  obtain ⟨fs, s⟩ := p
  dsimp only at hD hfs
  subst hfs
  refine (off_any w d mp es s hD).mono ?_
  rintro e w' ⟨rfl, h2, h3⟩
  exact ⟨rfl, es, ⟨h2, rfl, ⟨hg.up, hg.used, hg.room, hg.safe, hg.cnt, hg.names, hg.ops⟩⟩, Turn.of_but h3⟩
theorem Dg.arm (x k m : Int) (h1 : p.h.ops < big) : Calls Try.prog 10 #[.pointer (some ⟨d, 0, none⟩), .int .i64 x, .int .i64 k, .int .i64 m] w (ResG d mp w es (.tuple #[]) ⟨p.fs, p.h.arm x k m⟩) := by
  obtain ⟨hD, hfs, hg⟩ := h
  obtain ⟨fs, s⟩ := p
  dsimp only at hD hfs
  subst hfs
  refine (arm_any w d mp es s hD x k m hg.ops h1).mono ?_
  rintro e w' ⟨rfl, h2, h3⟩
  obtain ⟨k1, k2, k3, _⟩ := arm_keep s x k m
  refine ⟨rfl, es, ⟨h2, rfl, ⟨hg.up, ?_, ?_, hg.safe, hg.cnt, hg.names, ?_⟩⟩, Turn.of_but h3⟩
  · exact k2.trans hg.used
  · show (s.arm x k m).used ≤ (s.arm x k m).room ∧ (s.arm x k m).room ≤ _
    rw [k1, k2]; exact hg.room
  · show 0 ≤ (s.arm x k m).ops
    rw [k3]; exact hg.ops
theorem Dg.on (v : Value) (ks : List Int) (hk : KR w d mp es v ks) : Calls Try.prog 14 #[.pointer (some ⟨d, 0, none⟩), v] w (ResG d mp w es (.tuple #[]) (p.on ks)) := by
  have hcn := h.cnt
  obtain ⟨hD, hfs, hg⟩ := h
  obtain ⟨fs, s⟩ := p
  dsimp only at hD hfs
  subst hfs
  have hr := good_room hg
  dsimp only at hr
  refine (on_any _ d mp es s hD v ks hk hcn (fun e he => hg.safe e.f (List.mem_map.2 ⟨e, he, rfl⟩)) hg.used (by omega) (fun e he => ?_)).mono ?_
  · have := hg.names e.f (List.mem_map.2 ⟨e, he, rfl⟩)
    unfold isName at this
    simp at this
    exact this.2
  · rintro e w' ⟨rfl, es', s', h2, h3, h4⟩
    exact ⟨rfl, es', ⟨by rw [show (P.on ⟨es.map E.f, s⟩ ks) = pl es' s' from h4.symm]; exact h2, by rw [show (P.on ⟨es.map E.f, s⟩ ks) = pl es' s' from h4.symm]; rfl, hg.on ks⟩, h3⟩
theorem Dg.on0 : Calls Try.prog 14 #[.pointer (some ⟨d, 0, none⟩), .slice none 0 0] w (ResG d mp w es (.tuple #[]) (p.on [])) := h.on _ [] (KR.last none)
theorem Dg.used : Calls Try.prog 21 #[.pointer (some ⟨d, 0, none⟩)] w fun e w' => e = .returned (.int .i64 p.h.used) ∧ w' = w := used_any w d mp es p.h h.dk
theorem Dg.down : Calls Try.prog 17 #[.pointer (some ⟨d, 0, none⟩)] w fun e w' => e = .returned (.bool p.h.off) ∧ w' = w := down_any w d mp es p.h h.dk
theorem Dg.ops : Calls Try.prog 22 #[.pointer (some ⟨d, 0, none⟩)] w fun e w' => e = .returned (.int .i64 p.h.ops) ∧ w' = w := ops_any w d mp es p.h h.dk
theorem Dg.bytes (n : List UInt8) (hn : n.length ≤ maxLen) : Calls Try.prog 15 #[.pointer (some ⟨d, 0, none⟩), str n] w fun e w' => e = .returned (str (match Nmd.get F.name n p.fs with | none => [] | some f => f.l)) ∧ w' = w := by
  obtain ⟨hD, hfs, hg⟩ := h
  obtain ⟨fs, s⟩ := p
  dsimp only at hD hfs
  subst hfs
  dsimp only
  rw [get_pl]
  refine (bytes_any w d mp es s hD n hn).mono ?_
  rintro e w' ⟨rfl, rfl⟩
  cases Nmd.get E.nm n es <;> exact ⟨rfl, rfl⟩
theorem Dg.safe (n : List UInt8) (hn : n.length ≤ maxLen) : Calls Try.prog 16 #[.pointer (some ⟨d, 0, none⟩), str n] w fun e w' => e = .returned (.int .i64 (match Nmd.get F.name n p.fs with | none => 0 | some f => (f.safe : Int))) ∧ w' = w := by
  obtain ⟨hD, hfs, hg⟩ := h
  obtain ⟨fs, s⟩ := p
  dsimp only at hD hfs
  subst hfs
  dsimp only
  rw [get_pl]
  refine (safe_any w d mp es s hD n hn).mono ?_
  rintro e w' ⟨rfl, rfl⟩
  cases Nmd.get E.nm n es <;> exact ⟨rfl, rfl⟩
theorem Dg.size (n : List UInt8) (hn : n.length ≤ maxLen) : Calls Try.prog 24 #[.pointer (some ⟨d, 0, none⟩), str n] w fun e w' => e = .returned (.int .i64 (match Nmd.get F.name n p.fs with | none => -1 | some f => (f.l.length : Int))) ∧ w' = w := by
  obtain ⟨hD, hfs, hg⟩ := h
  obtain ⟨fs, s⟩ := p
  dsimp only at hD hfs
  subst hfs
  dsimp only
  rw [get_pl]
  refine (size_any w d mp es s hD n hn).mono ?_
  rintro e w' ⟨rfl, rfl⟩
  cases Nmd.get E.nm n es <;> exact ⟨rfl, rfl⟩
theorem Dg.names : Calls Try.prog 20 #[.pointer (some ⟨d, 0, none⟩)] w fun e w' => ∃ A c, e = .returned (.slice A p.fs.length c) ∧ p.fs.length ≤ c ∧ (∀ i (_ : i < p.fs.length), ∃ rb, A = some ⟨rb, 0, none⟩ ∧ Out w' d mp es rb ∧ w'.cell? ⟨rb, i, none⟩ = some (str p.fs[i].name)) ∧ Reg.Ext w w' := by
  have hcn := h.cnt
  obtain ⟨hD, hfs, hg⟩ := h
  obtain ⟨fs, s⟩ := p
  dsimp only at hD hfs
  subst hfs
  refine (names_any w d mp es s hD hcn).mono ?_
  rintro e w' ⟨v, rfl, hr, hx'⟩
  obtain ⟨NA, ncap, rfl, hncap, hcell⟩ := NR.of hr
  refine ⟨NA, ncap, by simp, by simpa using hncap, ?_, hx'⟩
  intro j hj
  dsimp only at hj
  rw [List.length_map] at hj
  obtain ⟨rb, h1, h2, h3, h4⟩ := hcell j (by rw [List.length_map]; exact hj)
  refine ⟨rb, h1, ⟨h3, fun o => by have := hD.own_lt o; omega⟩, ?_⟩
  rw [h4]
  simp
end
end Plk
end
section
open Go Go.RowKit
namespace Plk
set_option maxRecDepth 100000 in
set_option maxHeartbeats 2000000 in
theorem Dg.done {w : World} {d mp : Nat} {es : List E} {p : P} (h : Dg w d mp es p) (a : A) (h1 : p.h.ops < big) (ht : a.s.length ≤ 4294967296) :
    Calls Try.prog 23 #[.pointer (some ⟨d, 0, none⟩), a.v] w (ResG d mp w es (.int .i64 (p.done a).1) (p.done a).2) := by
  have hx := Reg.Ext.alloc w (.cells a.cells.toArray 41)
  have H := Lib.hid (h.ext hx)
  have HX := Lib.hid hx
  generalize hr : p.done a = r
  unfold P.done at hr
  obtain ⟨k, nm, to, s, x, n, b, ka, kc, ks⟩ := a
  unfold A.v A.cells at *
  dsimp only at *
  clear h hx
  have hrk := Lib.hid hr
  clear hr
  go_enter Try.func23, Try.ntmps23
  by_cases k2 : k = 2
  · have hr := hrk.out
    rw [if_pos k2] at hr
    subst hr k2
    have hc := H.out.append nm s h1 ht
    unfold str at hc
    go_wp2_with (go_at_call 11; refine hc.mono ?_; rintro e w' ⟨rfl, es2, h2, h3⟩)
    go_ret
    exact ⟨rfl, es2, h2, (Turn.ext HX.out).trans h3⟩
  · by_cases k3 : k = 3
    · have hr := hrk.out
      rw [if_neg k2, if_pos k3] at hr
      subst hr k3
      have hc := H.out.read nm x n h1
      unfold str at hc
      generalize p.read nm x n = q at hc ⊢
      clear k2
      go_wp2_with (go_at_call 18; refine hc.mono ?_; rintro e w' ⟨rfl, es2, h2, h3⟩)
      go_ret
      exact ⟨rfl, es2, h2, (Turn.ext HX.out).trans h3⟩
    · by_cases k4 : k = 4
      · have hr := hrk.out
        rw [if_neg k2, if_neg k3, if_pos k4] at hr
        subst hr k4
        have hc := H.out.sync nm h1
        unfold str at hc
        clear k2 k3
        go_wp2_with (go_at_call 12; refine hc.mono ?_; rintro e w' ⟨rfl, es2, h2, h3⟩)
        go_ret
        exact ⟨rfl, es2, h2, (Turn.ext HX.out).trans h3⟩
      · by_cases k5 : k = 5
        · have hr := hrk.out
          rw [if_neg k2, if_neg k3, if_neg k4, if_pos k5] at hr
          subst hr k5
          have hc := H.out.rename nm to h1
          unfold str at hc
          clear k2 k3 k4
          go_wp2_with (go_at_call 32; refine hc.mono ?_; rintro e w' ⟨rfl, es2, h2, h3⟩)
          go_ret
          exact ⟨rfl, es2, h2, (Turn.ext HX.out).trans h3⟩
        · by_cases k6 : k = 6
          · have hr := hrk.out
            rw [if_neg k2, if_neg k3, if_neg k4, if_neg k5, if_pos k6] at hr
            subst hr k6
            have hc := H.out.delete nm h1
            unfold str at hc
            clear k2 k3 k4 k5
            go_wp2_with (go_at_call 34; refine hc.mono ?_; rintro e w' ⟨rfl, es2, h2, h3⟩)
            go_ret
            exact ⟨rfl, es2, h2, (Turn.ext HX.out).trans h3⟩
          · have hr := hrk.out
            rw [if_neg k2, if_neg k3, if_neg k4, if_neg k5, if_neg k6] at hr
            subst hr
            have hc := H.out.create nm h1
            unfold str at hc
            have q2 : (k == 2) = false := beq_eq_false_iff_ne.2 k2
            have q3 : (k == 3) = false := beq_eq_false_iff_ne.2 k3
            have q4 : (k == 4) = false := beq_eq_false_iff_ne.2 k4
            have q5 : (k == 5) = false := beq_eq_false_iff_ne.2 k5
            have q6 : (k == 6) = false := beq_eq_false_iff_ne.2 k6
            clear k2 k3 k4 k5 k6
            go_wp2_with (go_at_call 9; refine hc.mono ?_; rintro e w' ⟨rfl, es2, h2, h3⟩)
            go_ret
            exact ⟨rfl, es2, h2, (Turn.ext HX.out).trans h3⟩
end Plk
end
end Go.Proofs.Ytbiikihapfpkfaa

/- remove, Delete. -/
import Derived.Test.YtbiikihapfpkfaaPlkK
set_option linter.unusedSimpArgs false
set_option linter.unusedVariables false
set_option linter.unusedSectionVars false
namespace Go.Proofs.Ytbiikihapfpkfaa
open Go Go.RowKit
namespace Plk
set_option maxRecDepth 100000 in
set_option maxHeartbeats 1000000 in
theorem remove_any (W : World) (d mp : Nat) (es : List E) (s : H) (hD : Dk W d mp es s) (e0 : E) (hm : e0 ∈ es) (hn : e0.nm.length ≤ maxLen) (hu : 0 ≤ s.used ∧ s.used ≤ 4194304) (hl : e0.f.l.length ≤ 4194304) :
    Calls Try.prog 48 #[.pointer (some ⟨d, 0, none⟩), str e0.nm] W fun e w' => e = .returned (.tuple #[]) ∧ Dk w' d mp (Nmd.del E.nm e0.nm es) { s with used := s.used - e0.f.l.length } ∧ Turn d mp W es w' (Nmd.del E.nm e0.nm es) := by
  have hge : Nmd.get E.nm e0.nm es = some e0 := by
    cases hgt : Nmd.get E.nm e0.nm es with
    | none => exact absurd rfl (Nmd.get_none hgt e0 hm)
    | some y => rw [hD.up.same y (Nmd.get_mem hgt).1 e0 hm (Nmd.get_mem hgt).2]
  have hlk := (hD.ext (Reg.Ext.drew W)).look e0.nm hn
  rw [hge] at hlk
  have hkey := str_key e0.nm hn
  obtain ⟨c0, c1, c2, c3, c4, c5, c6, c7⟩ := hD.c
  have hbk := hD.file e0 hm
  have k0 := hbk.cell 0
  dsimp only [List.getElem?_cons_zero] at k0
  obtain ⟨A, cap, hv⟩ := (hD.row e0 hm).form
  rw [hv] at k0
  clear hbk hv
  have f2 := hD.blk.frozen 2
  have kun := Maps.string_keyed Try.underlying9
  obtain ⟨u1, u2⟩ := hu
  unfold str ptrV at hlk
  unfold str at hkey ⊢
  have hkk := Lib.hid hkey
  have hgk := Lib.hid hge
  clear hkey hge c1 c3 c4 c5 c6 c7
  go_enter Try.func48, Try.ntmps48
  go_wp2
  go_region
  have hD2 : Dk ((W.setCell ⟨d, 2, none⟩ (.int .i64 (s.used - e0.f.l.length))).drew) d mp es { s with used := s.used - e0.f.l.length } := (hD.setH (s' := { s with used := s.used - e0.f.l.length }) 2 _ rfl).ext (Reg.Ext.drew _)
  have hT : Turn d mp W es ((W.setCell ⟨d, 2, none⟩ (.int .i64 (s.used - e0.f.l.length))).drew) es := (Turn.of_but (But.set_ d W 2 _)).trans (Turn.ext (Reg.Ext.drew _))
  generalize (W.setCell ⟨d, 2, none⟩ (.int .i64 (s.used - e0.f.l.length))).drew = w2 at hD2 hT ⊢
  clear c0 c2 k0 f2 hlk
  have c0 := hD2.c.1
  obtain ⟨D, hmp, hMD⟩ := hD2.map
  have hmk := Lib.hid hmp
  have hMk := Lib.hid hMD
  clear hmp hMD
  go_wp2_with (at_delete; refine wpList_delete_own _ rfl _ _ 60 9 rfl _ kun Try.underlying60 _ mp _ D rfl hmk.out _ _ rfl hkk.out ?_; intro w3 hm3 ht3)
  go_end0
  have hgr := ht3.grown
  have h4 := hD2.drop hm hMk.out (hmk.out.tidy kun) hm3 fun i hi hne => hgr.block i hi fun e1 => hne (by injection e1)
  refine ⟨rfl, h4, ⟨hgr.os.trans hT.os, hgr.tape.trans hT.tape, hgr.output.trans hT.output, Nat.le_trans hT.size hgr.size, fun i hi hno => ?_, fun i hi => hT.own i (own_drop hi)⟩⟩
  exact (hgr.block i (Nat.lt_of_lt_of_le hi hT.size) fun e1 => hno (.inr (.inl (by injection e1)))).trans (hT.kept i hi hno)
def P.delete (p : P) (n : List UInt8) : Int × P := match (p.find n).2.2 with
  | none => ((p.find n).1, ⟨p.fs, (p.find n).2.1⟩)
  | some f => (0, ⟨Nmd.del F.name n p.fs, { (p.find n).2.1 with used := (p.find n).2.1.used - f.l.length }⟩)
theorem delete_pl (es : List E) (s : H) (n : List UInt8) : (pl es s).delete n = match (s.find es n).2.2 with
  | none => ((s.find es n).1, pl es (s.find es n).2.1)
  | some e => (0, pl (Nmd.del E.nm n es) { (s.find es n).2.1 with used := (s.find es n).2.1.used - e.f.l.length }) := by
  unfold P.delete pl
  have h := find_pl es s n
  unfold pl at h
  rw [h]
  dsimp only
  rw [Nmd.del_map F.name E.f]
  cases (s.find es n).2.2 <;> rfl
set_option maxRecDepth 100000 in
set_option maxHeartbeats 1000000 in
theorem delete_any (W : World) (d mp : Nat) (es : List E) (s : H) (hD : Dk W d mp es s) (n : List UInt8) (h0 : 0 ≤ s.ops) (h1 : s.ops < 4611686018427387904) (hu : 0 ≤ s.used ∧ s.used ≤ 4194304) (hle : ∀ e ∈ es, e.f.l.length ≤ 4194304) :
    Calls Try.prog 34 #[.pointer (some ⟨d, 0, none⟩), str n] W (Res d mp W es ((pl es s).delete n)) := by
  have hf := find_any W d mp es s hD n h0 h1
  have hn1 := find_none_ (s := s) (es := es) (n := n)
  have hs1 := @find_some_ s es n
  have hkp := begin_keep s [n]
  rw [← find_keep s es n] at hkp
  rw [delete_pl]
  generalize s.find es n = q at hf hn1 hs1 hkp
  obtain ⟨er, s1, o⟩ := q
  dsimp only at hf hn1 hs1 hkp ⊢
  cases o with
  | none =>
    have he := beq_eq_false_iff_ne.2 (hn1 rfl)
    clear hn1 hs1 hkp hu hle
    unfold str ptrV at hf
    unfold str
    go_enter Try.func34, Try.ntmps34
    go_wp2_with (go_at_call 43; refine hf.mono ?_; rintro e w1 ⟨rfl, hD1, hb1⟩)
    go_ret
    exact ⟨es, s1, rfl, hD1, Turn.of_but hb1, rfl⟩
  | some e0 =>
    obtain ⟨he, hg, hm, hnm, hn⟩ := hs1 rfl
    have hl0 := hle e0 hm
    subst he hnm
    have hrm := fun w1 h => remove_any w1 d mp es s1 h e0 hm (by unfold maxLen; omega) (by rw [hkp.2.1]; exact hu) hl0
    clear hn1 hs1 hg hle hu hkp hl0
    unfold str ptrV at hf
    unfold str at hrm ⊢
    go_enter Try.func34, Try.ntmps34
    go_wp2_with (first | (go_at_call 43; refine hf.mono ?_; rintro e w1 ⟨rfl, hD1, hb1⟩) | (go_at_call 48; refine (hrm _ hD1).mono ?_; rintro e w2 ⟨rfl, hD2, hT2⟩))
    go_ret
    exact ⟨_, _, rfl, hD2, (Turn.of_but hb1).trans hT2, rfl⟩
end Plk
end Go.Proofs.Ytbiikihapfpkfaa

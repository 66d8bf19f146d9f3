/- lose. -/
import Derived.Test.YtbiikihapfpkfaaPlkL
set_option linter.unusedSimpArgs false
set_option linter.unusedVariables false
set_option linter.unusedSectionVars false
namespace Go.Proofs.Ytbiikihapfpkfaa
open Go Go.RowKit
theorem PRow.form3 {w : World} {v : Value} {l : List UInt8} (h : PRow w v l) : ∃ A cap, v = .slice A l.length cap ∧ l.length ≤ cap ∧ cap ≤ maxLen := by
  rcases h with ⟨rfl, rfl⟩ | ⟨g, cap, cur, fz, rfl, _, _, h2, h3, _⟩
  · exact ⟨none, 0, rfl, Nat.le_refl _, Nat.zero_le _⟩
  · exact ⟨_, cap, rfl, h2, h3⟩
namespace Plk
def keptN (f : F) (m : Nat) : Nat := f.safe + m % (f.l.length - f.safe + 1)
theorem keptN_le (f : F) (m : Nat) (h : f.safe ≤ f.l.length) : keptN f m ≤ f.l.length := by
  have := Nat.mod_lt m (show 0 < f.l.length - f.safe + 1 by omega)
  unfold keptN
  omega
set_option maxRecDepth 100000 in
set_option maxHeartbeats 1000000 in
theorem lose_any (W : World) (d mp : Nat) (es : List E) (s : H) (hD : Dk W d mp es s) (e0 : E) (hm : e0 ∈ es) (m : Nat) (keep : Int) (hmk : max keep 0 = m) (hsf : e0.f.safe ≤ e0.f.l.length) (hu : 0 ≤ s.used ∧ s.used ≤ 4194304) (hl : e0.f.l.length ≤ 4194304) :
    Calls Try.prog 44 #[.pointer (some ⟨d, 0, none⟩), .pointer (some ⟨e0.g, 0, none⟩), .int .i64 keep] W fun e w' => e = .returned (.tuple #[]) ∧ ∃ v,
      Dk w' d mp (Nmd.upd E.nm ⟨⟨e0.nm, e0.f.l.take (keptN e0.f m), keptN e0.f m⟩, e0.g, v⟩ es) { s with used := s.used - (e0.f.l.length - keptN e0.f m) } ∧ Turn d mp W es w' (Nmd.upd E.nm ⟨⟨e0.nm, e0.f.l.take (keptN e0.f m), keptN e0.f m⟩, e0.g, v⟩ es) := by
  have hkl := keptN_le e0.f m hsf
  have hkd : keptN e0.f m = e0.f.safe + m % (e0.f.l.length - e0.f.safe + 1) := rfl
  generalize keptN e0.f m = k at hkl hkd ⊢
  obtain ⟨c0, c1, c2, c3, c4, c5, c6, c7⟩ := hD.c
  have hbk := hD.file e0 hm
  have k0 := hbk.cell 0
  have k1 := hbk.cell 1
  have f0 := hbk.frozen 0
  have f1 := hbk.frozen 1
  dsimp only [List.getElem?_cons_zero, List.getElem?_cons_succ] at k0 k1
  obtain ⟨A, cap, hv, hc1, hc2⟩ := (hD.row e0 hm).form3
  have hvk := Lib.hid hv
  rw [hv] at k0
  clear hbk hv
  have f2 := hD.blk.frozen 2
  obtain ⟨u1, u2⟩ := hu
  have hkk := Lib.hid hkd
  clear hkd c0 c1 c3 c4 c5 c6 c7
  go_enter Try.func44, Try.ntmps44
  go_wp2
  go_quiet (fail)
  generalize nq = nq1
  go_wp2
  go_quiet (fail)
  have hw : wrap64 ((e0.f.safe : Int) + (m : Int) % ((e0.f.l.length : Int) - (e0.f.safe : Int) + 1)) = (k : Int) := by
    have e1 : (e0.f.safe : Int) + (m : Int) % ((e0.f.l.length : Int) - (e0.f.safe : Int) + 1) = (k : Int) := by
      rw [hkk.out]
      rw [show (e0.f.l.length : Int) - (e0.f.safe : Int) + 1 = ((e0.f.l.length - e0.f.safe + 1 : Nat) : Int) by omega]
      omega
    rw [e1]
    exact IntWalk.wrap64_in _ ⟨by omega, by omega⟩
  rw [hw]
  clear hw
  have hx : Reg.Ext W ((W.drewN nq1).drewN nq) := (Reg.Ext.drewN _ _).trans (Reg.Ext.drewN _ _)
  clear c2 k0 k1 f0 f1 f2
  generalize (W.drewN nq1).drewN nq = w1 at hx ⊢
  have hD1 := hD.ext hx
  have c2 := hD1.c.2.2.1
  have f2 := hD1.blk.frozen 2
  have hbk := hD1.file e0 hm
  have k0 := hbk.cell 0
  have k1 := hbk.cell 1
  have f0 := hbk.frozen 0
  have f1 := hbk.frozen 1
  dsimp only [List.getElem?_cons_zero, List.getElem?_cons_succ] at k0 k1
  rw [hvk.out] at k0
  have hrow := Lib.hid (hD1.row e0 hm)
  have hbk2 := Lib.hid hbk
  have hdg := (hD1.out e0 hm e0.g (mem_blocks.2 (.inl rfl))).1
  clear hbk hsf hmk hkk
  go_wp2
  go_region
  go_wp2
  go_end0
  have hA : Dk (w1.setCell ⟨d, 2, none⟩ (.int .i64 (s.used - (e0.f.l.length - k)))) d mp es { s with used := s.used - (e0.f.l.length - k) } := hD1.setH (s' := { s with used := s.used - (e0.f.l.length - k) }) 2 _ rfl
  have hT : Turn d mp W es (w1.setCell ⟨d, 2, none⟩ (.int .i64 (s.used - (e0.f.l.length - k)))) es := (Turn.ext hx).trans (Turn.of_but (But.set_ d w1 2 _))
  generalize w1.setCell ⟨d, 2, none⟩ (.int .i64 (s.used - (e0.f.l.length - k))) = w2 at hA hT ⊢
  have hr2 := hA.row e0 hm
  have hb2 := hA.file e0 hm
  have ho2 : (Value.slice A k cap).ownBlock = e0.v.ownBlock := by rw [hvk.out]; cases A <;> rfl
  have hr3 : PRow w2 (.slice A k cap) (e0.f.l.take k) := by
    rw [hvk.out] at hr2
    exact hr2.cut k hkl
  obtain ⟨h5, h6⟩ := hA.setRow hm (.slice A k cap) (e0.f.l.take k) k hr3 (World.grownBy.refl w2 _) (.inl ho2) ((w2.setCell ⟨e0.g, 0, none⟩ (.slice A k cap)).setCell ⟨e0.g, 1, none⟩ (.int .i64 (k : Int))) ((But.set_ e0.g w2 0 _).trans (But.set_ e0.g _ 1 _)) ((hb2.set_ 0 _).set_ 1 _)
  exact ⟨rfl, .slice A k cap, h5.ext (Reg.Ext.drew _), hT.trans (h6.trans (Turn.ext (Reg.Ext.drew _)))⟩
end Plk
end Go.Proofs.Ytbiikihapfpkfaa

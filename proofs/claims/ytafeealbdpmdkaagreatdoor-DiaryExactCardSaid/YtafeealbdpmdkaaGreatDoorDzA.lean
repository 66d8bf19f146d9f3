/- The document's log: its disk's operations in a chain. -/
import Derived.Test.YtafeealbdpmdkaaGreatDoorDuo
import Derived.Test.YtafeealbdpmdkaaGreatDoorDyY
set_option linter.unusedSimpArgs false
set_option linter.unusedVariables false
set_option linter.unusedSectionVars false
-- squeezed
namespace Go.Proofs.YtafeealbdpmdkaaGreatDoor
open Go Go.RowKit
namespace Plk
open Slp (S good frame body frames allP Row RdS)
open Rk (RD R Sim Both Newer RP plV)
structure Z where
 L : List S
 sure : Int
 size : Int
 sick : Bool
def Z.y (z : Z) : Y := ⟨(z.L.length : Int), z.sure, z.size, z.sick⟩
def Z.cells (z : Z) (b : Nat) (vL : Value) : List Value := [.pointer (some ⟨b, 0, none⟩), vL, .int .i64 z.sure, .int .i64 z.size, .bool z.sick]
def zOpen (l : List UInt8) : Z := ⟨(allP l).1, ((allP l).1.length : Int), ((allP l).2 : Int), decide (((allP l).2 : Int) < (l.length : Int))⟩
/-- what a disk operation of the document's leaves -/
def RB (b : Nat) (w : World) (v val : Value) (p' : P) (e : Ending) (w' : World) : Prop := e = .returned val ∧ ∃ v' r', Both w' b v' r' p' ∧ But b w w' ∧ Newer w v v'
section
variable {w : World} {b : Nat} {v : Value} {r : R} {p q : P} (h : Both w b v r p) {x : Int} {l : List UInt8}
theorem RP.rb {val : Value} {p' : P} {e : Ending} {w' : World} (h : RP b w v val p' e w') (hg : Good p') (ho : p'.h.ops ≤ 1000) : RB b w v val p' e w' := by
 obtain ⟨h1, v', r', h2, h3, h4, h5⟩ := h
 exact ⟨h1, v', r', ⟨h2, h3, hg, ho⟩, h4, h5⟩
include h
theorem _root_.Go.Proofs.YtafeealbdpmdkaaGreatDoor.Rk.Both.deleteN (ho : p.h.ops + 1 ≤ 1000) (e : p.delete nN = (x, q)) : Calls Tryz.prog 39 #[.pointer (some ⟨b, 0, none⟩), .string { data := #[100, 105, 97, 114, 121, 46, 110, 101, 119] }] w (RB b w v (.int .i64 x) q) := by
 have h1 := (ops_delete p nN).2
 have h2 := h.good.delete nN
 have := Rk.delete_ref h nN
 rw [e] at this h1 h2
 exact this.mono fun _ _ k => RP.rb k h2 (by dsimp only at h1; omega)
theorem _root_.Go.Proofs.YtafeealbdpmdkaaGreatDoor.Rk.Both.createN (ho : p.h.ops + 1 ≤ 1000) (e : p.create nN = (x, q)) : Calls Tryz.prog 40 #[.pointer (some ⟨b, 0, none⟩), .string { data := #[100, 105, 97, 114, 121, 46, 110, 101, 119] }] w (RB b w v (.int .i64 x) q) := by
 have h1 := (ops_create p nN).2
 have h2 := h.good.create nN
 have := Rk.create_ref h nN
 rw [e] at this h1 h2
 exact this.mono fun _ _ k => RP.rb k h2 (by dsimp only at h1; omega)
theorem _root_.Go.Proofs.YtafeealbdpmdkaaGreatDoor.Rk.Both.createD (ho : p.h.ops + 1 ≤ 1000) (e : p.create nD = (x, q)) : Calls Tryz.prog 40 #[.pointer (some ⟨b, 0, none⟩), .string { data := #[100, 105, 97, 114, 121] }] w (RB b w v (.int .i64 x) q) := by
 have h1 := (ops_create p nD).2
 have h2 := h.good.create nD
 have := Rk.create_ref h nD
 rw [e] at this h1 h2
 exact this.mono fun _ _ k => RP.rb k h2 (by dsimp only at h1; omega)
theorem _root_.Go.Proofs.YtafeealbdpmdkaaGreatDoor.Rk.Both.syncN (ho : p.h.ops + 1 ≤ 1000) (e : p.sync nN = (x, q)) : Calls Tryz.prog 42 #[.pointer (some ⟨b, 0, none⟩), .string { data := #[100, 105, 97, 114, 121, 46, 110, 101, 119] }] w (RB b w v (.int .i64 x) q) := by
 have h1 := (ops_sync p nN).2
 have h2 := h.good.sync nN
 have := Rk.sync_ref h nN
 rw [e] at this h1 h2
 exact this.mono fun _ _ k => RP.rb k h2 (by dsimp only at h1; omega)
theorem _root_.Go.Proofs.YtafeealbdpmdkaaGreatDoor.Rk.Both.syncD (ho : p.h.ops + 1 ≤ 1000) (e : p.sync nD = (x, q)) : Calls Tryz.prog 42 #[.pointer (some ⟨b, 0, none⟩), .string { data := #[100, 105, 97, 114, 121] }] w (RB b w v (.int .i64 x) q) := by
 have h1 := (ops_sync p nD).2
 have h2 := h.good.sync nD
 have := Rk.sync_ref h nD
 rw [e] at this h1 h2
 exact this.mono fun _ _ k => RP.rb k h2 (by dsimp only at h1; omega)
theorem _root_.Go.Proofs.YtafeealbdpmdkaaGreatDoor.Rk.Both.appendD (ho : p.h.ops + 1 ≤ 1000) {t : List UInt8} (ht : t.length ≤ 4294967296) (e : p.append nD t = (x, q)) : Calls Tryz.prog 20 #[.pointer (some ⟨b, 0, none⟩), .string { data := #[100, 105, 97, 114, 121] }, .string ⟨t.toArray⟩] w (RB b w v (.int .i64 x) q) := by
 have h1 := (ops_append p nD t).2
 have h2 := h.good.append nD t
 have := Rk.append_ref h nD t ht
 rw [e] at this h1 h2
 exact this.mono fun _ _ k => RP.rb k h2 (by dsimp only at h1; omega)
theorem _root_.Go.Proofs.YtafeealbdpmdkaaGreatDoor.Rk.Both.appendN (ho : p.h.ops + 1 ≤ 1000) {t : List UInt8} (ht : t.length ≤ 4294967296) (e : p.append nN t = (x, q)) : Calls Tryz.prog 20 #[.pointer (some ⟨b, 0, none⟩), .string { data := #[100, 105, 97, 114, 121, 46, 110, 101, 119] }, .string ⟨t.toArray⟩] w (RB b w v (.int .i64 x) q) := by
 have h1 := (ops_append p nN t).2
 have h2 := h.good.append nN t
 have := Rk.append_ref h nN t ht
 rw [e] at this h1 h2
 exact this.mono fun _ _ k => RP.rb k h2 (by dsimp only at h1; omega)
theorem _root_.Go.Proofs.YtafeealbdpmdkaaGreatDoor.Rk.Both.renameND (ho : p.h.ops + 1 ≤ 1000) (e : p.rename nN nD = (x, q)) : Calls Tryz.prog 58 #[.pointer (some ⟨b, 0, none⟩), .string { data := #[100, 105, 97, 114, 121, 46, 110, 101, 119] }, .string { data := #[100, 105, 97, 114, 121] }] w (RB b w v (.int .i64 x) q) := by
 have h1 := (ops_rename p nN nD).2
 have h2 := h.good.rename nN nD
 have := Rk.rename_ref h nN nD
 rw [e] at this h1 h2
 exact this.mono fun _ _ k => RP.rb k h2 (by dsimp only at h1; omega)
theorem good_read (hg : Good p) (n : List UInt8) (x k : Int) : Good (p.read n x k).2.2 := by
 have hb := hg.find_ n
 unfold P.read
 split
 ·exact hg
 ·split
  ·exact hb
  ·split
   ·exact hb
   ·exact hb
theorem _root_.Go.Proofs.YtafeealbdpmdkaaGreatDoor.Rk.Both.readD (ho : p.h.ops + 1 ≤ 1000) {k : Int} (e : p.read nD 0 k = (l, x, q)) : Calls Tryz.prog 41 #[.pointer (some ⟨b, 0, none⟩), .string { data := #[100, 105, 97, 114, 121] }, .int .i64 0, .int .i64 k] w (RB b w v (.tuple #[.string ⟨l.toArray⟩, .int .i64 x]) q) := by
 have h1 := (ops_read p nD 0 k).2
 have h2 := good_read h h.good nD 0 k
 have := Rk.read_ref h nD 0 k
 rw [e] at this h1 h2
 exact this.mono fun _ _ k => RP.rb k h2 (by dsimp only at h1; omega)
theorem _root_.Go.Proofs.YtafeealbdpmdkaaGreatDoor.Rk.Both.placeD {k : Int} (e : plV p.fs nD = k) : Calls Tryz.prog 38 #[.pointer (some ⟨b, 0, none⟩), .string { data := #[100, 105, 97, 114, 121] }] w fun e w' => e = .returned (.int .i64 k) ∧ w = w' := by
 have := Rk.place_any w b v r h.rd nD (by rw [h.sim.l]; exact h.good.cnt)
 rw [h.sim.l, e] at this
 exact this.mono fun _ _ h => ⟨h.1, h.2.symm⟩
theorem _root_.Go.Proofs.YtafeealbdpmdkaaGreatDoor.Rk.Both.placeN {k : Int} (e : plV p.fs nN = k) : Calls Tryz.prog 38 #[.pointer (some ⟨b, 0, none⟩), .string { data := #[100, 105, 97, 114, 121, 46, 110, 101, 119] }] w fun e w' => e = .returned (.int .i64 k) ∧ w = w' := by
 have := Rk.place_any w b v r h.rd nN (by rw [h.sim.l]; exact h.good.cnt)
 rw [h.sim.l, e] at this
 exact this.mono fun _ _ h => ⟨h.1, h.2.symm⟩
theorem _root_.Go.Proofs.YtafeealbdpmdkaaGreatDoor.Rk.Both.ext {w' : World} (hx : Reg.Ext w w') : Both w' b v r p := ⟨h.rd.ext hx, h.sim, h.good, h.ops⟩
end
theorem get_ok {fs : List F} (hu : Nmd.Up F.name fs) {n : List UInt8} {f : F} (hg : Nmd.get F.name n fs = some f) : ∃ k, ∃ hk : k < fs.length, fs[k] = f ∧ plV fs n = (k : Int) := by
 rcases Rk.place_get hu n with ⟨h1, _⟩ | ⟨k, f', hk, h1, h2, h3, _⟩
 ·rw [h1] at hg; cases hg
 ·rw [h2] at hg
  injection hg with hg
  subst hg
  exact ⟨k, hk, h1, h3⟩
theorem get_no {fs : List F} (hu : Nmd.Up F.name fs) {n : List UInt8} (hg : Nmd.get F.name n fs = none) : plV fs n = -1 := by
 rcases Rk.place_get hu n with ⟨_, h1⟩ | ⟨k, f', hk, h1, h2, h3, _⟩
 ·exact h1
 ·rw [h2] at hg; cases hg
end Plk
end Go.Proofs.YtafeealbdpmdkaaGreatDoor

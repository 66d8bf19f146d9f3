/- Package excuse: escaped. -/
import Derived.Test.YtdnaijaamnfgmaaDoorExcRead
import Derived.Lib.SlBytesConst
set_option linter.unusedSimpArgs false
set_option linter.unusedVariables false
set_option linter.unusedSectionVars false
namespace Go.Proofs.YtdnaijaamnfgmaaDoor
open Go.RowKit
namespace Exc
open ExcP HexP
def lits : List UInt8 := [34, 92, 10, 13, 9]
def escQ (l : List UInt8) : UInt8 × Nat := (escP l).getD (0, 0)
def escV (l : List UInt8) : Value := .tuple #[.int .u8 ((escQ l).1.toNat : Int), .int .i64 ((escQ l).2 : Int)]
theorem esc_hit (k : Nat) (hk : k < 5) (c : UInt8) (l : List UInt8) (h : c = shortN (lits.getD k 0)) : escQ (c :: l) = (lits.getD k 0, 1) := by
  subst h
  rcases (by omega : k = 0 ∨ k = 1 ∨ k = 2 ∨ k = 3 ∨ k = 4) with rfl | rfl | rfl | rfl | rfl <;> rfl
theorem esc_miss (c : UInt8) (l : List UInt8) (h : ∀ j, j < 5 → c ≠ shortN (lits.getD j 0)) : escP (c :: l) = (longP (c :: l)).map fun x => (x, 5) := by
  have h0 : ¬ c = 34 := fun e => h 0 (by omega) (e.trans (by decide))
  have h1 : ¬ c = 92 := fun e => h 1 (by omega) (e.trans (by decide))
  have h2 : ¬ c = 110 := fun e => h 2 (by omega) (e.trans (by decide))
  have h3 : ¬ c = 114 := fun e => h 3 (by omega) (e.trans (by decide))
  have h4 : ¬ c = 116 := fun e => h 4 (by omega) (e.trans (by decide))
  rw [escP_cons, if_neg h0, if_neg h1, if_neg h2, if_neg h3, if_neg h4]
theorem esc_nil : escP [] = (longP []).map fun x => (x, 5) := rfl
theorem escQ_long {l : List UInt8} (h : escP l = (longP l).map fun x => (x, 5)) : escQ l = if (longQ l).2 = true then ((longQ l).1, 5) else (0, 0) := by
  unfold escQ
  rw [h, longQ_P]
  split <;> rfl
def clits : List Value := lits.map byteV
theorem clits_at (k : Nat) (h : k < 5) : clits[k]? = some (.int .u8 ((lits.getD k 0).toNat : Int)) := by
  rcases (by omega : k = 0 ∨ k = 1 ∨ k = 2 ∨ k = 3 ∨ k = 4) with rfl | rfl | rfl | rfl | rfl <;> rfl
set_option maxRecDepth 100000 in
set_option maxHeartbeats 2000000 in
theorem escaped_any (s : ByteArray) (w : World) (hs : s.size ≤ 274877906944) :
    Calls Tryd.prog 31 #[.string s] w fun e w' => e = .returned (escV s.data.toList) ∧ Reg.Ext w w' := by
  have kc := fun (w : World) (C : Array Value) (n c : Nat) => Lib.run_convert_bytes_const (P := Tryd.prog) w 49 5 C n c Tryd.underlying49 Tryd.underlying5
  go_enter Tryd.func31, Tryd.ntmps31
  go_wp2_with fail
  clear kc
  have hb0 : (w.alloc (Obj.cells #[Value.int .u8 34, Value.int .u8 92, Value.int .u8 10, Value.int .u8 13, Value.int .u8 9] 5 (5, 6))).heap[w.heap.size]? = some (.cells clits.toArray 5 (5, 6)) := heap_alloc_new w (Obj.cells #[Value.int .u8 34, Value.int .u8 92, Value.int .u8 10, Value.int .u8 13, Value.int .u8 9] 5 (5, 6))
  have hx0 := Reg.Ext.alloc w (Obj.cells #[Value.int .u8 34, Value.int .u8 92, Value.int .u8 10, Value.int .u8 13, Value.int .u8 9] 5 (5, 6))
  generalize w.alloc (Obj.cells #[Value.int .u8 34, Value.int .u8 92, Value.int .u8 10, Value.int .u8 13, Value.int .u8 9] 5 (5, 6)) = w0 at *
  have hg0 : w.heap.size < w0.heap.size := (Array.getElem?_eq_some_iff.1 hb0).1
  generalize w.heap.size = g at *
  have HB0 := Lib.hid hb0
  have HX0 := Lib.hid hx0
  clear hb0 hx0
  go_loopw [5, 11] (fun _ i wr => ∃ k : Nat, k ≤ 5 ∧ i = .int .i64 k ∧ Hid (Reg.Ext w0 wr) ∧ Hid (∀ c l, s.data.toList = c :: l → ∀ j, j < k → c ≠ shortN (lits.getD j 0))) (fun _ i _ => 5 - (intOf i).toNat)
  case atStart => exact ⟨0, by omega, rfl, Reg.Ext.refl _, fun _ _ _ j hj => by omega⟩
  case round =>
    obtain ⟨k, hk, rfl, HX, HM⟩ := hrel
    by_cases hk5 : k < 5
    · have d1 : decide ((k : Int) < 5) = true := by rw [decide_eq_true_iff]; omega
      have cb : wr.cell? ⟨g, k, none⟩ = some (.int .u8 ((lits.getD k 0).toNat : Int)) := by
        rw [← clits_at k hk5]
        unfold World.cell?
        rw [HX.out.block g hg0, HB0.out]
        simp
      have HH := Lib.hid (fun c l => esc_hit k hk5 c l)
      have HM2 : Hid (∀ c l, s.data.toList = c :: l → c ≠ shortN (lits.getD k 0) → ∀ j, j < k + 1 → c ≠ shortN (lits.getD j 0)) := fun c l e hne j hj => by
        by_cases hjk : j < k
        · exact HM.out c l e j hjk
        · have : j = k := by omega
          subst this; exact hne
      generalize lits.getD k 0 = b at *
      by_cases hsz : s.size = 0
      · obtain ⟨hl, t1, t0⟩ := empty_of s hsz
        have HL := Lib.hid hl
        clear hl hsz
        go_wp2_with fail
        go_quiet (fail)
        have HX2 := Lib.hid (Reg.Ext.trans HX.out (Reg.Ext.drewN wr nq))
        go_wp2_with fail
        go_roundw
        case rel => exact ⟨k + 1, by omega, by go_num, HX2, fun c l e => by rw [HL.out] at e; cases e⟩
        case measure => simp [intOf]; omega
      · have hsz : 0 < s.size := by omega
        obtain ⟨l, hl⟩ := first_of s hsz
        obtain ⟨t0, t1⟩ := full_of s hsz
        have HL := Lib.hid hl
        clear hl
        have HH1 := Lib.hid (HH.out s[0] l)
        have HM4 := Lib.hid (HM2.out s[0] l HL.out)
        clear HH HM2
        by_cases hcb : s[0] = shortN b
        · have d2 : ((s[0].toNat : Int) == ((shortN b).toNat : Int)) = true := by rw [hcb]; simp
          have HV := Lib.hid (show escV s.data.toList = .tuple #[.int .u8 (b.toNat : Int), .int .i64 1] by unfold escV; rw [HL.out, HH1.out hcb]; rfl)
          clear hcb
          go_wp2_with fail
          go_quiet ((go_at_call 26; exact Calls.quiet_of_same ((short_any b _).mono fun _ _ ⟨h1, h2⟩ => ⟨h1, h2.symm⟩)))
          have HX2 := Lib.hid (Reg.Ext.trans HX.out (Reg.Ext.drewN wr nq))
          go_wp2_with fail
          go_ret2
          exact ⟨by rw [HV.out]; rfl, HX0.out.trans HX2.out⟩
        · have d2 : ((s[0].toNat : Int) == ((shortN b).toNat : Int)) = false := by
            rw [beq_eq_false_iff_ne]; intro e; exact hcb (UInt8.toNat_inj.1 (by omega))
          have HM3 := Lib.hid (HM4.out hcb)
          clear hcb
          go_wp2_with fail
          go_quiet ((go_at_call 26; exact Calls.quiet_of_same ((short_any b _).mono fun _ _ ⟨h1, h2⟩ => ⟨h1, h2.symm⟩)))
          have HX2 := Lib.hid (Reg.Ext.trans HX.out (Reg.Ext.drewN wr nq))
          go_wp2_with fail
          go_roundw
          case rel => exact ⟨k + 1, by omega, by go_num, HX2, fun c' l' e => by rw [HL.out] at e; injection e with e1 e2; subst e1; exact HM3.out⟩
          case measure => simp [intOf]; omega
    · have hk' : k = 5 := by omega
      subst hk'
      have HE : Hid (escP s.data.toList = (longP s.data.toList).map fun x => (x, 5)) := by
        show _ = _
        cases hl : s.data.toList with
        | nil => rfl
        | cons c l => exact esc_miss c l (HM.out c l hl)
      have HQ := Lib.hid (escQ_long HE.out)
      go_wp2_with fail
      refine (long_any s wr hs).mono ?_
      rintro e w2 ⟨rfl, x2⟩
      have HX2 := Lib.hid ((HX0.out.trans HX.out).trans x2)
      clear x2
      unfold longV
      cases hq : (longQ s.data.toList).2 with
      | true =>
        have HV := Lib.hid (show escV s.data.toList = .tuple #[.int .u8 ((longQ s.data.toList).1.toNat : Int), .int .i64 5] by unfold escV; rw [HQ.out, hq]; rfl)
        clear hq
        go_wp2_with fail
        go_ret2
        exact ⟨by rw [HV.out]; rfl, HX2.out⟩
      | false =>
        have HV := Lib.hid (show escV s.data.toList = .tuple #[.int .u8 0, .int .i64 0] by unfold escV; rw [HQ.out, hq]; rfl)
        clear hq
        go_wp2_with fail
        go_ret2
        exact ⟨by rw [HV.out]; rfl, HX2.out⟩
end Exc
end Go.Proofs.YtdnaijaamnfgmaaDoor

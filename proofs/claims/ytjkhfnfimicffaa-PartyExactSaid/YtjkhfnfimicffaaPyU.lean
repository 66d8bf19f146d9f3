/- The document's flights: Where, Place, Find. -/
import Derived.Test.YtjkhfnfimicffaaPyT
import Derived.Test.YtjkhfnfimicffaaKyQ
set_option linter.unusedSimpArgs false
set_option linter.unusedVariables false
set_option linter.unusedSectionVars false
namespace Go.Proofs.Ytjkhfnfimicffaa
open Go Go.RowKit
namespace Py
theorem exec_idxF {ρ : Operand → Value} {o : Oper} (x ix : Operand) (ho : o.op = .indexAddr 44 x ix) {g len cap j : Nat} (hx : ρ x = .slice (some ⟨g, 0, none⟩) len cap) (hi : ρ ix = .int .i64 (j : Int)) (hj : j < len) (w : World) :
    (execOp ρ o).run Try.prog w = .ok (.value (.pointer (some ⟨g, j * 38, none⟩))) w := by
  have h1 : (Instr.indexAt 44 (.slice (some ⟨g, 0, none⟩) len cap) (.int .i64 (j : Int))).run Try.prog w = .ok (.pointer (some ⟨g, j * 38, none⟩)) w := by
    have h2 := run_indexAt_slice (P := Try.prog) (w := w) 44 ⟨g, 0, none⟩ len cap .i64 (j : Int) (by kernel_rfl)
    rw [if_pos ⟨by omega, by omega⟩] at h2
    rw [h2]
    have hs : (Go.sizeOf (Try.prog.elem 44)).run Try.prog w = .ok 38 w := by as_aux_lemma => kernel_rfl
    rw [hs, Result.andThen_ok, Int.toNat_natCast, Addr.add_mid, Nat.zero_add]
  simp [execOp, ho, hx, hi, h1, Result.andThen]
theorem D.at0 (d : D) : d.cells[0]? = some (.int .i64 d.f.id) := rfl
theorem D.at37 (d : D) (h : d.f.key.dig.length = 32) : d.cells[37]? = some d.v := by
  unfold D.cells
  rw [List.getElem?_cons_succ, List.getElem?_append_right (by rw [d.f.key.len h]; exact Nat.le_refl _), d.f.key.len h]
  rfl
section
variable {w : World} {b : Nat} {v : Value} {ds : List D} {p : P}
theorem RD.fget (R : RD w b v ds p) {q : Fl → Bool} {j : Nat} (hj : j < p.fs.length) (hj2 : j < ds.length) : q p.fs[j] = q ds[j].f := by rw [R.at_ j hj2]
theorem RD.idx_none (R : RD w b v ds p) {q : Fl → Bool} (h : ∀ j (hj : j < ds.length), q ds[j].f = false) : p.fs.findIdx? q = none :=
  Py.idx_none fun j hj => by rw [R.fget (q := q) hj (R.length ▸ hj)]; exact h j _
theorem RD.idx_some (R : RD w b v ds p) {q : Fl → Bool} {k : Nat} (hk : k < ds.length) (hq : q ds[k].f = true) (h : ∀ j (hj : j < ds.length), j < k → q ds[j].f = false) : p.fs.findIdx? q = some k :=
  Py.idx_some (R.length ▸ hk) (by rw [R.fget (q := q) _ hk]; exact hq) fun j hj hjk => by rw [R.fget (q := q) hj (R.length ▸ hj)]; exact h j _ hjk
set_option maxRecDepth 100000 in
theorem placeR (R : RD w b v ds p) (i : Int) (hl : ds.length ≤ 1000) : Calls Try.prog 33 #[.pointer (some ⟨b, 0, none⟩), .int .i64 i] w fun e w' => e = .returned (.int .i64 (plI (pAt i p.fs))) ∧ w' = w := by
  have HR := Lib.hid R
  obtain ⟨A, cap, hv⟩ := R.row.slice
  subst hv
  have c0 := R.c.1
  clear R
  go_enter Try.func33, Try.ntmps33
  go_wp2_with fail
  go_loopw [5] (fun j wr => ∃ k : Nat, j = .int .i64 (k : Int) ∧ k ≤ ds.length ∧ Hid (∀ j (hj : j < ds.length), j < k → ds[j].f.id ≠ i) ∧ wr = w) (fun j _ => ds.length - (intOf j).toNat)
  case atStart => exact ⟨0, rfl, Nat.zero_le _, Lib.hid (fun j _ hj => absurd hj (Nat.not_lt_zero _)), rfl⟩
  case round =>
    obtain ⟨k, rfl, hk, HN, rfl⟩ := hrel
    by_cases hks : k < ds.length
    · rcases HR.out.row.form with ⟨_, h2⟩ | ⟨g, cap', h2, _, _, _⟩
      · rw [h2] at hks; exact absurd hks (Nat.not_lt_zero _)
      injection h2 with h2 hh h3
      clear hh
      subst h2 h3
      have n0 := HR.out.row.at_ HR.out.fit k hks 0 (by omega)
      rw [D.at0, Nat.add_zero] at n0
      by_cases hid : ds[k].f.id = i
      · have q : (ds[k].f.id == i) = true := beq_iff_eq.2 hid
        have hp : pAt i p.fs = some k := HR.out.idx_some hks (by simpa using hid) fun j hj hjk => by simpa using HN.out j hj hjk
        have HP := Lib.hid hp
        clear hid hp HN
        generalize ds[k].f.id = z at *
        go_wp2_with fail
        go_ret
        rw [HP.out]
        exact ⟨rfl, rfl⟩
      · have q : (ds[k].f.id == i) = false := beq_eq_false_iff_ne.2 hid
        have HN2 : Hid (∀ j (hj : j < ds.length), j < k + 1 → ds[j].f.id ≠ i) := Lib.hid fun j hj hjk => by
          rcases Nat.lt_or_ge j k with h1 | h1
          · exact HN.out j hj h1
          · have : j = k := by omega
            subst this; exact hid
        clear hid HN
        generalize ds[k].f.id = z at *
        go_wp2_with fail
        go_roundw
        case rel => exact ⟨k + 1, by go_num, by omega, HN2, trivial⟩
        case measure => simp [intOf]; omega
    · have hke : k = ds.length := by omega
      subst hke
      have hp : pAt i p.fs = none := HR.out.idx_none fun j hj => by simpa using HN.out j hj hj
      have HP := Lib.hid hp
      clear hp HN
      go_wp2_with fail
      go_ret
      rw [HP.out]
      exact ⟨rfl, rfl⟩
set_option maxRecDepth 100000 in
theorem whereR (R : RD w b v ds p) (x : Int) (hl : ds.length ≤ 1000) (hw : ∀ d ∈ ds, d.f.who.length ≤ 1000000) : Calls Try.prog 22 #[.pointer (some ⟨b, 0, none⟩), .int .i64 x] w fun e w' => e = .returned (.int .i64 (plI (pWh x p.fs))) ∧ w' = w := by
  have HR := Lib.hid R
  have HW := Lib.hid hw
  obtain ⟨A, cap, hv⟩ := R.row.slice
  subst hv
  have c0 := R.c.1
  clear R hw
  go_enter Try.func22, Try.ntmps22
  go_wp2_with fail
  go_loopw [5, 6] (fun j _ wr => ∃ k : Nat, j = .int .i64 (k : Int) ∧ k ≤ ds.length ∧ Hid (∀ j (hj : j < ds.length), j < k → x ∉ ds[j].f.who) ∧ wr = w) (fun j _ _ => ds.length - (intOf j).toNat)
  case atStart => exact ⟨0, rfl, Nat.zero_le _, Lib.hid (fun j _ hj => absurd hj (Nat.not_lt_zero _)), rfl⟩
  case round =>
    obtain ⟨k, rfl, hk, HN, rfl⟩ := hrel
    by_cases hks : k < ds.length
    · rcases HR.out.row.form with ⟨_, h2⟩ | ⟨g, cap', h2, _, _, _⟩
      · rw [h2] at hks; exact absurd hks (Nat.not_lt_zero _)
      injection h2 with h2 hh h3
      clear hh
      subst h2 h3
      have hme := List.getElem_mem hks
      have n0 := HR.out.row.at_ HR.out.fit k hks 37 (by omega)
      rw [D.at37 _ (HR.out.fit _ hme)] at n0
      have HRow := Lib.hid (HR.out.who _ hme)
      have hwl := HW.out _ hme
      have HNK : Hid (x ∉ ds[k].f.who → ∀ j (hj : j < ds.length), j < k + 1 → x ∉ ds[j].f.who) := Lib.hid fun hx j hj hjk => by
        rcases Nat.lt_or_ge j k with h1 | h1
        · exact HN.out j hj h1
        · have : j = k := by omega
          subst this; exact hx
      have HPK : Hid (x ∈ ds[k].f.who → pWh x p.fs = some k) := Lib.hid fun hx => HR.out.idx_some hks (by simpa using hx) fun j hj hjk => by simpa using HN.out j hj hjk
      clear hme HN
      generalize ds[k].f.who = U at *
      generalize ds[k].v = uv at *
      obtain ⟨B, c2, hv2, -, -⟩ := own_rd HRow.out
      subst hv2
      go_wp2_with fail
      go_loopw [6] (fun j wq => ∃ m : Nat, j = .int .i64 (m : Int) ∧ m ≤ U.length ∧ Hid (∀ y ∈ U.take m, y ≠ x) ∧ wq = wr) (fun j _ => U.length - (intOf j).toNat)
      case atStart => exact ⟨0, rfl, Nat.zero_le _, Lib.hid (fun y hy => by cases hy), rfl⟩
      case round =>
        obtain ⟨m, rfl, hm, HM, rfl⟩ := hrel
        by_cases hms : m < U.length
        · obtain ⟨g2, c3, h2, _⟩ := HRow.out.form (fun e => by rw [e] at hms; exact absurd hms (Nat.not_lt_zero _))
          injection h2 with h2 hh h3
          clear hh
          subst h2 h3
          have n1 := HRow.out.at_ m hms
          have HU := Lib.hid (List.getElem_mem hms)
          have HTK : Hid (U.take (m + 1) = U.take m ++ [U[m]]) := Lib.hid (List.take_succ_eq_append_getElem hms)
          generalize U[m] = z at *
          by_cases hz : z = x
          · have q : (z == x) = true := beq_iff_eq.2 hz
            have HP : Hid (pWh x p.fs = some k) := Lib.hid (HPK.out (hz ▸ HU.out))
            clear hz HU HTK HPK HNK HM
            go_wp2_with fail
            go_ret
            rw [HP.out]
            exact ⟨rfl, rfl⟩
          · have q : (z == x) = false := beq_eq_false_iff_ne.2 hz
            have HM2 : Hid (∀ y ∈ U.take (m + 1), y ≠ x) := Lib.hid fun y hy => by
              rw [HTK.out] at hy
              rcases List.mem_append.1 hy with hy | hy
              · exact HM.out y hy
              · rw [List.mem_singleton.1 hy]; exact hz
            clear hz HU HTK HM
            go_wp2_with fail
            go_roundw
            case rel => exact ⟨m + 1, by go_num, by omega, HM2, trivial⟩
            case measure => simp [intOf]; omega
        · have hme : m = U.length := by omega
          subst hme
          have HN2 := Lib.hid (HNK.out fun hx => HM.out x (by rw [List.take_length]; exact hx) rfl)
          clear HM HNK HPK
          go_wp2_with fail
          go_roundw
          case rel => exact ⟨k + 1, by go_num, by omega, HN2, trivial⟩
          case measure => simp [intOf]; omega
    · have hke : k = ds.length := by omega
      subst hke
      have hp : pWh x p.fs = none := HR.out.idx_none fun j hj => by simpa using HN.out j hj hj
      have HP := Lib.hid hp
      clear hp HN
      go_wp2_with fail
      go_ret
      rw [HP.out]
      exact ⟨rfl, rfl⟩
set_option maxRecDepth 100000 in
theorem findR (R : RD w b v ds p) (k : Ky) (hkd : k.dig.length = 32) (hl : ds.length ≤ 1000) : Calls Try.prog 21 #[.pointer (some ⟨b, 0, none⟩), .agg k.cells.toArray] w fun e w' => e = .returned (.int .i64 (plI (pKey k p.fs))) ∧ Reg.Ext w w' := by
  have HKD := Lib.hid hkd
  have hb1 := boxK w k
  have hx1 := Reg.Ext.alloc w (Obj.cells k.cells.toArray 33)
  obtain ⟨A, cap, hv⟩ := R.row.slice
  subst hv
  have HR := Lib.hid (R.ext hx1)
  have HX := Lib.hid hx1
  clear R hkd hx1
  go_enter Try.func21, Try.ntmps21
  go_upto_region 1 with (fail)
  generalize w.alloc (Obj.cells k.cells.toArray 33) = w1 at *
  generalize w.heap.size = g1 at *
  have HB := Lib.hid hb1
  clear hb1
  go_wp2_with fail
  go_loopw [5] (fun j wr => ∃ m : Nat, j = .int .i64 (m : Int) ∧ m ≤ ds.length ∧ Hid (∀ j (hj : j < ds.length), j < m → ds[j].f.key ≠ k) ∧ Hid (Reg.Ext w1 wr)) (fun j _ => ds.length - (intOf j).toNat)
  case atStart => exact ⟨0, rfl, Nat.zero_le _, Lib.hid (fun j _ hj => absurd hj (Nat.not_lt_zero _)), Lib.hid (Reg.Ext.refl _)⟩
  case round =>
    obtain ⟨m, rfl, hm, HN, HXr⟩ := hrel
    have c0 := (HR.out.ext HXr.out).c.1
    by_cases hms : m < ds.length
    · rcases HR.out.row.form with ⟨_, h2⟩ | ⟨g, cap', h2, _, _, _⟩
      · rw [h2] at hms; exact absurd hms (Nat.not_lt_zero _)
      injection h2 with h2 hh h3
      clear hh
      subst h2 h3
      have hme := List.getElem_mem hms
      have HRk : Hid (wr.rangeAt g (m * 38 + 1) ds[m].f.key.cells) := Lib.hid fun j u hj => by
        have h1 := (HR.out.ext HXr.out).row.range HR.out.fit m hms (1 + j) u (by
          unfold D.cells
          rw [Nat.add_comm, List.getElem?_cons_succ, List.getElem?_append_left (List.getElem?_eq_some_iff.1 hj).1]
          exact hj)
        rw [← Nat.add_assoc] at h1
        exact h1
      have HFD := Lib.hid (HR.out.fit _ hme)
      have HNK : Hid (ds[m].f.key ≠ k → ∀ j (hj : j < ds.length), j < m + 1 → ds[j].f.key ≠ k) := Lib.hid fun hx j hj hjk => by
        rcases Nat.lt_or_ge j m with h1 | h1
        · exact HN.out j hj h1
        · have : j = m := by omega
          subst this; exact hx
      have HPK : Hid (ds[m].f.key = k → pKey k p.fs = some m) := Lib.hid fun hx => HR.out.idx_some hms (by simpa using hx) fun j hj hjk => by simpa using HN.out j hj hjk
      clear hme HN
      generalize ds[m].f.key = k2 at *
      go_upto_region 4 with (fail)
      refine Ordl.begins (S := fun w' => Reg.Ext (wr).drew w') (z := 99) (by kernel_rfl) ?_
      refine Ordl.Bx.out (?_ : Ordl.Bx (Ordl.Any _ _ _ _ _ _ _ _ _ _))
      have X0 : Reg.Ext (wr).drew (wr).drew := Reg.Ext.refl _
      have HXd := Lib.hid (HXr.out.trans (Reg.Ext.drew wr))
      have HRd : Hid (wr.drew.rangeAt g (m * 38 + 1) k2.cells) := Lib.hid (rng_ext HRk.out (Reg.Ext.drew wr))
      have c1 := (Reg.Ext.drew wr).at_ c0
      clear c0 HRk HXr
      generalize wr.drew = w2 at *
      refine Ordl.take (i := 0) (v := .pointer (some ⟨b, 0, none⟩)) rfl (by kernel_rfl) (by kernel_rfl) (by kernel_rfl) (by kernel_rfl) (fun _ _ _ h => h) (.inl ⟨by kernel_rfl, fun w _ => by as_aux_lemma => kernel_rfl⟩) X0 ?_
      simp only [List.getElem_toArray, List.getElem_cons_succ, List.getElem_cons_zero, Act.put, Act.eval, List.setIfInBounds_toArray, List.set_cons_zero, List.set_cons_succ, Nat.reduceAdd, Array.getD_eq_getD_getElem?, List.getElem?_toArray, List.getElem?_cons_succ, List.getElem?_cons_zero, Option.getD_some]
      refine Ordl.take (i := 1) (v := .pointer (some ⟨b, 0, none⟩)) rfl (by kernel_rfl) (by kernel_rfl) (by kernel_rfl) (by kernel_rfl) (fun _ _ _ h => h) (.inl ⟨by kernel_rfl, fun w _ => by as_aux_lemma => kernel_rfl⟩) X0 ?_
      simp only [List.getElem_toArray, List.getElem_cons_succ, List.getElem_cons_zero, Act.put, Act.eval, List.setIfInBounds_toArray, List.set_cons_zero, List.set_cons_succ, Nat.reduceAdd, Array.getD_eq_getD_getElem?, List.getElem?_toArray, List.getElem?_cons_succ, List.getElem?_cons_zero, Option.getD_some]
      refine Ordl.take (i := 2) (v := .pointer (some ⟨b, 0, none⟩)) rfl (by kernel_rfl) (by kernel_rfl) (by kernel_rfl) (by kernel_rfl) (fun _ _ _ h => h) (.inl ⟨by kernel_rfl, fun w _ => by as_aux_lemma => kernel_rfl⟩) X0 ?_
      simp only [List.getElem_toArray, List.getElem_cons_succ, List.getElem_cons_zero, Act.put, Act.eval, List.setIfInBounds_toArray, List.set_cons_zero, List.set_cons_succ, Nat.reduceAdd, Array.getD_eq_getD_getElem?, List.getElem?_toArray, List.getElem?_cons_succ, List.getElem?_cons_zero, Option.getD_some]
      refine Ordl.take (i := 3) (v := .slice (some ⟨g, 0, none⟩) ds.length cap) rfl (by kernel_rfl) (by kernel_rfl) (by kernel_rfl) (by kernel_rfl) (fun _ _ _ h => h) (yields_load1 (by kernel_rfl) 44 (.tmp 17) rfl ⟨b, 0, none⟩ (by kernel_rfl) (.slice (some ⟨g, 0, none⟩) ds.length cap) _ Try.underlying44 rfl (fun w h => h.at_ c1)) X0 ?_
      simp only [List.getElem_toArray, List.getElem_cons_succ, List.getElem_cons_zero, Act.put, Act.eval, List.setIfInBounds_toArray, List.set_cons_zero, List.set_cons_succ, Nat.reduceAdd, Array.getD_eq_getD_getElem?, List.getElem?_toArray, List.getElem?_cons_succ, List.getElem?_cons_zero, Option.getD_some]
      refine Ordl.take (i := 4) (v := .int .i64 (m : Int)) rfl (by kernel_rfl) (by kernel_rfl) (by kernel_rfl) (by kernel_rfl) (fun _ _ _ h => h) (.inl ⟨by kernel_rfl, fun w _ => by as_aux_lemma => kernel_rfl⟩) X0 ?_
      simp only [List.getElem_toArray, List.getElem_cons_succ, List.getElem_cons_zero, Act.put, Act.eval, List.setIfInBounds_toArray, List.set_cons_zero, List.set_cons_succ, Nat.reduceAdd, Array.getD_eq_getD_getElem?, List.getElem?_toArray, List.getElem?_cons_succ, List.getElem?_cons_zero, Option.getD_some]
      refine Ordl.take (i := 5) (v := .pointer (some ⟨g, m * 38, none⟩)) rfl (by kernel_rfl) (by kernel_rfl) (by kernel_rfl) (by kernel_rfl) (fun _ _ _ h => h) (.inl ⟨by kernel_rfl, fun w hS => exec_idxF (cap := cap) (.tmp 18) (.tmp 19) rfl (by kernel_rfl) (by kernel_rfl) hms w⟩) X0 ?_
      simp only [List.getElem_toArray, List.getElem_cons_succ, List.getElem_cons_zero, Act.put, Act.eval, List.setIfInBounds_toArray, List.set_cons_zero, List.set_cons_succ, Nat.reduceAdd, Array.getD_eq_getD_getElem?, List.getElem?_toArray, List.getElem?_cons_succ, List.getElem?_cons_zero, Option.getD_some]
      refine Ordl.take (i := 6) (v := .pointer (some ⟨g, m * 38 + 1, none⟩)) rfl (by kernel_rfl) (by kernel_rfl) (by kernel_rfl) (by kernel_rfl) (fun _ _ _ h => h) (.inl ⟨by kernel_rfl, fun w _ => by as_aux_lemma => kernel_rfl⟩) X0 ?_
      simp only [List.getElem_toArray, List.getElem_cons_succ, List.getElem_cons_zero, Act.put, Act.eval, List.setIfInBounds_toArray, List.set_cons_zero, List.set_cons_succ, Nat.reduceAdd, Array.getD_eq_getD_getElem?, List.getElem?_toArray, List.getElem?_cons_succ, List.getElem?_cons_zero, Option.getD_some]
      refine Ordl.take (i := 7) (v := .agg (k2).cells.toArray) rfl (by kernel_rfl) (by kernel_rfl) (by kernel_rfl) (by kernel_rfl) (fun _ _ _ h => h) (yieldsIf_load_mid (by kernel_rfl) 33 (.tmp 21) rfl g (m * 38 + 1) (by kernel_rfl) (k2).cells _ (fun w h => rng_ext HRd.out h) undK rfl (by rw [(k2).len HFD.out]; exact sizeK)) X0 ?_
      simp only [List.getElem_toArray, List.getElem_cons_succ, List.getElem_cons_zero, Act.put, Act.eval, List.setIfInBounds_toArray, List.set_cons_zero, List.set_cons_succ, Nat.reduceAdd, Array.getD_eq_getD_getElem?, List.getElem?_toArray, List.getElem?_cons_succ, List.getElem?_cons_zero, Option.getD_some]
      refine Ordl.take (i := 8) (v := .agg (k).cells.toArray) rfl (by kernel_rfl) (by kernel_rfl) (by kernel_rfl) (by kernel_rfl) (fun _ _ _ h => h) (yieldsIf_load_mid (by kernel_rfl) 33 (.tmp 3) rfl g1 (0) (by kernel_rfl) (k).cells _ (fun w h => rng_ext (blk_rng HB.out) (HXd.out.trans h)) undK rfl (by rw [(k).len HKD.out]; exact sizeK)) X0 ?_
      simp only [List.getElem_toArray, List.getElem_cons_succ, List.getElem_cons_zero, Act.put, Act.eval, List.setIfInBounds_toArray, List.set_cons_zero, List.set_cons_succ, Nat.reduceAdd, Array.getD_eq_getD_getElem?, List.getElem?_toArray, List.getElem?_cons_succ, List.getElem?_cons_zero, Option.getD_some]
      refine Ordl.take (i := 9) (v := .bool (decide (k2 = k))) rfl (by kernel_rfl) (by kernel_rfl) (by kernel_rfl) (by kernel_rfl) (fun _ _ _ h => h) (.inl ⟨by kernel_rfl, fun w hS => exec_eqlK k2 k HFD.out HKD.out (.tmp 22) (.tmp 23) rfl (by kernel_rfl) (by kernel_rfl)⟩) X0 ?_
      simp only [List.getElem_toArray, List.getElem_cons_succ, List.getElem_cons_zero, Act.put, Act.eval, List.setIfInBounds_toArray, List.set_cons_zero, List.set_cons_succ, Nat.reduceAdd, Array.getD_eq_getD_getElem?, List.getElem?_toArray, List.getElem?_cons_succ, List.getElem?_cons_zero, Option.getD_some]
      refine Ordl.done (by kernel_rfl) ?_ _
      by_cases hz : k2 = k
      · have q : decide (k2 = k) = true := decide_eq_true hz
        have HP : Hid (pKey k p.fs = some m) := Lib.hid (HPK.out hz)
        clear hz HPK HNK
        rw [q]
        go_wp2_with fail
        go_ret
        rw [HP.out]
        exact ⟨rfl, HX.out.trans HXd.out⟩
      · have q : decide (k2 = k) = false := decide_eq_false hz
        have HN2 := Lib.hid (HNK.out hz)
        clear hz HPK HNK
        rw [q]
        go_wp2_with fail
        go_roundw
        case rel => exact ⟨m + 1, by go_num, by omega, HN2, HXd⟩
        case measure => simp [intOf]; omega
    · have hke : m = ds.length := by omega
      subst hke
      have hp : pKey k p.fs = none := HR.out.idx_none fun j hj => by simpa using HN.out j hj hj
      have HP := Lib.hid hp
      clear hp HN
      go_wp2_with fail
      go_ret
      rw [HP.out]
      exact ⟨rfl, HX.out.trans HXr.out⟩
end
end Py
end Go.Proofs.Ytjkhfnfimicffaa

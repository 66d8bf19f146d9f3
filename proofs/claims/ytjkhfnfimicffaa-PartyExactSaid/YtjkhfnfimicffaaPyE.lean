/- Flights: Where, Find, Len, over. -/
import Derived.Test.YtjkhfnfimicffaaPyD
set_option linter.unusedSimpArgs false
set_option linter.unusedVariables false
set_option linter.unusedSectionVars false
namespace Go.Proofs.Ytjkhfnfimicffaa
open Go Go.RowKit
namespace Py

section
variable {w : World} {h : Hd} {es : List E} {kf : Ky → Option Int} {wf : Int → Option Int} {most last : Int} {n : Nat}
theorem where_any (P : Pt w h es kf wf most last n) (x : Int) (hx : wfI x) : Calls Try.prog 14 #[.pointer (some ⟨h.d, 0, none⟩), .int .i64 x] w fun e w' => e = .returned (.tuple #[.int .i64 ((wf x).getD 0), .bool (wf x).isSome]) ∧ w' = w := by
  have hl := P.lookW x hx
  obtain ⟨c0, c1, c2, c3, c4⟩ := P.c
  clear P hx
  go_enter Try.func14, Try.ntmps14
  go_wp2_with fail
  go_ret2
  exact ⟨rfl, rfl⟩
theorem len_any (P : Pt w h es kf wf most last n) : Calls Try.prog 13 #[.pointer (some ⟨h.d, 0, none⟩)] w fun e w' => e = .returned (.int .i64 (es.length : Int)) ∧ w' = w := by
  obtain ⟨c0, c1, c2, c3, c4⟩ := P.c
  obtain ⟨D, hm0, hMD⟩ := P.mf
  have HM := Lib.hid hm0
  have HZ := Lib.hid hMD.1
  clear P hm0 hMD
  go_enter Try.func13, Try.ntmps13
  go_wp2_with (at_len; refine wpList_len_own _ rfl _ _ rfl _ _ Try.underlying59 _ _ _ D rfl HM.out ?_; rw [HZ.out])
  go_ret
  exact ⟨rfl, rfl⟩
theorem find_any (P : Pt w h es kf wf most last n) (k : Ky) (hk : k.Fine) : Calls Try.prog 15 #[.pointer (some ⟨h.d, 0, none⟩), .agg k.cells.toArray] w fun e w' => e = .returned (.tuple #[.int .i64 ((kf k).getD 0), .bool (kf k).isSome]) ∧ Reg.Ext w w' := by
  have HK := Lib.hid hk
  clear hk
  have hb1 := boxK w k
  have hx1 := Reg.Ext.alloc w (Obj.cells k.cells.toArray 33)
  go_enter Try.func15, Try.ntmps15
  go_upto_region 3 with (fail)
  generalize w.alloc (Obj.cells k.cells.toArray 33) = w1 at *
  generalize hg1 : w.heap.size = g1 at *
  have HP := Lib.hid ((P.ext hx1).ext (Reg.Ext.drew w1))
  have HB := Lib.hid (hb1.drew)
  have HX := Lib.hid (hx1.trans (Reg.Ext.drew w1))
  clear P hb1 hx1
  obtain ⟨c0, c1, c2, c3, c4⟩ := HP.out.c
  generalize hv : kf k = o
  have HV := Lib.hid hv
  clear hv
  refine Ordl.begins (S := fun w' => Reg.Ext (w1).drew w') (z := 99) (by kernel_rfl) ?_
  refine Ordl.Bx.out (?_ : Ordl.Bx (Ordl.Any _ _ _ _ _ _ _ _ _ _))
  have X0 : Reg.Ext (w1).drew (w1).drew := Reg.Ext.refl _
  generalize w1.drew = w2 at *
  refine Ordl.take (i := 0) (v := .pointer (some ⟨h.d, 0, none⟩)) rfl (by kernel_rfl) (by kernel_rfl) (by kernel_rfl) (by kernel_rfl) (fun _ _ _ h => h) (.inl ⟨by kernel_rfl, fun w _ => by as_aux_lemma => kernel_rfl⟩) X0 ?_
  simp only [List.getElem_toArray, List.getElem_cons_succ, List.getElem_cons_zero, Act.put, Act.eval, List.setIfInBounds_toArray, List.set_cons_zero, List.set_cons_succ, Nat.reduceAdd, Array.getD_eq_getD_getElem?, List.getElem?_toArray, List.getElem?_cons_succ, List.getElem?_cons_zero, Option.getD_some]
  refine Ordl.take (i := 1) (v := .pointer (some ⟨h.d, 0, none⟩)) rfl (by kernel_rfl) (by kernel_rfl) (by kernel_rfl) (by kernel_rfl) (fun _ _ _ h => h) (.inl ⟨by kernel_rfl, fun w _ => by as_aux_lemma => kernel_rfl⟩) X0 ?_
  simp only [List.getElem_toArray, List.getElem_cons_succ, List.getElem_cons_zero, Act.put, Act.eval, List.setIfInBounds_toArray, List.set_cons_zero, List.set_cons_succ, Nat.reduceAdd, Array.getD_eq_getD_getElem?, List.getElem?_toArray, List.getElem?_cons_succ, List.getElem?_cons_zero, Option.getD_some]
  refine Ordl.take (i := 2) (v := .pointer (some ⟨h.d, 1, none⟩)) rfl (by kernel_rfl) (by kernel_rfl) (by kernel_rfl) (by kernel_rfl) (fun _ _ _ h => h) (.inl ⟨by kernel_rfl, fun w _ => by as_aux_lemma => kernel_rfl⟩) X0 ?_
  simp only [List.getElem_toArray, List.getElem_cons_succ, List.getElem_cons_zero, Act.put, Act.eval, List.setIfInBounds_toArray, List.set_cons_zero, List.set_cons_succ, Nat.reduceAdd, Array.getD_eq_getD_getElem?, List.getElem?_toArray, List.getElem?_cons_succ, List.getElem?_cons_zero, Option.getD_some]
  refine Ordl.take (i := 3) (v := .map (some h.km)) rfl (by kernel_rfl) (by kernel_rfl) (by kernel_rfl) (by kernel_rfl) (fun _ _ _ h => h) (yields_load1 (by kernel_rfl) 60 (.tmp 13) rfl ⟨h.d, 1, none⟩ (by kernel_rfl) (.map (some h.km)) _ Try.underlying60 rfl (fun w h => h.at_ c1)) X0 ?_
  simp only [List.getElem_toArray, List.getElem_cons_succ, List.getElem_cons_zero, Act.put, Act.eval, List.setIfInBounds_toArray, List.set_cons_zero, List.set_cons_succ, Nat.reduceAdd, Array.getD_eq_getD_getElem?, List.getElem?_toArray, List.getElem?_cons_succ, List.getElem?_cons_zero, Option.getD_some]
  refine Ordl.take (i := 4) (v := .agg k.cells.toArray) rfl (by kernel_rfl) (by kernel_rfl) (by kernel_rfl) (by kernel_rfl) (fun _ _ _ h => h) (yieldsIf_load_mid (by kernel_rfl) 33 (.tmp 3) rfl g1 0 (by kernel_rfl) k.cells _ (fun w h => rng_ext (blk_rng HB.out) h) undK rfl (by rw [k.len HK.out.dig]; exact sizeK)) X0 ?_
  simp only [List.getElem_toArray, List.getElem_cons_succ, List.getElem_cons_zero, Act.put, Act.eval, List.setIfInBounds_toArray, List.set_cons_zero, List.set_cons_succ, Nat.reduceAdd, Array.getD_eq_getD_getElem?, List.getElem?_toArray, List.getElem?_cons_succ, List.getElem?_cons_zero, Option.getD_some]
  refine Ordl.take (i := 5) (v := .tuple #[.int .i64 (o.getD 0), .bool o.isSome]) rfl (by kernel_rfl) (by kernel_rfl) (by kernel_rfl) (by kernel_rfl) (fun _ _ _ h => h) (.inl ⟨by kernel_rfl, fun w hS => exec_lookup 60 (.tmp 14) (.tmp 15) true rfl _ _ _ (by kernel_rfl) (by kernel_rfl) (by rw [← HV.out]; exact (HP.out.ext hS).lookK k HK.out)⟩) X0 ?_
  simp only [List.getElem_toArray, List.getElem_cons_succ, List.getElem_cons_zero, Act.put, Act.eval, List.setIfInBounds_toArray, List.set_cons_zero, List.set_cons_succ, Nat.reduceAdd, Array.getD_eq_getD_getElem?, List.getElem?_toArray, List.getElem?_cons_succ, List.getElem?_cons_zero, Option.getD_some]
  refine Ordl.take (i := 6) (v := .tuple #[.int .i64 (o.getD 0), .bool o.isSome]) rfl (by kernel_rfl) (by kernel_rfl) (by kernel_rfl) (by kernel_rfl) (fun _ _ _ h => h) (.inl ⟨by kernel_rfl, fun w _ => by as_aux_lemma => kernel_rfl⟩) X0 ?_
  simp only [List.getElem_toArray, List.getElem_cons_succ, List.getElem_cons_zero, Act.put, Act.eval, List.setIfInBounds_toArray, List.set_cons_zero, List.set_cons_succ, Nat.reduceAdd, Array.getD_eq_getD_getElem?, List.getElem?_toArray, List.getElem?_cons_succ, List.getElem?_cons_zero, Option.getD_some]
  refine Ordl.take (i := 7) (v := .int .i64 (o.getD 0)) rfl (by kernel_rfl) (by kernel_rfl) (by kernel_rfl) (by kernel_rfl) (fun _ _ _ h => h) (.inl ⟨by kernel_rfl, fun w _ => by as_aux_lemma => kernel_rfl⟩) X0 ?_
  simp only [List.getElem_toArray, List.getElem_cons_succ, List.getElem_cons_zero, Act.put, Act.eval, List.setIfInBounds_toArray, List.set_cons_zero, List.set_cons_succ, Nat.reduceAdd, Array.getD_eq_getD_getElem?, List.getElem?_toArray, List.getElem?_cons_succ, List.getElem?_cons_zero, Option.getD_some]
  refine Ordl.take (i := 8) (v := .bool o.isSome) rfl (by kernel_rfl) (by kernel_rfl) (by kernel_rfl) (by kernel_rfl) (fun _ _ _ h => h) (.inl ⟨by kernel_rfl, fun w _ => by as_aux_lemma => kernel_rfl⟩) X0 ?_
  simp only [List.getElem_toArray, List.getElem_cons_succ, List.getElem_cons_zero, Act.put, Act.eval, List.setIfInBounds_toArray, List.set_cons_zero, List.set_cons_succ, Nat.reduceAdd, Array.getD_eq_getD_getElem?, List.getElem?_toArray, List.getElem?_cons_succ, List.getElem?_cons_zero, Option.getD_some]
  refine Ordl.take (i := 9) (v := .int .i64 (o.getD 0)) rfl (by kernel_rfl) (by kernel_rfl) (by kernel_rfl) (by kernel_rfl) (fun _ _ _ h => h) (.inl ⟨by kernel_rfl, fun w _ => by as_aux_lemma => kernel_rfl⟩) X0 ?_
  simp only [List.getElem_toArray, List.getElem_cons_succ, List.getElem_cons_zero, Act.put, Act.eval, List.setIfInBounds_toArray, List.set_cons_zero, List.set_cons_succ, Nat.reduceAdd, Array.getD_eq_getD_getElem?, List.getElem?_toArray, List.getElem?_cons_succ, List.getElem?_cons_zero, Option.getD_some]
  refine Ordl.take (i := 10) (v := .bool o.isSome) rfl (by kernel_rfl) (by kernel_rfl) (by kernel_rfl) (by kernel_rfl) (fun _ _ _ h => h) (.inl ⟨by kernel_rfl, fun w _ => by as_aux_lemma => kernel_rfl⟩) X0 ?_
  simp only [List.getElem_toArray, List.getElem_cons_succ, List.getElem_cons_zero, Act.put, Act.eval, List.setIfInBounds_toArray, List.set_cons_zero, List.set_cons_succ, Nat.reduceAdd, Array.getD_eq_getD_getElem?, List.getElem?_toArray, List.getElem?_cons_succ, List.getElem?_cons_zero, Option.getD_some]
  refine Ordl.done (by kernel_rfl) ?_ _
  go_wp2_with fail
  go_ret2
  exact ⟨by rw [HV.out]; rfl, HX.out⟩
set_option maxHeartbeats 1000000 in
/-- a flight is over -/
theorem over_any (P : Pt w h es kf wf most last n) {e : E} (he : e ∈ es) (hk : e.f.key.Fine) (hi : wfI e.f.id) : Calls Try.prog 27 #[.pointer (some ⟨h.d, 0, none⟩), .int .i64 e.f.id] w
    (ResT h w es (.tuple #[]) (fun c => if c = e.f.key then none else kf c) wf most last n (fun es1 => es1 = delE e.f.id es)) := by
  have HP := Lib.hid (P.ext (Reg.Ext.drew w))
  have HB : Hid (w.drew.rangeAt e.g 0 e.f.key.cells) := Lib.hid (rng_ext (rng_left (blk_rng (P.file e he))) (Reg.Ext.drew w))
  have HG : Hid (get e.f.id es = some e) := Lib.hid (get_of P.up he)
  have HE := Lib.hid he
  have HK := Lib.hid hk
  have HI := Lib.hid hi
  clear P he hk hi
  obtain ⟨c0, c1, c2, c3, c4⟩ := HP.out.c
  obtain ⟨g, hg⟩ : ∃ g, e.g = g := ⟨_, rfl⟩
  obtain ⟨k, hkk⟩ : ∃ k, e.f.key = k := ⟨_, rfl⟩
  obtain ⟨i, hii⟩ : ∃ i, e.f.id = i := ⟨_, rfl⟩
  rw [hg, hkk] at HB
  rw [hkk] at HK ⊢
  rw [hii] at HG HI ⊢
  have EG := Lib.hid hg
  have EI := Lib.hid hii
  clear hg hkk hii
  go_enter Try.func27, Try.ntmps27
  go_upto_region 0 with (fail)
  refine Ordl.begins (S := fun w' => But h.km w.drew w') (z := 99) (by kernel_rfl) ?_
  refine Ordl.Bx.out (?_ : Ordl.Bx (Ordl.Any _ _ _ _ _ _ _ _ _ _))
  have X0 : But h.km w.drew w.drew := But.refl _ _
  have HT : Hid (Turn h w es w.drew es) := Lib.hid (Turn.ext (Reg.Ext.drew w))
  generalize w.drew = w2 at *
  obtain ⟨n1, n2, n3, n4, n5, n6⟩ := HP.out.ne
  have ng : g ≠ h.km := by rw [← EG.out]; exact HP.out.far (by simp [base]) HE.out (mem_blocks.2 (.inl rfl))
  obtain ⟨D0, hm0, hMD0⟩ := HP.out.mf
  have HM0 := Lib.hid hm0
  have HMD0 := Lib.hid hMD0
  clear hm0 hMD0
  refine Ordl.take (i := 0) (v := .pointer (some ⟨h.d, 0, none⟩)) rfl (by kernel_rfl) (by kernel_rfl) (by kernel_rfl) (by kernel_rfl) (fun _ _ _ h => h) (.inl ⟨by kernel_rfl, fun w _ => by as_aux_lemma => kernel_rfl⟩) X0 ?_
  simp only [List.getElem_toArray, List.getElem_cons_succ, List.getElem_cons_zero, Act.put, Act.eval, List.setIfInBounds_toArray, List.set_cons_zero, List.set_cons_succ, Nat.reduceAdd, Array.getD_eq_getD_getElem?, List.getElem?_toArray, List.getElem?_cons_succ, List.getElem?_cons_zero, Option.getD_some]
  refine Ordl.take (i := 1) (v := .pointer (some ⟨h.d, 0, none⟩)) rfl (by kernel_rfl) (by kernel_rfl) (by kernel_rfl) (by kernel_rfl) (fun _ _ _ h => h) (.inl ⟨by kernel_rfl, fun w _ => by as_aux_lemma => kernel_rfl⟩) X0 ?_
  simp only [List.getElem_toArray, List.getElem_cons_succ, List.getElem_cons_zero, Act.put, Act.eval, List.setIfInBounds_toArray, List.set_cons_zero, List.set_cons_succ, Nat.reduceAdd, Array.getD_eq_getD_getElem?, List.getElem?_toArray, List.getElem?_cons_succ, List.getElem?_cons_zero, Option.getD_some]
  refine Ordl.take (i := 2) (v := .pointer (some ⟨h.d, 1, none⟩)) rfl (by kernel_rfl) (by kernel_rfl) (by kernel_rfl) (by kernel_rfl) (fun _ _ _ h => h) (.inl ⟨by kernel_rfl, fun w _ => by as_aux_lemma => kernel_rfl⟩) X0 ?_
  simp only [List.getElem_toArray, List.getElem_cons_succ, List.getElem_cons_zero, Act.put, Act.eval, List.setIfInBounds_toArray, List.set_cons_zero, List.set_cons_succ, Nat.reduceAdd, Array.getD_eq_getD_getElem?, List.getElem?_toArray, List.getElem?_cons_succ, List.getElem?_cons_zero, Option.getD_some]
  refine Ordl.take (i := 3) (v := .map (some h.km)) rfl (by kernel_rfl) (by kernel_rfl) (by kernel_rfl) (by kernel_rfl) (fun _ _ _ h => h) (yields_load1 (by kernel_rfl) 60 (.tmp 6) rfl ⟨h.d, 1, none⟩ (by kernel_rfl) (.map (some h.km)) _ Try.underlying60 rfl (fun w h => h.at_ c1 n2)) X0 ?_
  simp only [List.getElem_toArray, List.getElem_cons_succ, List.getElem_cons_zero, Act.put, Act.eval, List.setIfInBounds_toArray, List.set_cons_zero, List.set_cons_succ, Nat.reduceAdd, Array.getD_eq_getD_getElem?, List.getElem?_toArray, List.getElem?_cons_succ, List.getElem?_cons_zero, Option.getD_some]
  refine Ordl.take (i := 4) (v := .pointer (some ⟨h.d, 0, none⟩)) rfl (by kernel_rfl) (by kernel_rfl) (by kernel_rfl) (by kernel_rfl) (fun _ _ _ h => h) (.inl ⟨by kernel_rfl, fun w _ => by as_aux_lemma => kernel_rfl⟩) X0 ?_
  simp only [List.getElem_toArray, List.getElem_cons_succ, List.getElem_cons_zero, Act.put, Act.eval, List.setIfInBounds_toArray, List.set_cons_zero, List.set_cons_succ, Nat.reduceAdd, Array.getD_eq_getD_getElem?, List.getElem?_toArray, List.getElem?_cons_succ, List.getElem?_cons_zero, Option.getD_some]
  refine Ordl.take (i := 5) (v := .pointer (some ⟨h.d, 0, none⟩)) rfl (by kernel_rfl) (by kernel_rfl) (by kernel_rfl) (by kernel_rfl) (fun _ _ _ h => h) (.inl ⟨by kernel_rfl, fun w _ => by as_aux_lemma => kernel_rfl⟩) X0 ?_
  simp only [List.getElem_toArray, List.getElem_cons_succ, List.getElem_cons_zero, Act.put, Act.eval, List.setIfInBounds_toArray, List.set_cons_zero, List.set_cons_succ, Nat.reduceAdd, Array.getD_eq_getD_getElem?, List.getElem?_toArray, List.getElem?_cons_succ, List.getElem?_cons_zero, Option.getD_some]
  refine Ordl.take (i := 6) (v := .pointer (some ⟨h.d, 0, none⟩)) rfl (by kernel_rfl) (by kernel_rfl) (by kernel_rfl) (by kernel_rfl) (fun _ _ _ h => h) (.inl ⟨by kernel_rfl, fun w _ => by as_aux_lemma => kernel_rfl⟩) X0 ?_
  simp only [List.getElem_toArray, List.getElem_cons_succ, List.getElem_cons_zero, Act.put, Act.eval, List.setIfInBounds_toArray, List.set_cons_zero, List.set_cons_succ, Nat.reduceAdd, Array.getD_eq_getD_getElem?, List.getElem?_toArray, List.getElem?_cons_succ, List.getElem?_cons_zero, Option.getD_some]
  refine Ordl.take (i := 7) (v := .map (some h.fm)) rfl (by kernel_rfl) (by kernel_rfl) (by kernel_rfl) (by kernel_rfl) (fun _ _ _ h => h) (yields_load1 (by kernel_rfl) 59 (.tmp 10) rfl ⟨h.d, 0, none⟩ (by kernel_rfl) (.map (some h.fm)) _ Try.underlying59 rfl (fun w h => h.at_ c0 n2)) X0 ?_
  simp only [List.getElem_toArray, List.getElem_cons_succ, List.getElem_cons_zero, Act.put, Act.eval, List.setIfInBounds_toArray, List.set_cons_zero, List.set_cons_succ, Nat.reduceAdd, Array.getD_eq_getD_getElem?, List.getElem?_toArray, List.getElem?_cons_succ, List.getElem?_cons_zero, Option.getD_some]
  refine Ordl.take (i := 8) (v := .int .i64 i) rfl (by kernel_rfl) (by kernel_rfl) (by kernel_rfl) (by kernel_rfl) (fun _ _ _ h => h) (.inl ⟨by kernel_rfl, fun w _ => by as_aux_lemma => kernel_rfl⟩) X0 ?_
  simp only [List.getElem_toArray, List.getElem_cons_succ, List.getElem_cons_zero, Act.put, Act.eval, List.setIfInBounds_toArray, List.set_cons_zero, List.set_cons_succ, Nat.reduceAdd, Array.getD_eq_getD_getElem?, List.getElem?_toArray, List.getElem?_cons_succ, List.getElem?_cons_zero, Option.getD_some]
  refine Ordl.take (i := 9) (v := .pointer (some ⟨g, 0, none⟩)) rfl (by kernel_rfl) (by kernel_rfl) (by kernel_rfl) (by kernel_rfl) (fun _ _ _ h => h) (.inl ⟨by kernel_rfl, fun w hS => exec_lookup 59 (.tmp 11) (.tmp 12) false rfl _ _ _ (by kernel_rfl) (by kernel_rfl) (by have := look_fl (map_same HM0.out (hS.block h.fm HM0.out.lt fun e => n4 (by injection e))) HMD0.out i HI.out; rw [HG.out] at this; rw [← EG.out]; exact this)⟩) X0 ?_
  simp only [List.getElem_toArray, List.getElem_cons_succ, List.getElem_cons_zero, Act.put, Act.eval, List.setIfInBounds_toArray, List.set_cons_zero, List.set_cons_succ, Nat.reduceAdd, Array.getD_eq_getD_getElem?, List.getElem?_toArray, List.getElem?_cons_succ, List.getElem?_cons_zero, Option.getD_some]
  refine Ordl.take (i := 10) (v := .pointer (some ⟨g, 0, none⟩)) rfl (by kernel_rfl) (by kernel_rfl) (by kernel_rfl) (by kernel_rfl) (fun _ _ _ h => h) (.inl ⟨by kernel_rfl, fun w _ => by as_aux_lemma => kernel_rfl⟩) X0 ?_
  simp only [List.getElem_toArray, List.getElem_cons_succ, List.getElem_cons_zero, Act.put, Act.eval, List.setIfInBounds_toArray, List.set_cons_zero, List.set_cons_succ, Nat.reduceAdd, Array.getD_eq_getD_getElem?, List.getElem?_toArray, List.getElem?_cons_succ, List.getElem?_cons_zero, Option.getD_some]
  refine Ordl.take (i := 11) (v := .pointer (some ⟨g, 0, none⟩)) rfl (by kernel_rfl) (by kernel_rfl) (by kernel_rfl) (by kernel_rfl) (fun _ _ _ h => h) (.inl ⟨by kernel_rfl, fun w _ => by as_aux_lemma => kernel_rfl⟩) X0 ?_
  simp only [List.getElem_toArray, List.getElem_cons_succ, List.getElem_cons_zero, Act.put, Act.eval, List.setIfInBounds_toArray, List.set_cons_zero, List.set_cons_succ, Nat.reduceAdd, Array.getD_eq_getD_getElem?, List.getElem?_toArray, List.getElem?_cons_succ, List.getElem?_cons_zero, Option.getD_some]
  refine Ordl.take (i := 12) (v := .agg k.cells.toArray) rfl (by kernel_rfl) (by kernel_rfl) (by kernel_rfl) (by kernel_rfl) (fun _ _ _ h => h) (yieldsIf_load_mid (by kernel_rfl) 33 (.tmp 15) rfl g 0 (by kernel_rfl) k.cells _ (fun w h => rng_but HB.out h ng) undK rfl (by rw [k.len HK.out.dig]; exact sizeK)) X0 ?_
  simp only [List.getElem_toArray, List.getElem_cons_succ, List.getElem_cons_zero, Act.put, Act.eval, List.setIfInBounds_toArray, List.set_cons_zero, List.set_cons_succ, Nat.reduceAdd, Array.getD_eq_getD_getElem?, List.getElem?_toArray, List.getElem?_cons_succ, List.getElem?_cons_zero, Option.getD_some]
  refine Ordl.one (i := 13) (by kernel_rfl) rfl ?_
  obtain ⟨D, hm0, hMD⟩ := HP.out.mK
  have HM := Lib.hid hm0
  have HMD := Lib.hid hMD
  clear hm0 hMD
  obtain ⟨l, hl⟩ := k.ok HK.out
  refine ⟨wpList_delete_own _ rfl _ _ 60 33 rfl 3 laidK Try.underlying60 (plainElem Try.prog 3) h.km n D rfl HM.out _ _ rfl hl ?_⟩
  intro w7 hm7 ht7
  have HP7 := Lib.hid (HP.out.setK (Nat.le_refl _) hm7 (HMD.out.del HK.out.dig hl) ht7.grown)
  have HT7 := Lib.hid (HT.out.trans (Turn.but (b := h.km) ht7.grown own_km))
  have X1 := ht7.grown
  clear hm7 ht7 HM HMD HP HT HB HM0 HMD0 n1 n2 n3 n4 n5 n6 ng c0 c1 c2 c3 c4 X0 hl
  obtain ⟨c0, c1, c2, c3, c4⟩ := HP7.out.c
  refine Ordl.Bx.out (?_ : Ordl.Bx _)
  refine Ordl.fin X1 ?_
  refine Ordl.done (by kernel_rfl) ?_ _
  obtain ⟨D, hm0, hMD⟩ := HP7.out.mf
  have HM := Lib.hid hm0
  have HMD := Lib.hid hMD
  clear hm0 hMD
  go_wp2_with (at_delete; refine wpList_delete_own _ rfl _ _ 59 3 rfl _ kun Try.underlying59 ptrR h.fm n D rfl HM.out _ _ rfl (keyI i HI.out) ?_; intro w8 hm8 ht8)
  go_end0
  have hk8 : ∀ j, j < w7.heap.size → j ≠ h.fm → w8.heap[j]? = w7.heap[j]? := fun j hj hne => ht8.grown.block j hj fun e => hne (by injection e)
  refine ⟨rfl, _, by rw [EI.out], HP7.out.drop HE.out HMD.out (HM.out.tidy kun) (by rw [EI.out]; exact hm8) hk8, ?_⟩
  have h1 := HT7.out.trans (Turn.but (b := h.fm) ht8.grown own_fm)
  exact ⟨h1.os, h1.tape, h1.output, h1.size, h1.kept, fun j hj => .inl (own_del hj)⟩
end
end Py
end Go.Proofs.Ytjkhfnfimicffaa

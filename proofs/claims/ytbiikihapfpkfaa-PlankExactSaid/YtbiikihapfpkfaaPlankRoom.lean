/- PlankRoom. -/
import Derived.Test.YtbiikihapfpkfaaPlkA
import Derived.Test.YtbiikihapfpkfaaPlkT
import Derived.Test.YtbiikihapfpkfaaPlkNil
import Derived.Sort.Walk0
set_option linter.unusedSimpArgs false
set_option linter.unusedVariables false
set_option linter.unusedSectionVars false
namespace Go.Proofs.Ytbiikihapfpkfaa
open Go Go.RowKit
namespace Plk
theorem Good.get_ {p : P} (h : Good p) (j : Nat) (hj : j < p.fs.length) : Nmd.get F.name p.fs[j].name p.fs = some p.fs[j] := by
  cases hg : Nmd.get F.name p.fs[j].name p.fs with
  | none => exact absurd rfl (Nmd.get_none hg _ (List.getElem_mem hj))
  | some y => rw [h.up.same y (Nmd.get_mem hg).1 _ (List.getElem_mem hj) (Nmd.get_mem hg).2]
theorem sum_take (fs : List F) (j : Nat) (hj : j < fs.length) : sum (fs.take (j + 1)) = sum (fs.take j) + fs[j].l.length := by
  rw [List.take_succ_eq_append_getElem hj]
  unfold sum
  rw [List.map_append, List.sum_append]
  simp
theorem sum_append (a b : List F) : sum (a ++ b) = sum a + sum b := by
  unfold sum
  rw [List.map_append, List.sum_append]
theorem done_ops (p : P) (a : A) : (p.done a).2.h.ops ≤ p.h.ops + 1 := by
  have hf := fun n => pfind_keep p n
  have hb := fun ns => (begin_keep p.h ns).2.2.2
  unfold P.done
  repeat' split
  · unfold P.append
    rw [hf]
    split
    · exact hb _
    · split <;> exact hb _
  · unfold P.read
    rw [hf]
    split
    · dsimp only; omega
    · split
      · exact hb _
      · split <;> exact hb _
  · unfold P.sync
    rw [hf]
    split <;> exact hb _
  · unfold P.rename
    split
    · exact hb _
    · split
      · exact hb _
      · split
        · exact hb _
        · split <;> exact hb _
  · unfold P.delete
    rw [hf]
    split <;> exact hb _
  · unfold P.create
    repeat' split
    all_goals exact hb _
theorem done_room (p : P) (a : A) : (p.done a).2.h.room = p.h.room := by
  have hf := fun n => pfind_keep p n
  have hb := fun ns => (begin_keep p.h ns).1
  unfold P.done
  repeat' split
  · unfold P.append
    rw [hf]
    split
    · exact hb _
    · split <;> exact hb _
  · unfold P.read
    rw [hf]
    split
    · rfl
    · split
      · exact hb _
      · split <;> exact hb _
  · unfold P.sync
    rw [hf]
    split <;> exact hb _
  · unfold P.rename
    split
    · exact hb _
    · split
      · exact hb _
      · split
        · exact hb _
        · split <;> exact hb _
  · unfold P.delete
    rw [hf]
    split <;> exact hb _
  · unfold P.create
    repeat' split
    all_goals exact hb _
theorem great_of {a : A} (h : a.great = false) : a.s.length ≤ 4096 ∧ a.nm.length ≤ 200 ∧ a.to.length ≤ 200 ∧ a.ks.length ≤ 100 := by
  unfold A.great at h
  simp at h
  omega
set_option maxRecDepth 100000 in
set_option maxHeartbeats 1000000 in
theorem room_law (room : Int) (q : Option Addr) (c : Nat) (us : List A) (W : World) (hm : us.length ≤ maxLen) (hA : Acts W q us) :
    Calls Try.prog 5 #[.int .i64 room, .slice q us.length c] W fun e w' => e = .returned (.bool true) ∧ Reg.Ext W w' := by
  have haw := awake_any
  have hAk := Lib.hid hA
  clear hA
  unfold maxLen at hm
  obtain ⟨r, hr, er⟩ := umod room 2999 (by omega)
  have er : wrap64 ((IntKind.u64.wrap room).tmod 3000) = (r : Int) := er
  go_enter Try.func5, Try.ntmps5
  go_wp2_with (first
    | (go_at_call 7; refine (haw _).mono ?_; rintro e xa ⟨rfl, hxa⟩)
    | (go_at_call 8; refine (Hold.new _ _).mono ?_; rintro e x0 ⟨d, rfl, h0⟩))
  have HX := Lib.hid hxa
  have H0 := Lib.hid h0
  clear hxa h0 haw er
  go_loopw [7, 8, 9, 10, 11] (fun i _ _ _ _ wr => ∃ (j : Nat) (p : P), i = .int .i64 (j : Int) ∧ j ≤ us.length ∧ j ≤ 150 ∧ Hid (Hold xa wr d p) ∧ Hid (p.h.ops ≤ (j : Int)) ∧ Hid (p.h.room = (r : Int))) (fun i _ _ _ _ _ => us.length - (intOf i).toNat)
  case atStart =>
    refine ⟨0, _, rfl, Nat.zero_le _, Nat.zero_le _, H0, Lib.hid (Int.le_refl _), Lib.hid ?_⟩
    show min (max (r : Int) 0) 4194304 = (r : Int)
    omega
  case round =>
    obtain ⟨j, p, rfl, hj, hj6, HH, HO, HR⟩ := hrel
    by_cases hjs : j < us.length
    · by_cases hj7 : j < 150
      · obtain ⟨g, o, rfl, hlt, hcl, hke⟩ := hAk.out j hjs
        generalize us[j] = u at hcl hke
        go_upto_region 8 with (fail)
        refine wp_region_lit ?_
        iterate 9 go_step
        refine wpList_act rfl _ rfl g (o + j * 8) rfl u (fun i v hv => (HX.out.trans HH.out.ext).at_ (hcl i v hv)) ?_
        simp only [Act.put, Act.eval, List.setIfInBounds_toArray, List.set_cons_zero, List.set_cons_succ, Nat.reduceAdd, Array.getD_eq_getD_getElem?, List.getElem?_toArray, List.getElem?_cons_succ, List.getElem?_cons_zero, Option.getD_some]
        iterate 3 go_step
        have hbf := Blk.new wr 41 #[.int .i64 0, .string ⟨#[]⟩, .string ⟨#[]⟩, .string ⟨#[]⟩, .int .i64 0, .int .i64 0, .int .i64 0, .slice none 0 0]
        refine wpList_sta rfl _ _ rfl wr.heap.size u rfl rfl [.int .i64 0, .string ⟨#[]⟩, .string ⟨#[]⟩, .string ⟨#[]⟩, .int .i64 0, .int .i64 0, .int .i64 0, .slice none 0 0] rfl (Lib.hid hbf) ?_
        simp only [Act.put, Act.eval, List.setIfInBounds_toArray, List.set_cons_zero, List.set_cons_succ, Nat.reduceAdd, Array.getD_eq_getD_getElem?, List.getElem?_toArray, List.getElem?_cons_succ, List.getElem?_cons_zero, Option.getD_some]
        clear hbf
        obtain ⟨hb8, hx8⟩ := newa wr u #[.int .i64 0, .string ⟨#[]⟩, .string ⟨#[]⟩, .string ⟨#[]⟩, .int .i64 0, .int .i64 0, .int .i64 0, .slice none 0 0] rfl
        generalize ((wr.alloc (Obj.cells #[.int .i64 0, .string ⟨#[]⟩, .string ⟨#[]⟩, .string ⟨#[]⟩, .int .i64 0, .int .i64 0, .int .i64 0, .slice none 0 0] 41)).setCells wr.heap.size 0 u.cells) = w8 at *
        generalize wr.heap.size = g8 at *
        have H8 := Lib.hid hb8
        have HD := Lib.hid (HH.out.more hx8)
        clear hb8 hx8 hcl HH
        go_upto_region 9 with (fail)
        refine wp_region_lit ?_
        refine wpList_act rfl _ rfl g8 0 rfl u (blk_range H8.out) ?_
        simp only [Act.put, Act.eval, List.setIfInBounds_toArray, List.set_cons_zero, List.set_cons_succ, Nat.reduceAdd, Array.getD_eq_getD_getElem?, List.getElem?_toArray, List.getElem?_cons_succ, List.getElem?_cons_zero, Option.getD_some]
        have hgr := great_any u w8 hke.2.2
        obtain ⟨gb, hgb⟩ : ∃ gb, u.great = gb := ⟨_, rfl⟩
        rw [hgb] at hgr
        cases gb with
        | true =>
          go_wp2_with (go_at_call 19; refine hgr.mono ?_; rintro e w9 ⟨rfl, h9⟩)
          go_ret
          exact ⟨rfl, (HX.out.trans HD.out.ext).trans h9⟩
        | false =>
          obtain ⟨z1, z2, z3, z4⟩ := great_of hgb
          have Z1 := Lib.hid z1
          clear z1 z2 z3 z4 hgb hke
          go_upto_region 11 with (go_at_call 19; refine hgr.mono ?_; rintro e w9 ⟨rfl, h9⟩)
          refine wp_region_lit ?_
          iterate 3 go_step
          refine wpList_act rfl _ rfl g8 0 rfl u (blk_range (H8.out.ext h9)) ?_
          simp only [Act.put, Act.eval, List.setIfInBounds_toArray, List.set_cons_zero, List.set_cons_succ, Nat.reduceAdd, Array.getD_eq_getD_getElem?, List.getElem?_toArray, List.getElem?_cons_succ, List.getElem?_cons_zero, Option.getD_some]
          have HO1 : Hid ((p.done u).2.h.ops ≤ ((j + 1 : Nat) : Int)) := Lib.hid (by have := done_ops p u; have := HO.out; omega)
          have HR1 : Hid ((p.done u).2.h.room = (r : Int)) := Lib.hid (by rw [done_room]; exact HR.out)
          have hdn := done_any (HD.out.more h9) u (by have := HO.out; unfold big; omega) (by have := Z1.out; omega)
          have HH9 := Lib.hid (HX.out.trans (HD.out.more h9).ext)
          generalize p.done u = pd at HO1 HR1 hdn
          obtain ⟨er, p1⟩ := pd
          dsimp only at HO1 HR1 hdn
          clear hgr HD HO HR H8 Z1
          go_wp2_with (first
            | (go_at_call 23; refine hdn.mono ?_; rintro e wA ⟨rfl, hA1⟩)
            | (go_at_call 20; refine (Hold.names hA1).mono ?_; rintro e x1 ⟨nA, nc, rfl, hnc, hnr, hN⟩))
          have HN := Lib.hid hN
          have HC := Lib.hid hN.good.cnt
          have NR1 := Lib.hid hnr
          clear hN hnr hA1 hdn h9
          go_loopw [9, 11] (fun sm k wr1 => ∃ (m : Nat), k = .int .i64 (m : Int) ∧ m ≤ p1.fs.length ∧ sm = .int .i64 (sum (p1.fs.take m) : Int) ∧ Hid (Reg.Ext x1 wr1)) (fun _ k _ => p1.fs.length - (intOf k).toNat)
          case atStart => exact ⟨0, rfl, Nat.zero_le _, rfl, Lib.hid (Reg.Ext.refl _)⟩
          case round =>
            obtain ⟨m, rfl, hm2, rfl, HY⟩ := hrel
            by_cases hml : m < p1.fs.length
            · obtain ⟨ad, rfl, hadl, hcm⟩ := NR1.out m (by rw [List.length_map]; exact hml)
              rw [List.getElem_map] at hcm
              have hTm : ∀ w', Reg.Ext x1 w' → w'.cell? (ad.add m) = some (str p1.fs[m].name) := fun w' hx => (hx.cell (p := ad.add m) (by unfold Addr.add; split <;> simpa using hadl)).trans hcm
              have hgt := HN.out.good.get_ m hml
              have hnl : p1.fs[m].name.length ≤ 80 := isName_len (HN.out.good.names _ (List.getElem_mem hml))
              have hSz : ∀ w', Reg.Ext x1 w' → Calls Try.prog 24 #[.pointer (some ⟨d, 0, none⟩), str p1.fs[m].name] w' fun e w2 => e = .returned (.int .i64 (p1.fs[m].l.length : Int)) ∧ w2 = w' := fun w' hx => by
                have h := (HN.out.more hx).size p1.fs[m].name (by unfold maxLen; omega)
                rw [hgt] at h
                exact h
              have hBy : ∀ w', Reg.Ext x1 w' → Calls Try.prog 15 #[.pointer (some ⟨d, 0, none⟩), str p1.fs[m].name] w' fun e w2 => e = .returned (str p1.fs[m].l) ∧ w2 = w' := fun w' hx => by
                have h := (HN.out.more hx).bytes p1.fs[m].name (by unfold maxLen; omega)
                rw [hgt] at h
                exact h
              have hbl : sum (p1.fs.take (m + 1)) ≤ 4194304 := by
                have h1 : sum (p1.fs.take (m + 1)) + sum (p1.fs.drop (m + 1)) = sum p1.fs := by
                  rw [← sum_append, List.take_append_drop]
                have h2 := HN.out.good.used
                have h3 := HN.out.good.room
                omega
              have hst := sum_take p1.fs m hml
              have HTm := Lib.hid hTm
              have HSz := Lib.hid hSz
              have HBy := Lib.hid hBy
              have HST := Lib.hid hst
              rw [hst] at hbl
              clear hTm hSz hBy hgt hcm hst
              cases m with
              | zero =>
                generalize p1.fs[0].name = nm at *
                generalize p1.fs[0].l = fl at *
                go_wp2_with fail
                unfold str at HTm HSz HBy
                have HTz : Hid (∀ w', Reg.Ext x1 w' → w'.cell? ad = some (.string ⟨nm.toArray⟩)) := Lib.hid fun w' hx => HTm.out w' hx
                apply Reg.wp_tab Reg.Ext (by kernel_rfl) (by kernel_rfl) Reg.Ext.refl (fun _ _ _ => Reg.Ext.trans) (Reg.Ext.drew _)
                case' h =>
                  intro O
                  repeat (first
                    | (apply Reg.TW.move_ Reg.Ext.refl _ rfl rfl
                       · simp only [Act.put, Act.eval, List.setIfInBounds_toArray, List.set_cons_zero, List.set_cons_succ, Nat.reduceAdd, Array.getD_eq_getD_getElem?, List.getElem?_toArray, List.getElem?_cons_succ, List.getElem?_cons_zero, Option.getD_some]
                         rfl)
                    | (apply Reg.TW.assign_ Reg.Ext.refl _ rfl rfl
                       · simp only [Act.put, Act.eval, List.setIfInBounds_toArray, List.set_cons_zero, List.set_cons_succ, Nat.reduceAdd, Array.getD_eq_getD_getElem?, List.getElem?_toArray, List.getElem?_cons_succ, List.getElem?_cons_zero, Option.getD_some]
                         rfl)
                    | (apply Reg.TW.skip_ rfl
                       · simp only [Act.put, Act.eval, List.setIfInBounds_toArray, List.set_cons_zero, List.set_cons_succ, Nat.reduceAdd, Array.getD_eq_getD_getElem?, List.getElem?_toArray, List.getElem?_cons_succ, List.getElem?_cons_zero, Option.getD_some]
                         rfl)
                    | (apply Reg.TW.pure_ rfl
                       · intro w1 hw1 hf K hK
                         simp only [Act.put, List.setIfInBounds_toArray, List.set_cons_zero, List.set_cons_succ] at hK
                         have HK := Lib.hid hK
                         clear hf hK
                         have hcm := HTz.out _ (HY.out.trans hw1)
                         unfold Reg.One; dsimp only
                         go_wp2_with fail
                         exact HK.out _ (Reg.Ext.refl _)
                       · simp only [Act.put, Act.eval, List.setIfInBounds_toArray, List.set_cons_zero, List.set_cons_succ, Nat.reduceAdd, Array.getD_eq_getD_getElem?, List.getElem?_toArray, List.getElem?_cons_succ, List.getElem?_cons_zero, Option.getD_some]
                         rfl))
                  apply Reg.TW.call_ (c := .int .i64 (fl.length : Int)) (fun _ => True) rfl (fun _ _ _ h => h)
                  · intro w1 hw1 hf K hK
                    simp only [Act.put, List.setIfInBounds_toArray, List.set_cons_zero, List.set_cons_succ] at hK
                    have HK := Lib.hid hK
                    clear hK
                    unfold Reg.One; dsimp only
                    go_wp2_with fail
                    refine (HSz.out _ (HY.out.trans hw1)).mono ?_
                    rintro e w' ⟨rfl, rfl⟩
                    go_wp2_with fail
                    exact HK.out _ (Reg.Ext.refl _) trivial
                  · simp only [Act.put, Act.eval, List.setIfInBounds_toArray, List.set_cons_zero, List.set_cons_succ, Nat.reduceAdd, Array.getD_eq_getD_getElem?, List.getElem?_toArray, List.getElem?_cons_succ, List.getElem?_cons_zero, Option.getD_some]
                    rfl
                  repeat (first
                    | (apply Reg.TW.move_ Reg.Ext.refl _ rfl rfl
                       · simp only [Act.put, Act.eval, List.setIfInBounds_toArray, List.set_cons_zero, List.set_cons_succ, Nat.reduceAdd, Array.getD_eq_getD_getElem?, List.getElem?_toArray, List.getElem?_cons_succ, List.getElem?_cons_zero, Option.getD_some]
                         rfl)
                    | (apply Reg.TW.assign_ Reg.Ext.refl _ rfl rfl
                       · simp only [Act.put, Act.eval, List.setIfInBounds_toArray, List.set_cons_zero, List.set_cons_succ, Nat.reduceAdd, Array.getD_eq_getD_getElem?, List.getElem?_toArray, List.getElem?_cons_succ, List.getElem?_cons_zero, Option.getD_some]
                         rfl)
                    | (apply Reg.TW.skip_ rfl
                       · simp only [Act.put, Act.eval, List.setIfInBounds_toArray, List.set_cons_zero, List.set_cons_succ, Nat.reduceAdd, Array.getD_eq_getD_getElem?, List.getElem?_toArray, List.getElem?_cons_succ, List.getElem?_cons_zero, Option.getD_some]
                         rfl)
                    | (apply Reg.TW.pure_ rfl
                       · intro w1 hw1 hf K hK
                         simp only [Act.put, List.setIfInBounds_toArray, List.set_cons_zero, List.set_cons_succ] at hK
                         have HK := Lib.hid hK
                         clear hf hK
                         have hcm := HTz.out _ (HY.out.trans hw1)
                         unfold Reg.One; dsimp only
                         go_wp2_with fail
                         exact HK.out _ (Reg.Ext.refl _)
                       · simp only [Act.put, Act.eval, List.setIfInBounds_toArray, List.set_cons_zero, List.set_cons_succ, Nat.reduceAdd, Array.getD_eq_getD_getElem?, List.getElem?_toArray, List.getElem?_cons_succ, List.getElem?_cons_zero, Option.getD_some]
                         rfl))
                  apply Reg.TW.call_ (c := .string ⟨fl.toArray⟩) (fun _ => True) rfl (fun _ _ _ h => h)
                  · intro w1 hw1 hf K hK
                    simp only [Act.put, List.setIfInBounds_toArray, List.set_cons_zero, List.set_cons_succ] at hK
                    have HK := Lib.hid hK
                    clear hK
                    unfold Reg.One; dsimp only
                    go_wp2_with fail
                    refine (HBy.out _ (HY.out.trans hw1)).mono ?_
                    rintro e w' ⟨rfl, rfl⟩
                    go_wp2_with fail
                    exact HK.out _ (Reg.Ext.refl _) trivial
                  · simp only [Act.put, Act.eval, List.setIfInBounds_toArray, List.set_cons_zero, List.set_cons_succ, Nat.reduceAdd, Array.getD_eq_getD_getElem?, List.getElem?_toArray, List.getElem?_cons_succ, List.getElem?_cons_zero, Option.getD_some]
                    rfl
                  repeat (first
                    | (apply Reg.TW.move_ Reg.Ext.refl _ rfl rfl
                       · simp only [Act.put, Act.eval, List.setIfInBounds_toArray, List.set_cons_zero, List.set_cons_succ, Nat.reduceAdd, Array.getD_eq_getD_getElem?, List.getElem?_toArray, List.getElem?_cons_succ, List.getElem?_cons_zero, Option.getD_some]
                         rfl)
                    | (apply Reg.TW.assign_ Reg.Ext.refl _ rfl rfl
                       · simp only [Act.put, Act.eval, List.setIfInBounds_toArray, List.set_cons_zero, List.set_cons_succ, Nat.reduceAdd, Array.getD_eq_getD_getElem?, List.getElem?_toArray, List.getElem?_cons_succ, List.getElem?_cons_zero, Option.getD_some]
                         rfl)
                    | (apply Reg.TW.skip_ rfl
                       · simp only [Act.put, Act.eval, List.setIfInBounds_toArray, List.set_cons_zero, List.set_cons_succ, Nat.reduceAdd, Array.getD_eq_getD_getElem?, List.getElem?_toArray, List.getElem?_cons_succ, List.getElem?_cons_zero, Option.getD_some]
                         rfl)
                    | (apply Reg.TW.pure_ rfl
                       · intro w1 hw1 hf K hK
                         simp only [Act.put, List.setIfInBounds_toArray, List.set_cons_zero, List.set_cons_succ] at hK
                         have HK := Lib.hid hK
                         clear hf hK
                         have hz := ba_size fl
                         unfold Reg.One; dsimp only
                         go_wp2_with fail
                         exact HK.out _ (Reg.Ext.refl _)
                       · simp only [Act.put, Act.eval, List.setIfInBounds_toArray, List.set_cons_zero, List.set_cons_succ, Nat.reduceAdd, Array.getD_eq_getD_getElem?, List.getElem?_toArray, List.getElem?_cons_succ, List.getElem?_cons_zero, Option.getD_some]
                         rfl))
                  refine Reg.TW.nil_ ?_
                  intro wa hwa _
                  have HY2 := Lib.hid (HY.out.trans hwa)
                  have hcm := HTz.out _ HY2.out
                  go_wp2_with (go_at_call 24; refine (HSz.out _ HY2.out).mono ?_; rintro e _ ⟨rfl, rfl⟩)
                  have e0 : sum ([] : List F) = 0 := rfl
                  have e1 : sum (p1.fs.take 1) = fl.length := by
                    have := HST.out
                    rw [Nat.zero_add] at this
                    have e2 : sum (p1.fs.take 0) = 0 := rfl
                    omega
                  refine ⟨⟨1, rfl, by omega, ?_, HY2⟩, by simp [intOf]; omega⟩
                  rw [e0, e1, IntWalk.wrap64_in _ ⟨by omega, by omega⟩]
                  simp
                all_goals rfl
              | succ m =>
                obtain ⟨ad', e', _, hcp⟩ := NR1.out m (by rw [List.length_map]; omega)
                injection e' with e'
                subst e'
                rw [List.getElem_map] at hcp
                have HTp : Hid (∀ w', Reg.Ext x1 w' → w'.cell? (ad.add m) = some (str p1.fs[m].name)) := Lib.hid fun w' hx => (hx.cell (p := ad.add m) (by unfold Addr.add; split <;> simpa using hadl)).trans hcp
                clear hcp
                have hlt : p1.fs[m].name < p1.fs[m + 1].name := (List.pairwise_iff_getElem.1 HN.out.good.up) m (m + 1) (by omega) hml (by omega)
                have hltk := Lib.hid hlt
                clear hlt
                generalize p1.fs[m].name = pn at *
                generalize p1.fs[m + 1].name = nm at *
                generalize p1.fs[m + 1].l = fl at *
                have hm200 : m < 200 := by have := HC.out; omega
                go_wp2_with fail
                unfold str at HTm HTp HSz HBy
                have ec : ((m + 1 : Nat) : Int) = (m : Int) + 1 := rfl
                have hd : decide ((m : Int) + 1 < (p1.fs.length : Int)) = true := decide_eq_true (by omega)
                simp only [ec, hd]
                clear ec hd
                have HTz : Hid (∀ w', Reg.Ext x1 w' → w'.cell? ⟨ad.block, ad.off + (m + 1), none⟩ = some (.string ⟨nm.toArray⟩)) := Lib.hid fun w' hx => HTm.out w' hx
                have hge : Op.bytesLess pn nm = true := (bytesLess_eq pn nm).trans (decide_eq_true hltk.out)
                apply Reg.wp_tab Reg.Ext (by kernel_rfl) (by kernel_rfl) Reg.Ext.refl (fun _ _ _ => Reg.Ext.trans) (Reg.Ext.drew _)
                case' h =>
                  intro O
                  repeat (first
                    | (apply Reg.TW.move_ Reg.Ext.refl _ rfl rfl
                       · simp only [Act.put, Act.eval, List.setIfInBounds_toArray, List.set_cons_zero, List.set_cons_succ, Nat.reduceAdd, Array.getD_eq_getD_getElem?, List.getElem?_toArray, List.getElem?_cons_succ, List.getElem?_cons_zero, Option.getD_some]
                         rfl)
                    | (apply Reg.TW.assign_ Reg.Ext.refl _ rfl rfl
                       · simp only [Act.put, Act.eval, List.setIfInBounds_toArray, List.set_cons_zero, List.set_cons_succ, Nat.reduceAdd, Array.getD_eq_getD_getElem?, List.getElem?_toArray, List.getElem?_cons_succ, List.getElem?_cons_zero, Option.getD_some]
                         rfl)
                    | (apply Reg.TW.skip_ rfl
                       · simp only [Act.put, Act.eval, List.setIfInBounds_toArray, List.set_cons_zero, List.set_cons_succ, Nat.reduceAdd, Array.getD_eq_getD_getElem?, List.getElem?_toArray, List.getElem?_cons_succ, List.getElem?_cons_zero, Option.getD_some]
                         rfl)
                    | (apply Reg.TW.pure_ rfl
                       · intro w1 hw1 hf K hK
                         simp only [Act.put, List.setIfInBounds_toArray, List.set_cons_zero, List.set_cons_succ] at hK
                         have HK := Lib.hid hK
                         clear hf hK
                         have hcm := HTz.out _ (HY.out.trans hw1); have hcp := HTp.out _ (HY.out.trans hw1)
                         unfold Reg.One; dsimp only
                         go_wp2_with fail
                         exact HK.out _ (Reg.Ext.refl _)
                       · simp only [Act.put, Act.eval, List.setIfInBounds_toArray, List.set_cons_zero, List.set_cons_succ, Nat.reduceAdd, Array.getD_eq_getD_getElem?, List.getElem?_toArray, List.getElem?_cons_succ, List.getElem?_cons_zero, Option.getD_some]
                         rfl))
                  apply Reg.TW.call_ (c := .int .i64 (fl.length : Int)) (fun _ => True) rfl (fun _ _ _ h => h)
                  · intro w1 hw1 hf K hK
                    simp only [Act.put, List.setIfInBounds_toArray, List.set_cons_zero, List.set_cons_succ] at hK
                    have HK := Lib.hid hK
                    clear hK
                    unfold Reg.One; dsimp only
                    go_wp2_with fail
                    refine (HSz.out _ (HY.out.trans hw1)).mono ?_
                    rintro e w' ⟨rfl, rfl⟩
                    go_wp2_with fail
                    exact HK.out _ (Reg.Ext.refl _) trivial
                  · simp only [Act.put, Act.eval, List.setIfInBounds_toArray, List.set_cons_zero, List.set_cons_succ, Nat.reduceAdd, Array.getD_eq_getD_getElem?, List.getElem?_toArray, List.getElem?_cons_succ, List.getElem?_cons_zero, Option.getD_some]
                    rfl
                  repeat (first
                    | (apply Reg.TW.move_ Reg.Ext.refl _ rfl rfl
                       · simp only [Act.put, Act.eval, List.setIfInBounds_toArray, List.set_cons_zero, List.set_cons_succ, Nat.reduceAdd, Array.getD_eq_getD_getElem?, List.getElem?_toArray, List.getElem?_cons_succ, List.getElem?_cons_zero, Option.getD_some]
                         rfl)
                    | (apply Reg.TW.assign_ Reg.Ext.refl _ rfl rfl
                       · simp only [Act.put, Act.eval, List.setIfInBounds_toArray, List.set_cons_zero, List.set_cons_succ, Nat.reduceAdd, Array.getD_eq_getD_getElem?, List.getElem?_toArray, List.getElem?_cons_succ, List.getElem?_cons_zero, Option.getD_some]
                         rfl)
                    | (apply Reg.TW.skip_ rfl
                       · simp only [Act.put, Act.eval, List.setIfInBounds_toArray, List.set_cons_zero, List.set_cons_succ, Nat.reduceAdd, Array.getD_eq_getD_getElem?, List.getElem?_toArray, List.getElem?_cons_succ, List.getElem?_cons_zero, Option.getD_some]
                         rfl)
                    | (apply Reg.TW.pure_ rfl
                       · intro w1 hw1 hf K hK
                         simp only [Act.put, List.setIfInBounds_toArray, List.set_cons_zero, List.set_cons_succ] at hK
                         have HK := Lib.hid hK
                         clear hf hK
                         have hcm := HTz.out _ (HY.out.trans hw1)
                         unfold Reg.One; dsimp only
                         go_wp2_with fail
                         exact HK.out _ (Reg.Ext.refl _)
                       · simp only [Act.put, Act.eval, List.setIfInBounds_toArray, List.set_cons_zero, List.set_cons_succ, Nat.reduceAdd, Array.getD_eq_getD_getElem?, List.getElem?_toArray, List.getElem?_cons_succ, List.getElem?_cons_zero, Option.getD_some]
                         rfl))
                  apply Reg.TW.call_ (c := .string ⟨fl.toArray⟩) (fun _ => True) rfl (fun _ _ _ h => h)
                  · intro w1 hw1 hf K hK
                    simp only [Act.put, List.setIfInBounds_toArray, List.set_cons_zero, List.set_cons_succ] at hK
                    have HK := Lib.hid hK
                    clear hK
                    unfold Reg.One; dsimp only
                    go_wp2_with fail
                    refine (HBy.out _ (HY.out.trans hw1)).mono ?_
                    rintro e w' ⟨rfl, rfl⟩
                    go_wp2_with fail
                    exact HK.out _ (Reg.Ext.refl _) trivial
                  · simp only [Act.put, Act.eval, List.setIfInBounds_toArray, List.set_cons_zero, List.set_cons_succ, Nat.reduceAdd, Array.getD_eq_getD_getElem?, List.getElem?_toArray, List.getElem?_cons_succ, List.getElem?_cons_zero, Option.getD_some]
                    rfl
                  repeat (first
                    | (apply Reg.TW.move_ Reg.Ext.refl _ rfl rfl
                       · simp only [Act.put, Act.eval, List.setIfInBounds_toArray, List.set_cons_zero, List.set_cons_succ, Nat.reduceAdd, Array.getD_eq_getD_getElem?, List.getElem?_toArray, List.getElem?_cons_succ, List.getElem?_cons_zero, Option.getD_some]
                         rfl)
                    | (apply Reg.TW.assign_ Reg.Ext.refl _ rfl rfl
                       · simp only [Act.put, Act.eval, List.setIfInBounds_toArray, List.set_cons_zero, List.set_cons_succ, Nat.reduceAdd, Array.getD_eq_getD_getElem?, List.getElem?_toArray, List.getElem?_cons_succ, List.getElem?_cons_zero, Option.getD_some]
                         rfl)
                    | (apply Reg.TW.skip_ rfl
                       · simp only [Act.put, Act.eval, List.setIfInBounds_toArray, List.set_cons_zero, List.set_cons_succ, Nat.reduceAdd, Array.getD_eq_getD_getElem?, List.getElem?_toArray, List.getElem?_cons_succ, List.getElem?_cons_zero, Option.getD_some]
                         rfl)
                    | (apply Reg.TW.pure_ rfl
                       · intro w1 hw1 hf K hK
                         simp only [Act.put, List.setIfInBounds_toArray, List.set_cons_zero, List.set_cons_succ] at hK
                         have HK := Lib.hid hK
                         clear hf hK
                         have hz := ba_size fl
                         unfold Reg.One; dsimp only
                         go_wp2_with fail
                         exact HK.out _ (Reg.Ext.refl _)
                       · simp only [Act.put, Act.eval, List.setIfInBounds_toArray, List.set_cons_zero, List.set_cons_succ, Nat.reduceAdd, Array.getD_eq_getD_getElem?, List.getElem?_toArray, List.getElem?_cons_succ, List.getElem?_cons_zero, Option.getD_some]
                         rfl))
                  refine Reg.TW.nil_ ?_
                  intro wa hwa _
                  have HY2 := Lib.hid (HY.out.trans hwa)
                  have hcm := HTz.out _ HY2.out
                  go_wp2_with (go_at_call 24; refine (HSz.out _ HY2.out).mono ?_; rintro e _ ⟨rfl, rfl⟩)
                  refine ⟨⟨m + 2, by go_num, by omega, ?_, HY2⟩, by simp [intOf]; omega⟩
                  have e1 := HST.out
                  generalize sum (p1.fs.take (m + 1)) = x1 at hbl e1 ⊢
                  have e2 : sum (p1.fs.take (m + 2)) = x1 + fl.length := e1
                  rw [e2]
                  simp
                all_goals rfl
            · have hme : m = p1.fs.length := by omega
              subst hme
              rw [List.take_length]
              have hus := HN.out.good.used
              have hro := HN.out.good.room
              have hcnt := HC.out
              rw [HR1.out] at hro
              have hud := (HN.out.more HY.out).used
              rw [hus] at hud hro
              have q1 : (((sum p1.fs : Nat) : Int) != ((sum p1.fs : Nat) : Int)) = false := by simp
              clear hus
              go_wp2_with (go_at_call 21; refine hud.mono ?_; rintro e _ ⟨rfl, rfl⟩)
              go_roundw
              case rel => exact ⟨j + 1, p1, by go_num, by omega, by omega, Lib.hid (HN.out.more HY.out), HO1, HR1⟩
              case measure => simp [intOf]; omega
      · have hje : j = 150 := by omega
        subst hje
        go_wp2_with (first
          | (go_at_call 18; refine (nil_read _ _).mono ?_; rintro e w1 ⟨rfl, n1⟩)
          | (go_at_call 9; refine (nil_create _ _).mono ?_; rintro e w2 ⟨rfl, n2⟩)
          | (go_at_call 25; refine (nil_lay _ _ _).mono ?_; rintro e _ ⟨rfl, rfl⟩)
          | (go_at_call 17; refine (nil_down _).mono ?_; rintro e _ ⟨rfl, rfl⟩)
          | (go_at_call 24; refine (nil_size _ _).mono ?_; rintro e _ ⟨rfl, rfl⟩)
          | (go_at_call 21; refine (nil_used _).mono ?_; rintro e _ ⟨rfl, rfl⟩)
          | (go_at_call 22; refine (nil_ops _).mono ?_; rintro e _ ⟨rfl, rfl⟩)
          | (go_at_call 16; refine (nil_safe _ _).mono ?_; rintro e _ ⟨rfl, rfl⟩)
          | (go_at_call 20; refine (nil_names _).mono ?_; rintro e _ ⟨rfl, rfl⟩)
          | (go_at_call 26; refine (nil_flip _ _).mono ?_; rintro e _ ⟨rfl, rfl⟩))
        go_ret
        exact ⟨rfl, ((HX.out.trans HH.out.ext).trans n1).trans n2⟩
    · have hje : j = us.length := by omega
      subst hje
      go_wp2_with (first
        | (go_at_call 18; refine (nil_read _ _).mono ?_; rintro e w1 ⟨rfl, n1⟩)
        | (go_at_call 9; refine (nil_create _ _).mono ?_; rintro e w2 ⟨rfl, n2⟩)
        | (go_at_call 25; refine (nil_lay _ _ _).mono ?_; rintro e _ ⟨rfl, rfl⟩)
        | (go_at_call 17; refine (nil_down _).mono ?_; rintro e _ ⟨rfl, rfl⟩)
        | (go_at_call 24; refine (nil_size _ _).mono ?_; rintro e _ ⟨rfl, rfl⟩)
        | (go_at_call 21; refine (nil_used _).mono ?_; rintro e _ ⟨rfl, rfl⟩)
        | (go_at_call 22; refine (nil_ops _).mono ?_; rintro e _ ⟨rfl, rfl⟩)
        | (go_at_call 16; refine (nil_safe _ _).mono ?_; rintro e _ ⟨rfl, rfl⟩)
        | (go_at_call 20; refine (nil_names _).mono ?_; rintro e _ ⟨rfl, rfl⟩)
        | (go_at_call 26; refine (nil_flip _ _).mono ?_; rintro e _ ⟨rfl, rfl⟩))
      go_ret
      exact ⟨rfl, ((HX.out.trans HH.out.ext).trans n1).trans n2⟩
end Plk
end Go.Proofs.Ytbiikihapfpkfaa

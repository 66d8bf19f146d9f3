/- Flights: Leave. -/
import Derived.Test.YtjkhfnfimicffaaPyF
import Derived.Test.YtjkhfnfimicffaaLayDF
import Derived.Lib.OwnBridge
set_option linter.unusedSimpArgs false
set_option linter.unusedVariables false
set_option linter.unusedSectionVars false
namespace Go.Proofs.Ytjkhfnfimicffaa
open Go Go.RowKit Go.Proofs Go.Sort Go.Lib Go.Shelf
namespace Py
/-- who waits turns -/
theorem row_any {w w' : World} {h : Hd} {es : List E} {kf : Ky → Option Int} {wf : Int → Option Int} {most last : Int} {n : Nat} (P : Pt w h es kf wf most last n) {e : E} (he : e ∈ es) (hk : e.f.key.dig.length = 32) (ws : List Int) {w3 w4 : World} {v' : Value}
    (h3 : Reg.Ext w w3) (ho : w4.ownsRow 0 3 1 v' ws.length (ws.map (Value.int .i64))) (hg : w3.grownBy w4 e.v.ownBlock) (hat : v'.ownBlock = e.v.ownBlock ∨ v'.ownBlock = some w3.heap.size) (hw : w' = w4.setCell ⟨e.g, 36, none⟩ v') :
    Pt w' h (updE ⟨{ e.f with who := ws }, e.g, v'⟩ es) kf wf most last n ∧ Turn h w es w' (updE ⟨{ e.f with who := ws }, e.g, v'⟩ es) := by
  subst hw
  have hself := P.self e he
  have hglt := (P.file e he).lt
  have hf3 := (P.file e he).ext h3
  have hf4 : Blk w4 e.g 68 (e.f.key.cells ++ [e.v]) := (hg.block e.g hf3.lt fun e1 => hself e1.symm).trans hf3
  have hne : v'.ownBlock ≠ some e.g := by
    rcases hat with h1 | h1
    · rw [h1]; exact hself
    · rw [h1]; intro e1; injection e1 with e1; have := h3.size; omega
  have hb5 := But.set_ e.g w4 36 v'
  have hs3 := h3.size
  have hs4 := hg.size
  have hk5 : ∀ i, i < w.heap.size → i ∉ e.blocks → (w4.setCell ⟨e.g, 36, none⟩ v').heap[i]? = w.heap[i]? := fun i hi hn => by
    rw [mem_blocks, not_or] at hn
    exact ((hb5.block i (by omega) fun e1 => hn.1 (by injection e1)).trans (hg.block i (by omega) fun e1 => hn.2 e1.symm)).trans (h3.block i hi)
  have hbn : ∀ y, v'.ownBlock = some y → (y ≠ e.g ∧ y ∈ e.blocks) ∨ w.heap.size ≤ y := fun y hy => by
    rcases hat with h1 | h1
    · rw [h1] at hy
      exact .inl ⟨fun e1 => hself (e1 ▸ hy), mem_blocks.2 (.inr hy)⟩
    · rw [h1] at hy; injection hy with hy; exact .inr (by omega)
  refine ⟨P.entry he rfl rfl hk5 ?_ (own_same ho fun g hgv => hb5.block g (Go.Proofs.Ytjkhfnfimicffaa.own_lt ho hgv) fun e1 => hne (by rw [hgv]; exact e1.symm ▸ rfl)) hbn, ?_⟩
  · have := hf4.set_ 36 v'
    rw [set36 _ hk] at this
    exact this
  · refine ⟨hg.os.trans h3.os, hg.tape.trans h3.tape, hg.output.trans h3.output, ?_, fun i hi hn => hk5 i hi fun hx => hn (.inr ⟨e, he, hx⟩), fun i hi => ?_⟩
    · have := hb5.size; omega
    · rcases own_upd hi with hx | hx
      · rcases mem_blocks.1 hx with rfl | hx
        · exact .inl (show Own h es e.g from own_g he)
        · rcases hbn i hx with h1 | h1
          · exact .inl (.inr ⟨e, he, h1.2⟩)
          · exact .inr h1
      · exact .inl hx

theorem gives (x y : Int) (B : Nat) (W : World) (hc : W.cell? ⟨B, 0, none⟩ = some (.int .i64 x)) :
    FnGives Try.prog 26 #[.pointer (some ⟨B, 0, none⟩)] #[.int .i64 y] (.bool (y == x)) W := by
  show Calls Try.prog 26 #[.int .i64 y, .pointer (some ⟨B, 0, none⟩)] W _
  go_enter Try.func26, Try.ntmps26
  go_wp2_with fail
  go_ret
  exact ⟨rfl, 0, rfl⟩
theorem delf_any {w : World} {v : Value} {ws : List Int} {x : Int} {B : Nat} (hr : w.ownsRow 0 3 1 v ws.length (ws.map (Value.int .i64))) (hws : ws ≠ []) (hB : B < w.heap.size) (hne : v.ownBlock ≠ some B) (hc : w.cell? ⟨B, 0, none⟩ = some (.int .i64 x)) (hl : ws.length ≤ 1000000) :
    Calls Try.prog 25 #[v, .func (.func 26) #[] #[.pointer (some ⟨B, 0, none⟩)]] w fun e w' =>
      ∃ v', e = .returned v' ∧ w'.ownsRow 0 3 1 v' (ws.filter fun y => decide (y ≠ x)).length ((ws.filter fun y => decide (y ≠ x)).map (Value.int .i64)) ∧ v'.ownBlock = v.ownBlock ∧ w.grownBy w' v.ownBlock := by
  have hv : v ≠ .slice none 0 0 := fun e => by
    rcases hr.2 with ⟨_, h0⟩ | ⟨g, cap, cur, e1, _⟩
    · exact hws (List.eq_nil_of_length_eq_zero h0)
    · rw [e1] at e; cases e
  obtain ⟨g, cap, rfl, _, hg, hcap, hcm, _, hH⟩ := holds_of_ownsRow hr hv
  have hgB : B ≠ g := fun e => hne (by rw [e]; rfl)
  have eg : ∀ args w, (callFunc 26 args).run Try.prog w = .ok (.enter 26 args) w := enters_of Try.func26 (by kernel_rfl) rfl
  have hp : PredAt Try.prog 26 #[.pointer (some ⟨B, 0, none⟩)] (Value.int .i64) (fun y => y == x) w := fun W y hb => gives x y B W ((hb.cell (p := ⟨B, 0, none⟩) hB).trans hc)
  have hpo : PredOver Try.prog 26 #[.pointer (some ⟨B, 0, none⟩)] (Value.int .i64) (fun y => y == x) g 0 ws.toArray.size w := fun n os dk y _ => gives x y B _ (by
    unfold sortWorld
    rw [cell?_grow _ _ _ (by show B < (putRow _ _ _ _ _).heap.size; rw [Sort.size_putRow]; exact hB), Sort.cell?_putRow_other _ _ g 0 _ _ (Or.inl hgB)]
    exact hc)
  have hcon := AnyE.slices_DeleteFunc Try.layDF (Value.int .i64) (fun _ => rfl) (fun y => y == x) 26 #[.pointer (some ⟨B, 0, none⟩)] eg 0 Try.zeroValue3 g 0 cap ws.toArray w hp hpo hH (by rw [List.size_toArray]; omega) (by rw [List.size_toArray]; exact hcap)
  have e1 : (ws.toArray.toList.filter fun y => !(y == x)) = ws.filter fun y => decide (y ≠ x) := by
    refine List.filter_congr fun y _ => ?_
    by_cases hy : y = x <;> simp [hy]
  rw [e1] at hcon
  generalize hk : (ws.filter fun y => decide (y ≠ x)) = ks at hcon ⊢
  have hkl : ks.length ≤ ws.length := by rw [← hk]; exact List.length_filter_le _ _
  have hcon : Calls Try.prog 25 #[.slice (some ⟨g, 0, none⟩) ws.length cap, .func (.func 26) #[] #[.pointer (some ⟨B, 0, none⟩)]] w _ := hcon
  refine hcon.mono ?_
  rintro e w' ⟨rfl, q, rfl⟩
  have hrow := ownsRow_putRow (q := q) (k := ks.length) (ys := ks ++ List.replicate (ws.toArray.size - ks.length) 0) hr (by rw [List.length_append, List.length_replicate, List.size_toArray]; omega) hkl
  rw [List.take_append_of_le_length (Nat.le_refl _), List.take_length] at hrow
  refine ⟨_, rfl, hrow, rfl, ⟨rfl, rfl, rfl, by simp [putRow, mapBlock, Sort.ahead], fun i hi hn => ?_⟩⟩
  have : g ≠ i := fun e => hn (by rw [e]; rfl)
  simp [putRow, mapBlock, Sort.ahead, Array.getElem?_modify, this]
theorem del_upd {fs : List Fl} {i : Int} {w : List Int} : del i (upd i w fs) = del i fs := by
  unfold del upd
  induction fs with
  | nil => rfl
  | cons f r ih =>
    rw [List.map_cons]
    by_cases hf : f.id = i
    · rw [if_pos hf, List.filter_cons_of_neg (by simp [hf]), List.filter_cons_of_neg (by simp [hf])]
      exact ih
    · rw [if_neg hf, List.filter_cons_of_pos (by simp [hf]), List.filter_cons_of_pos (by simp [hf]), ih]
theorem leave_none {w : World} {h : Hd} {es : List E} {p : P} {n : Nat} (P : Pn w h es p n) (x : Int) (hx : wfI x) (hw : wh x p.fs = none) :
    Calls Try.prog 10 #[.pointer (some ⟨h.d, 0, none⟩), .int .i64 x] w (ResP h w es (.tuple #[.int .i64 0, .bool false]) p n) := by
  have HX := Lib.hid (Reg.Ext.alloc w (Obj.cells #[.int .i64 x] 3))
  have HP := Lib.hid (P.ext HX.out)
  have HW : Hid (Calls Try.prog 14 #[.pointer (some ⟨h.d, 0, none⟩), .int .i64 x] (w.alloc (Obj.cells #[.int .i64 x] 3)) fun e w' => e = .returned (.tuple #[.int .i64 0, .bool false]) ∧ w' = w.alloc (Obj.cells #[.int .i64 x] 3)) := Lib.hid (by
    have := where_any HP.out.pt x hx
    have e : wfOf p.fs x = none := by unfold wfOf; rw [hw]; rfl
    rw [e] at this
    exact this)
  clear P hx hw
  go_enter Try.func10, Try.ntmps10
  go_wp2_with (go_at_call 14; refine (HW.out).mono ?_; rintro e w' ⟨rfl, rfl⟩)
  go_ret2
  exact ⟨rfl, es, HP.out, Turn.ext HX.out⟩
set_option maxRecDepth 100000 in
set_option maxHeartbeats 1000000 in
theorem leave_some {w : World} {h : Hd} {es : List E} {p : P} {n : Nat} (P : Pn w h es p n) (x : Int) (hx : wfI x) (hn : n < 1000000) {f : Fl} (hw : wh x p.fs = some f) :
    Calls Try.prog 10 #[.pointer (some ⟨h.d, 0, none⟩), .int .i64 x] w (ResP h w es (.tuple #[.int .i64 (p.leave x).1.1, .bool (p.leave x).1.2]) (p.leave x).2 n) := by
  have hx1 := Reg.Ext.alloc w (Obj.cells #[.int .i64 x] 3)
  have HX := Lib.hid hx1
  have HP := Lib.hid (P.ext hx1)
  have hfm := wh_some hw
  obtain ⟨e, he, hef⟩ : ∃ e ∈ es, e.f = f := by
    have := hfm.1
    rw [← show es.map E.f = p.fs from P.fs] at this
    exact List.mem_map.1 this
  subst hef
  have HG : Hid (Good (p.leave x).2) := Lib.hid (P.good.leave x)
  have HV : Hid (p.leave x = if (e.f.who.filter fun y => decide (y ≠ x)) = [] then ((e.f.id, true), { p with fs := del e.f.id p.fs }) else ((e.f.id, false), { p with fs := upd e.f.id (e.f.who.filter fun y => decide (y ≠ x)) p.fs })) := Lib.hid (by
    unfold Py.P.leave
    rw [hw])
  have HEI : Hid (wfI e.f.id) := Lib.hid (by
    have h1 := P.good.le e.f hfm.1
    have h2 := P.last
    exact wfI_of (by omega) (by omega))
  have HW : Hid (Calls Try.prog 14 #[.pointer (some ⟨h.d, 0, none⟩), .int .i64 x] (w.alloc (Obj.cells #[.int .i64 x] 3)) fun e' w' => e' = .returned (.tuple #[.int .i64 e.f.id, .bool true]) ∧ w' = w.alloc (Obj.cells #[.int .i64 x] 3)) := Lib.hid (by
    have := where_any HP.out.pt x hx
    have e1 : wfOf p.fs x = some e.f.id := by unfold wfOf; rw [hw]; rfl
    rw [e1] at this
    exact this)
  have HFM := Lib.hid hfm
  have HE := Lib.hid he
  have HI := Lib.hid hx
  have HN := Lib.hid hn
  have hb1 : Blk (w.alloc (Obj.cells #[.int .i64 x] 3)) w.heap.size 3 [.int .i64 x] := Blk.new w 3 #[.int .i64 x]
  have hB0 : ∀ y, Own h es y → y < w.heap.size := fun y hy => P.pt.own_lt hy
  have HB0 := Lib.hid hB0
  clear P hfm hx he hn hB0
  go_enter Try.func10, Try.ntmps10
  go_upto_region 4 with (go_at_call 14; refine (HW.out).mono ?_; rintro e' w' ⟨rfl, rfl⟩)
  clear HW
  generalize w.alloc (Obj.cells #[.int .i64 x] 3) = w1 at *
  obtain ⟨B, hBe⟩ : ∃ B, w.heap.size = B := ⟨_, rfl⟩
  rw [hBe] at hb1 HB0 ⊢
  have HP2 := Lib.hid (HP.out.ext (Reg.Ext.drew w1))
  have HT2 : Hid (Turn h w es w1.drew es) := Lib.hid (Turn.ext (HX.out.trans (Reg.Ext.drew w1)))
  have HB2 : Hid (Blk w1.drew B 3 [.int .i64 x]) := Lib.hid hb1.drew
  have HBO : Hid (¬ Own h es B) := Lib.hid fun o => by have := HB0.out B o; omega
  have hbe := Lib.hid hBe
  clear HP HX hb1 hx1 HB0 hBe
  obtain ⟨c0, c1, c2, c3, c4⟩ := HP2.out.pt.c
  have cB := HB2.out.cell 0
  refine Ordl.begins (S := fun w' => But h.wm w1.drew w') (z := 99) (by kernel_rfl) ?_
  refine Ordl.Bx.out (?_ : Ordl.Bx (Ordl.Any _ _ _ _ _ _ _ _ _ _))
  have X0 : But h.wm w1.drew w1.drew := But.refl _ _
  generalize w1.drew = w2 at *
  obtain ⟨n1, n2, n3, n4, n5, n6⟩ := HP2.out.pt.ne
  have nB : B ≠ h.wm := fun e1 => HBO.out (e1 ▸ own_wm)
  refine Ordl.take (i := 0) (v := .pointer (some ⟨h.d, 0, none⟩)) rfl (by kernel_rfl) (by kernel_rfl) (by kernel_rfl) (by kernel_rfl) (fun _ _ _ h => h) (.inl ⟨by kernel_rfl, fun w _ => by as_aux_lemma => kernel_rfl⟩) X0 ?_
  simp only [List.getElem_toArray, List.getElem_cons_succ, List.getElem_cons_zero, Act.put, Act.eval, List.setIfInBounds_toArray, List.set_cons_zero, List.set_cons_succ, Nat.reduceAdd, Array.getD_eq_getD_getElem?, List.getElem?_toArray, List.getElem?_cons_succ, List.getElem?_cons_zero, Option.getD_some]
  refine Ordl.take (i := 1) (v := .pointer (some ⟨h.d, 0, none⟩)) rfl (by kernel_rfl) (by kernel_rfl) (by kernel_rfl) (by kernel_rfl) (fun _ _ _ h => h) (.inl ⟨by kernel_rfl, fun w _ => by as_aux_lemma => kernel_rfl⟩) X0 ?_
  simp only [List.getElem_toArray, List.getElem_cons_succ, List.getElem_cons_zero, Act.put, Act.eval, List.setIfInBounds_toArray, List.set_cons_zero, List.set_cons_succ, Nat.reduceAdd, Array.getD_eq_getD_getElem?, List.getElem?_toArray, List.getElem?_cons_succ, List.getElem?_cons_zero, Option.getD_some]
  refine Ordl.take (i := 2) (v := .pointer (some ⟨h.d, 2, none⟩)) rfl (by kernel_rfl) (by kernel_rfl) (by kernel_rfl) (by kernel_rfl) (fun _ _ _ h => h) (.inl ⟨by kernel_rfl, fun w _ => by as_aux_lemma => kernel_rfl⟩) X0 ?_
  simp only [List.getElem_toArray, List.getElem_cons_succ, List.getElem_cons_zero, Act.put, Act.eval, List.setIfInBounds_toArray, List.set_cons_zero, List.set_cons_succ, Nat.reduceAdd, Array.getD_eq_getD_getElem?, List.getElem?_toArray, List.getElem?_cons_succ, List.getElem?_cons_zero, Option.getD_some]
  refine Ordl.take (i := 3) (v := .map (some h.wm)) rfl (by kernel_rfl) (by kernel_rfl) (by kernel_rfl) (by kernel_rfl) (fun _ _ _ h => h) (yields_load1 (by kernel_rfl) 61 (.tmp 19) rfl ⟨h.d, 2, none⟩ (by kernel_rfl) (.map (some h.wm)) _ Try.underlying61 rfl (fun w h => h.at_ c2 n3)) X0 ?_
  simp only [List.getElem_toArray, List.getElem_cons_succ, List.getElem_cons_zero, Act.put, Act.eval, List.setIfInBounds_toArray, List.set_cons_zero, List.set_cons_succ, Nat.reduceAdd, Array.getD_eq_getD_getElem?, List.getElem?_toArray, List.getElem?_cons_succ, List.getElem?_cons_zero, Option.getD_some]
  refine Ordl.take (i := 4) (v := .int .i64 x) rfl (by kernel_rfl) (by kernel_rfl) (by kernel_rfl) (by kernel_rfl) (fun _ _ _ h => h) (yields_load1 (by kernel_rfl) 3 (.tmp 3) rfl ⟨B, 0, none⟩ (by kernel_rfl) (.int .i64 x) _ Try.underlying3 rfl (fun w h => h.at_ cB nB)) X0 ?_
  simp only [List.getElem_toArray, List.getElem_cons_succ, List.getElem_cons_zero, Act.put, Act.eval, List.setIfInBounds_toArray, List.set_cons_zero, List.set_cons_succ, Nat.reduceAdd, Array.getD_eq_getD_getElem?, List.getElem?_toArray, List.getElem?_cons_succ, List.getElem?_cons_zero, Option.getD_some]
  refine Ordl.one (i := 5) (by kernel_rfl) rfl ?_
  obtain ⟨D, hm0, hMD⟩ := HP2.out.pt.mw
  have HM := Lib.hid hm0
  have HMD := Lib.hid hMD
  clear hm0 hMD
  refine ⟨wpList_delete_own _ rfl _ _ 61 3 rfl 3 kun Try.underlying61 (plainElem Try.prog 3) h.wm n D rfl HM.out _ _ rfl (keyI x HI.out) ?_⟩
  intro w7 hm7 ht7
  have HP7 := Lib.hid (HP2.out.pt.setW (Nat.le_refl _) hm7 (HMD.out.del x) ht7.grown)
  have HT7 := Lib.hid (HT2.out.trans (Turn.but (b := h.wm) ht7.grown own_wm))
  have HB7 : Hid (Blk w7 B 3 [.int .i64 x]) := Lib.hid (HB2.out.but (g' := h.wm) ht7.grown nB)
  have X1 := ht7.grown
  clear hm7 ht7 HM HMD HT2 HB2 n1 n2 n3 n4 n5 n6 nB c0 c1 c2 c3 c4 cB X0
  refine Ordl.Bx.out (?_ : Ordl.Bx _)
  refine Ordl.fin X1 ?_
  clear X1
  refine Ordl.done (by kernel_rfl) ?_ _
  obtain ⟨c0, c1, c2, c3, c4⟩ := HP7.out.c
  have HEK : Hid (e.f.key.dig.length = 32) := Lib.hid (HP2.out.fine e.f HFM.out.1).dig
  have hl := HP7.out.lookF e.f.id HEI.out
  rw [get_of HP7.out.up HE.out] at hl
  unfold ptrV at hl
  have y0 := cell36 (HP7.out.file e HE.out) HEK.out
  have f0 := (HP7.out.file e HE.out).frozen 36
  have HLE : Hid (e.f.who.length ≤ 1000000) := Lib.hid (by have h1 := (HP2.out.len e.f HFM.out.1).1; have h3 := HN.out; omega)
  have HD := Lib.hid (delf_any (HP7.out.row e HE.out) (fun e1 => by have := HFM.out.2; rw [e1] at this; cases this) HB7.out.lt (fun e1 => HBO.out (own_v HE.out e1)) (HB7.out.cell 0) HLE.out)
  generalize hout : (e.f.who.filter fun y => decide (y ≠ x)) = out at HD HV
  have HOUT := Lib.hid hout
  clear hout
  go_upto_region 7 with (go_at_call 25; refine (HD.out).mono ?_; rintro e' w8 ⟨v', rfl, ho8, hat8, hg8⟩; generalize hvl : out.length = m8 at ho8; have HVL := Lib.hid hvl; clear hvl; obtain ⟨vA, vc, rfl, -, -⟩ := own_rd ho8; have hf8 := (hg8.block e.g (HP7.out.file e HE.out).lt fun e1 => HP7.out.self e HE.out e1.symm).trans (HP7.out.file e HE.out); have y8 := cell36 hf8 HEK.out; have f8 := Blk.frozen (cs := e.f.key.cells ++ [e.v]) hf8 36; have HO8 := Lib.hid ho8; have HG8 := Lib.hid hg8; have HAT8 := Lib.hid hat8; clear ho8 hg8 hat8 hf8)
  obtain ⟨hp9, ht9⟩ := row_any HP7.out HE.out HEK.out out (Reg.Ext.refl w7) (by rw [HVL.out]; exact HO8.out) HG8.out (.inl HAT8.out) rfl
  have HP9 := Lib.hid hp9
  have HT9 := Lib.hid (HT7.out.trans ht9)
  clear hp9 ht9 HO8 HG8 HAT8 y8 f8 HD hl y0 f0 HB7 HT7 HP7 c0 c1 c2 c3 c4
  generalize w8.setCell ⟨e.g, 36, none⟩ (.slice vA m8 vc) = w9 at *
  have he9 : (⟨{ e.f with who := out }, e.g, .slice vA m8 vc⟩ : E) ∈ updE ⟨{ e.f with who := out }, e.g, .slice vA m8 vc⟩ es := List.mem_map.2 ⟨e, HE.out, if_pos rfl⟩
  have y9 : w9.cell? ⟨e.g, 36, none⟩ = some (.slice vA m8 vc) := cell36 (HP9.out.file _ he9) HEK.out
  have hwf : ∀ y, y ∈ out ↔ y ∈ e.f.who ∧ y ≠ x := fun y => by rw [← HOUT.out, List.mem_filter]; simp
  have HWF := Lib.hid hwf
  clear hwf
  by_cases hz : out = []
  · have hm8 : m8 = 0 := by rw [← HVL.out, hz]; rfl
    subst hm8
    have HZ := Lib.hid hz
    have HOV : Hid (Calls Try.prog 27 #[.pointer (some ⟨h.d, 0, none⟩), .int .i64 e.f.id] w9 _) := Lib.hid (over_any (e := ⟨{ e.f with who := out }, e.g, .slice vA 0 vc⟩) HP9.out he9 (HP2.out.fine e.f HFM.out.1) HEI.out)
    clear he9 hz
    go_wp2_with (go_at_call 27; refine (HOV.out).mono ?_; rintro e' w10 ⟨rfl, es1, hes1, hp10, ht10⟩)
    go_ret2
    have hgood := HG.out
    rw [HV.out, if_pos HZ.out] at hgood ⊢
    refine ⟨rfl, es1, ?_, HT9.out.trans ht10⟩
    have hfs : es1.map E.f = del e.f.id p.fs := by
      rw [hes1, map_delE, map_updE HP2.out.pt.up HE.out, show es.map E.f = p.fs from HP2.out.fs]
      exact del_upd
    have hw2 : (fun y => if y = x then none else wfOf p.fs y) = wfOf (del e.f.id p.fs) := by
      rw [wf_del HP2.out.good HFM.out.1]
      funext y
      have h1 := HWF.out y
      rw [HZ.out] at h1
      by_cases hy : y = x
      · rw [if_pos hy, if_pos (by rw [hy]; exact HFM.out.2)]
      · rw [if_neg hy, if_neg fun hm => by have := h1.2 ⟨hm, hy⟩; cases this]
    have hk2 : (fun c => if c = e.f.key then none else kfOf p.fs c) = kfOf (del e.f.id p.fs) := (kf_del HP2.out.good HFM.out.1).symm
    refine ⟨?_, hfs, hgood, fun g hg => HP2.out.fine g (mem_del.1 hg).1, HP2.out.last, fun g hg => HP2.out.len g (mem_del.1 hg).1, Nat.le_trans (List.length_filter_le _ _) HP2.out.cnt⟩
    show Pt w10 h es1 (kfOf (del e.f.id p.fs)) (wfOf (del e.f.id p.fs)) p.most p.last n
    rw [← hw2, ← hk2]
    exact hp10
  · have hm8 : 0 < m8 := by rw [← HVL.out]; exact List.length_pos_iff.2 hz
    have q : decide ((0 : Int) < (m8 : Int)) = true := decide_eq_true (by omega)
    have HZ := Lib.hid hz
    clear he9 hz
    go_wp2_with fail
    go_ret2
    have hgood := HG.out
    rw [HV.out, if_neg HZ.out] at hgood ⊢
    refine ⟨rfl, _, ?_, HT9.out⟩
    have h1 := (HP2.out.len e.f HFM.out.1)
    refine HP2.out.upd_ HE.out (Nat.le_refl _) hgood ?_ (fun y hy => h1.2 y ((HWF.out y).1 hy).1) ?_
    · refine Nat.le_trans ?_ h1.1
      rw [← HOUT.out]; exact List.length_filter_le _ _
    · have h2 := wf_less HP2.out.good HFM.out.1 HFM.out.2 (by rw [HOUT.out]; exact hgood)
      rw [HOUT.out] at h2
      rw [h2]
      exact HP9.out
/-- Leave, whatever comes -/
theorem leave_any {w : World} {h : Hd} {es : List E} {p : P} {n : Nat} (P : Pn w h es p n) (x : Int) (hx : wfI x) (hn : n < 1000000) :
    Calls Try.prog 10 #[.pointer (some ⟨h.d, 0, none⟩), .int .i64 x] w (ResP h w es (.tuple #[.int .i64 (p.leave x).1.1, .bool (p.leave x).1.2]) (p.leave x).2 n) := by
  cases hw : wh x p.fs with
  | some f => exact leave_some P x hx hn hw
  | none =>
    have e : p.leave x = ((0, false), p) := by unfold Py.P.leave; rw [hw]
    rw [e]
    exact leave_none P x hx hw
end Py
end Go.Proofs.Ytjkhfnfimicffaa

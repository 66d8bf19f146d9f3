/- The document's disk: drop, put. -/
import Derived.Test.YtbiikihapfpkfaaRefC
import Derived.Sort.Walk0
set_option linter.unusedSimpArgs false
set_option linter.unusedVariables false
set_option linter.unusedSectionVars false
namespace Go.Proofs.Ytbiikihapfpkfaa
section
open Go Go.RowKit
namespace Rk
open Plk (F P H isName sum)
/-- v owns just these files, in a block made since W0; all that there was in W0 is as it was -/
def FOw (W0 w : World) (v : Value) (fs : List F) : Prop := w.ownsRow W0.heap.size 59 3 v fs.length (lcs fs) ∧ Reg.Ext W0 w
theorem FOw.lv {W0 w : World} {v : Value} {fs : List F} (h : FOw W0 w v fs) : LV w v fs :=
  ⟨h.1.1, h.1.2.imp id fun ⟨g, cap, cur, e, _, rest⟩ => ⟨g, cap, cur, e, Nat.zero_le _, rest⟩⟩
theorem FOw.new {W0 w : World} (hx : Reg.Ext W0 w) : FOw W0 (w.alloc (.cells #[] 59)) (.slice (some ⟨w.heap.size, 0, none⟩) 0 0) [] :=
  ⟨World.ownsRow_made w #[] 0 hx.size (Nat.zero_le _) rfl, hx.trans (Reg.Ext.alloc _ _)⟩
theorem FOw.later {W0 w w' : World} {v : Value} {fs : List F} (h : FOw W0 w v fs) (hx : Reg.Ext w w') : FOw W0 w' v fs := ⟨own_ext h.1 hx, h.2.trans hx⟩
theorem FOw.ge {W0 w : World} {v : Value} {fs : List F} (h : FOw W0 w v fs) {g : Nat} (hg : v.ownBlock = some g) : W0.heap.size ≤ g := (World.ownsRow.lt h.1 g hg).1
theorem RD.shut {w w' : World} {b : Nat} {v v' : Value} {r : R} {fs : List F} (h : RD w b v r) (ho : FOw w w' v' fs) : RD w' b v r ∧ RD (w'.setCell ⟨b, 0, none⟩ v') b v' { r with l := fs } ∧ But b w (w'.setCell ⟨b, 0, none⟩ v') ∧ Newer w v v' := by
  have hnb : v'.ownBlock ≠ some b := fun e => by
    have := ho.ge e
    have := h.blk.lt
    omega
  have h1 := h.ext ho.2
  exact ⟨h1, h1.turn fs ho.lv hnb, (But.of_ext ho.2).trans (But.set_ b w' 0 v'), .inr fun g hg => ho.ge hg⟩
section
variable {ops : Array Oper} {rest : List Oper} {o : Oper} {a : Act} {Q : Exit → Act → World → Prop}
theorem FOw.pushAll (hgd : o.guard = none) (s x : Operand) (ho : o.op = .call { callee := .builtin .append, args := #[s, x], argTypes := #[55, 55] })
    (W0 : World) (v : Value) (fs gs : List F) (hs : a.eval s = v) (W : World) (ad : Addr) (c : Nat) (hb : FOw W0 W v fs) (hx : a.eval x = .slice (some ad) gs.length c) (hnew : ∀ j u, (lcs gs)[j]? = some u → W.cell? (ad.add j) = some u) (hl : fs.length + gs.length ≤ 1000)
    (h : ∀ v' w', FOw W0 w' v' (fs ++ gs) → wpList Try.prog ops Q rest (a.put o.dst v') w') : wpList Try.prog ops Q (o :: rest) a W := by
  obtain ⟨i, hi, hz, hsz, hby⟩ := fileInfo_of
  refine Go.wpList_append_own_at W hgd s x 55 ho W0.heap.size 59 i (.agg #[.string ⟨#[]⟩, .string ⟨#[]⟩, .int .i64 0]) 3 40 Try.underlying55 hi hz hsz hby rfl (by decide) v fs.length (lcs fs) hs hb.1 ad gs.length c (lcs gs) hx (lcs_len gs) hnew ?_ (by unfold maxLen; omega) (by omega) hb.2.size ?_
  · intro u hu
    unfold lcs at hu
    rw [List.mem_flatMap] at hu
    obtain ⟨f, _, hu⟩ := hu
    unfold fcs at hu
    rcases List.mem_cons.1 hu with rfl | hu
    · rfl
    · rcases List.mem_cons.1 hu with rfl | hu
      · rfl
      · rw [List.mem_singleton.1 hu]; rfl
  · intro v' w' ho' hg _ hat
    refine h v' w' ⟨?_, Below.grown hb.2 hg hb.2.size fun k hk => (hb.1.lt k hk).1⟩
    rw [List.length_append, lcs_append]
    exact ho'
theorem FOw.push (hgd : o.guard = none) (s x : Operand) (ho : o.op = .call { callee := .builtin .append, args := #[s, x], argTypes := #[55, 55] })
    (W0 : World) (v : Value) (fs : List F) (f : F) (hs : a.eval s = v) (W : World) (g : Nat) (hb : FOw W0 W v fs) (hx : a.eval x = .slice (some ⟨g, 0, none⟩) 1 1) (hnew : Blk W g 59 (fcs f)) (hl : fs.length + 1 ≤ 1000)
    (h : ∀ v' w', FOw W0 w' v' (fs ++ [f]) → wpList Try.prog ops Q rest (a.put o.dst v') w') : wpList Try.prog ops Q (o :: rest) a W := by
  refine FOw.pushAll hgd s x ho W0 v fs [f] hs W ⟨g, 0, none⟩ 1 hb hx (fun j u hj => ?_) hl h
  rw [add_plain, Nat.zero_add, hnew.cell j]
  rw [show lcs [f] = fcs f by simp [lcs]] at hj
  exact hj
end
theorem LV.head {w : World} {g cap : Nat} {fs : List F} (h : LV w (.slice (some ⟨g, 0, none⟩) fs.length cap) fs) (i : Nat) : ∀ j u, (lcs (fs.take i))[j]? = some u → w.cell? ((⟨g, 0, none⟩ : Addr).add j) = some u := by
  intro j u hj
  rw [← lcs_take, List.getElem?_take] at hj
  split at hj
  · exact World.ownsRow.cells h rfl j u hj
  · cases hj
theorem LV.tail {w : World} {g cap : Nat} {fs : List F} (h : LV w (.slice (some ⟨g, 0, none⟩) fs.length cap) fs) (i : Nat) : ∀ j u, (lcs (fs.drop i))[j]? = some u → w.cell? ((⟨g, i * 3, none⟩ : Addr).add j) = some u := by
  intro j u hj
  rw [← lcs_drop, List.getElem?_drop] at hj
  have := World.ownsRow.cells h rfl _ u hj
  rw [add_plain, Nat.zero_add] at this
  rw [add_plain]
  exact this
set_option maxRecDepth 100000 in
set_option maxHeartbeats 1000000 in
theorem drop_any (w : World) (b : Nat) (v : Value) (r : R) (h : RD w b v r) (i : Nat) (hi : i < r.l.length) (hl : r.l.length ≤ 200) :
    Calls Try.prog 53 #[.pointer (some ⟨b, 0, none⟩), .int .i64 (i : Int)] w fun e w' => e = .returned (.tuple #[]) ∧ ∃ v', RD w' b v' { r with l := r.l.take i ++ r.l.drop (i + 1) } ∧ But b w w' ∧ Newer w v v' := by
  have HR := Lib.hid h
  rcases h.row.form with ⟨_, h2⟩ | ⟨g, cap, h2, hgl, hnc, hcm⟩
  · rw [h2] at hi; exact absurd hi (Nat.not_lt_zero _)
  subst h2
  clear h
  unfold maxLen at hcm
  have HN := Lib.hid (FOw.new (Reg.Ext.refl w))
  have hx6 := Reg.Ext.alloc w (.cells #[] 59)
  have HX := Lib.hid hx6
  obtain ⟨c0, _⟩ := (HR.out.ext hx6).c
  have hlt : (r.l.take i).length = i := by rw [List.length_take]; omega
  have HLT := Lib.hid hlt
  have hld : (r.l.drop (i + 1)).length = r.l.length - (i + 1) := List.length_drop
  have HLD := Lib.hid hld
  clear hlt hld hx6
  by_cases hc : cap = i + 1
  · subst hc
    have hz0 : r.l.drop (i + 1) = [] := List.drop_of_length_le hnc
    have HZ := Lib.hid hz0
    clear hz0
    go_enter Try.func53, Try.ntmps53
    go_wp2_with (first
      | (refine FOw.pushAll rfl (.tmp 5) (.tmp 11) rfl w _ [] (r.l.take i) rfl _ ⟨g, 0, none⟩ (i + 1) HN.out (by rw [HLT.out]; rfl) ((HR.out.ext HX.out).row.head i) (by rw [HLT.out]; show 0 + i ≤ 1000; omega) ?_; intro v2 w2 hf2; have F2 := Lib.hid hf2; have R2 := Lib.hid (HR.out.ext hf2.2); have c0 := R2.out.c.1; clear hf2)
      | (refine FOw.pushAll rfl (.tmp 14) (.tmp 21) rfl w _ (r.l.take i) [] rfl _ ⟨g, 0, none⟩ 0 F2.out rfl (fun j u hj => by cases hj) (by rw [HLT.out]; show i + 0 ≤ 1000; omega) ?_; intro v3 w3 hf3; have F3 := Lib.hid hf3; obtain ⟨s1, s2, s3, s4⟩ := HR.out.shut hf3; have c0 := s1.c.1; have f0 := s1.blk.frozen 0; have S2 := Lib.hid s2; have S3 := Lib.hid s3; have S4 := Lib.hid s4; obtain ⟨A3, cap3, hv3⟩ := hf3.lv.len; generalize List.length _ = n3 at hv3; subst hv3; clear hf3 s1 s2 s3 s4))
    go_end0
    refine ⟨rfl, _, ?_, S3.out, S4.out⟩
    rw [HZ.out]
    exact S2.out
  · go_enter Try.func53, Try.ntmps53
    go_wp2_with (first
      | (refine FOw.pushAll rfl (.tmp 5) (.tmp 11) rfl w _ [] (r.l.take i) rfl _ ⟨g, 0, none⟩ cap HN.out (by rw [HLT.out]; rfl) ((HR.out.ext HX.out).row.head i) (by rw [HLT.out]; show 0 + i ≤ 1000; omega) ?_; intro v2 w2 hf2; have F2 := Lib.hid hf2; have R2 := Lib.hid (HR.out.ext hf2.2); have c0 := R2.out.c.1; clear hf2)
      | (refine FOw.pushAll rfl (.tmp 14) (.tmp 21) rfl w _ (r.l.take i) (r.l.drop (i + 1)) rfl _ ⟨g, (i + 1) * 3, none⟩ (cap - (i + 1)) F2.out (by rw [HLD.out]; rfl) (R2.out.row.tail (i + 1)) (by rw [HLT.out, HLD.out]; omega) ?_; intro v3 w3 hf3; have F3 := Lib.hid hf3; obtain ⟨s1, s2, s3, s4⟩ := HR.out.shut hf3; have c0 := s1.c.1; have f0 := s1.blk.frozen 0; have S2 := Lib.hid s2; have S3 := Lib.hid s3; have S4 := Lib.hid s4; obtain ⟨A3, cap3, hv3⟩ := hf3.lv.len; generalize List.length _ = n3 at hv3; subst hv3; clear hf3 s1 s2 s3 s4))
    go_end0
    exact ⟨rfl, _, S2.out, S3.out, S4.out⟩
end Rk
end
section
open Go Go.RowKit
namespace Rk
open Plk (F P H isName sum)
theorem ins_below (f : F) : ∀ l : List F, (∀ y ∈ l, y.name < f.name) → Nmd.ins F.name f l = l ++ [f]
  | [], _ => rfl
  | y :: l, h => by
    unfold Nmd.ins
    rw [if_pos (h y List.mem_cons_self), ins_below f l fun z hz => h z (List.mem_cons_of_mem _ hz)]
    rfl
theorem ins_here (f x : F) (hx : ¬ x.name < f.name) : ∀ l : List F, (∀ y ∈ l, y.name < f.name) → Nmd.ins F.name f (l ++ [x]) = l ++ [f, x]
  | [], _ => by
    show Nmd.ins F.name f [x] = [f, x]
    unfold Nmd.ins
    rw [if_neg hx]
  | y :: l, h => by
    show Nmd.ins F.name f (y :: (l ++ [x])) = _
    unfold Nmd.ins
    rw [if_pos (h y List.mem_cons_self), ins_here f x hx l fun z hz => h z (List.mem_cons_of_mem _ hz)]
    rfl
theorem ins_above (f x : F) : ∀ l : List F, (∃ y ∈ l, ¬ y.name < f.name) → Nmd.ins F.name f (l ++ [x]) = Nmd.ins F.name f l ++ [x]
  | [], h => by obtain ⟨y, hy, _⟩ := h; cases hy
  | y :: l, h => by
    show Nmd.ins F.name f (y :: (l ++ [x])) = _
    unfold Nmd.ins
    by_cases hy : y.name < f.name
    · rw [if_pos hy, if_pos hy, ins_above f x l]
      · rfl
      · obtain ⟨z, hz, hz2⟩ := h
        rcases List.mem_cons.1 hz with rfl | hz
        · exact absurd hy hz2
        · exact ⟨z, hz, hz2⟩
    · rw [if_neg hy, if_neg hy]
      rfl
theorem FOw.early {W0 W1 w : World} {v : Value} {fs : List F} (h : FOw W1 w v fs) (hx : Reg.Ext W0 W1) : FOw W0 w v fs :=
  ⟨⟨h.1.1, h.1.2.imp id fun ⟨g, cap, cur, e, hb, rest⟩ => ⟨g, cap, cur, e, Nat.le_trans hx.size hb, rest⟩⟩, hx.trans h.2⟩
/-- what put has gathered -/
def PutI (f : F) (l : List F) (k : Nat) (dn : Bool) (out : List F) : Prop := match dn with
  | false => out = l.take k ∧ ∀ y ∈ l.take k, y.name < f.name
  | true => out = Nmd.ins F.name f (l.take k) ∧ ∃ y ∈ l.take k, ¬ y.name < f.name
theorem PutI.len {f : F} {l : List F} {k : Nat} {dn : Bool} {out : List F} (h : PutI f l k dn out) : out.length ≤ l.length + 1 := by
  cases dn with
  | false => rw [h.1, List.length_take]; omega
  | true => rw [h.1, Nmd.length_ins, List.length_take]; omega
set_option maxRecDepth 100000 in
set_option maxHeartbeats 1000000 in
theorem put_any (w : World) (b : Nat) (v : Value) (r : R) (h : RD w b v r) (f : F) (hn : ∀ y ∈ r.l, y.name ≠ f.name) (hl : r.l.length ≤ 200) :
    Calls Try.prog 51 #[.pointer (some ⟨b, 0, none⟩), fval f] w fun e w' => e = .returned (.tuple #[]) ∧ ∃ v', RD w' b v' { r with l := Nmd.ins F.name f r.l } ∧ But b w w' ∧ Newer w v v' := by
  have HR0 := Lib.hid h
  obtain ⟨A, cap, hv⟩ := h.row.len
  subst hv
  clear h
  unfold fval fcs
  go_enter Try.func51, Try.ntmps51
  go_upto_region 1 with (fail)
  have hb5 : Blk (w.alloc (.cells #[.string ⟨f.name.toArray⟩, .string ⟨f.l.toArray⟩, .int .i64 (f.safe : Int)] 59)) w.heap.size 59 (fcs f) := Blk.new w _ _
  have hx5 := Reg.Ext.alloc w (.cells #[.string ⟨f.name.toArray⟩, .string ⟨f.l.toArray⟩, .int .i64 (f.safe : Int)] 59)
  generalize w.alloc (.cells #[.string ⟨f.name.toArray⟩, .string ⟨f.l.toArray⟩, .int .i64 (f.safe : Int)] 59) = w5 at *
  have HB := Lib.hid hb5
  have HR := Lib.hid (HR0.out.ext hx5)
  have HX5 := Lib.hid hx5
  have HN := Lib.hid (FOw.new (Reg.Ext.refl w5))
  clear hb5 hx5
  go_wp2_with fail
  go_loopw [4, 5, 6] (fun o d i wr => ∃ (k : Nat) (dn : Bool) (out : List F), i = .int .i64 (k : Int) ∧ k ≤ r.l.length ∧ d = .bool dn ∧ Hid (PutI f r.l k dn out) ∧ Hid (FOw w5 wr o out)) (fun _ _ i _ => r.l.length - (intOf i).toNat)
  case atStart => exact ⟨0, false, [], rfl, Nat.zero_le _, rfl, Lib.hid ⟨rfl, fun y hy => by cases hy⟩, HN⟩
  case round =>
    obtain ⟨k, dn, out, rfl, hk, rfl, HP, HF⟩ := hrel
    by_cases hks : k < r.l.length
    · have hRr := HR.out.ext HF.out.2
      rcases HR.out.row.form with ⟨_, h2⟩ | ⟨g, cap', h2, _, _, _⟩
      · rw [h2] at hks; exact absurd hks (Nat.not_lt_zero _)
      injection h2 with h2 _ h3
      subst h2 h3
      have c0 := hRr.c.1
      have n0 := hRr.row.at_ k hks 0 (by omega)
      have m0 := (HB.out.ext HF.out.2).cell 0
      dsimp only [fcs, List.getElem?_cons_zero] at n0 m0
      rw [Nat.add_zero] at n0
      have hne := hn _ (List.getElem_mem hks)
      have HRr := Lib.hid hRr
      have hlen := HP.out.len
      clear hRr
      have htk : r.l.take (k + 1) = r.l.take k ++ [r.l[k]] := List.take_succ_eq_append_getElem hks
      have HTK := Lib.hid htk
      clear htk
      cases dn with
      | true =>
        have HP2 : Hid (PutI f r.l (k + 1) true (out ++ [r.l[k]])) := Lib.hid (by
          obtain ⟨h1, h2⟩ := HP.out
          refine ⟨?_, ?_⟩
          · rw [HTK.out, ins_above f _ _ h2, ← h1]
          · rw [HTK.out]
            obtain ⟨y, hy, hy2⟩ := h2
            exact ⟨y, List.mem_append_left _ hy, hy2⟩)
        go_wp2_with fail
        go_quiet (fail)
        have HF6 := Lib.hid (HF.out.later (Reg.Ext.drewN wr nq))
        generalize wr.drewN nq = w6 at HF6 ⊢
        have c0 := (HR.out.ext HF6.out.2).c.1
        go_upto_region 9 with (fail)
        refine wp_region_lit ?_
        iterate 21 go_step
        refine wpList_file rfl _ rfl g (k * 3) rfl r.l[k] ((HR.out.ext HF6.out.2).row.range k hks) ?_
        simp only [Act.put, Act.eval, List.setIfInBounds_toArray, List.set_cons_zero, List.set_cons_succ, Nat.reduceAdd, Array.getD_eq_getD_getElem?, List.getElem?_toArray, List.getElem?_cons_succ, List.getElem?_cons_zero, Option.getD_some]
        refine one_file rfl _ rfl r.l[k] rfl _ ?_
        simp only [Act.put, Act.eval, List.setIfInBounds_toArray, List.set_cons_zero, List.set_cons_succ, Nat.reduceAdd, Array.getD_eq_getD_getElem?, List.getElem?_toArray, List.getElem?_cons_succ, List.getElem?_cons_zero, Option.getD_some]
        refine FOw.push rfl _ _ rfl w5 _ out r.l[k] rfl _ _ (HF6.out.later (Reg.Ext.alloc _ _)) rfl (Blk.new _ _ _) (by have := hlen; simp at this ⊢; omega) ?_
        intro v3 w3 hf3
        simp only [Act.put, Act.eval, List.setIfInBounds_toArray, List.set_cons_zero, List.set_cons_succ, Nat.reduceAdd, Array.getD_eq_getD_getElem?, List.getElem?_toArray, List.getElem?_cons_succ, List.getElem?_cons_zero, Option.getD_some]
        have F3 := Lib.hid hf3
        clear hf3
        go_wp2_with fail
        go_roundw
        case rel => exact ⟨k + 1, true, _, by go_num, by omega, rfl, HP2, F3⟩
        case measure => simp [intOf]; omega
      | false =>
        have hout : out = r.l.take k := HP.out.1
        by_cases hgt : r.l[k].name < f.name
        · have HP2 : Hid (PutI f r.l (k + 1) false (out ++ [r.l[k]])) := Lib.hid (by
            obtain ⟨h1, h2⟩ := HP.out
            refine ⟨by rw [HTK.out, h1], fun y hy => ?_⟩
            rw [HTK.out] at hy
            rcases List.mem_append.1 hy with hy | hy
            · exact h2 y hy
            · rw [List.mem_singleton.1 hy]; exact hgt)
          have q1 : Op.bytesLess r.l[k].name f.name = true := (bytesLess_eq _ _).trans (decide_eq_true hgt)
          go_wp2_with fail
          go_quiet (fail)
          have HF6 := Lib.hid (HF.out.later (Reg.Ext.drewN wr nq))
          generalize wr.drewN nq = w6 at HF6 ⊢
          have c0 := (HR.out.ext HF6.out.2).c.1
          go_upto_region 9 with (fail)
          refine wp_region_lit ?_
          iterate 21 go_step
          refine wpList_file rfl _ rfl g (k * 3) rfl r.l[k] ((HR.out.ext HF6.out.2).row.range k hks) ?_
          simp only [Act.put, Act.eval, List.setIfInBounds_toArray, List.set_cons_zero, List.set_cons_succ, Nat.reduceAdd, Array.getD_eq_getD_getElem?, List.getElem?_toArray, List.getElem?_cons_succ, List.getElem?_cons_zero, Option.getD_some]
          refine one_file rfl _ rfl r.l[k] rfl _ ?_
          simp only [Act.put, Act.eval, List.setIfInBounds_toArray, List.set_cons_zero, List.set_cons_succ, Nat.reduceAdd, Array.getD_eq_getD_getElem?, List.getElem?_toArray, List.getElem?_cons_succ, List.getElem?_cons_zero, Option.getD_some]
          refine FOw.push rfl _ _ rfl w5 _ out r.l[k] rfl _ _ (HF6.out.later (Reg.Ext.alloc _ _)) rfl (Blk.new _ _ _) (by have := hlen; simp at this ⊢; omega) ?_
          intro v3 w3 hf3
          simp only [Act.put, Act.eval, List.setIfInBounds_toArray, List.set_cons_zero, List.set_cons_succ, Nat.reduceAdd, Array.getD_eq_getD_getElem?, List.getElem?_toArray, List.getElem?_cons_succ, List.getElem?_cons_zero, Option.getD_some]
          have F3 := Lib.hid hf3
          clear hf3
          go_wp2_with fail
          go_roundw
          case rel => exact ⟨k + 1, false, _, by go_num, by omega, rfl, HP2, F3⟩
          case measure => simp [intOf]; omega
        · have HP2 : Hid (PutI f r.l (k + 1) true (out ++ [f] ++ [r.l[k]])) := Lib.hid (by
            obtain ⟨h1, h2⟩ := HP.out
            refine ⟨?_, r.l[k], by rw [HTK.out]; exact List.mem_append_right _ (List.mem_singleton.2 rfl), hgt⟩
            rw [HTK.out, ins_here f _ hgt _ h2, h1, List.append_assoc]
            rfl)
          have hlk : out.length = k := by rw [hout, List.length_take]; omega
          have q1 : Op.bytesLess r.l[k].name f.name = false := (bytesLess_eq _ _).trans (decide_eq_false hgt)
          have q2 : (r.l[k].name == f.name) = false := beq_eq_false_iff_ne.2 hne
          go_wp2_with fail
          go_quiet (fail)
          have HF6 := Lib.hid (HF.out.later (Reg.Ext.drewN wr nq))
          generalize wr.drewN nq = w6 at HF6 ⊢
          go_upto_region 7 with (fail)
          refine wp_region_lit ?_
          iterate 3 go_step
          refine wpList_file rfl _ rfl w.heap.size 0 rfl f (blk_range (HB.out.ext HF6.out.2)) ?_
          simp only [Act.put, Act.eval, List.setIfInBounds_toArray, List.set_cons_zero, List.set_cons_succ, Nat.reduceAdd, Array.getD_eq_getD_getElem?, List.getElem?_toArray, List.getElem?_cons_succ, List.getElem?_cons_zero, Option.getD_some]
          refine one_file rfl _ rfl f rfl _ ?_
          simp only [Act.put, Act.eval, List.setIfInBounds_toArray, List.set_cons_zero, List.set_cons_succ, Nat.reduceAdd, Array.getD_eq_getD_getElem?, List.getElem?_toArray, List.getElem?_cons_succ, List.getElem?_cons_zero, Option.getD_some]
          refine FOw.push rfl _ _ rfl w5 _ out f rfl _ _ (HF6.out.later (Reg.Ext.alloc _ _)) rfl (Blk.new _ _ _) (by omega) ?_
          intro v4 w4 hf4
          simp only [Act.put, Act.eval, List.setIfInBounds_toArray, List.set_cons_zero, List.set_cons_succ, Nat.reduceAdd, Array.getD_eq_getD_getElem?, List.getElem?_toArray, List.getElem?_cons_succ, List.getElem?_cons_zero, Option.getD_some]
          have F4 := Lib.hid hf4
          clear hf4
          have c0 := (HR.out.ext F4.out.2).c.1
          have hl4 : (out ++ [f]).length ≤ 300 := by rw [List.length_append, hlk]; show k + 1 ≤ 300; omega
          go_upto_region 9 with (fail)
          refine wp_region_lit ?_
          iterate 21 go_step
          refine wpList_file rfl _ rfl g (k * 3) rfl r.l[k] ((HR.out.ext F4.out.2).row.range k hks) ?_
          simp only [Act.put, Act.eval, List.setIfInBounds_toArray, List.set_cons_zero, List.set_cons_succ, Nat.reduceAdd, Array.getD_eq_getD_getElem?, List.getElem?_toArray, List.getElem?_cons_succ, List.getElem?_cons_zero, Option.getD_some]
          refine one_file rfl _ rfl r.l[k] rfl _ ?_
          simp only [Act.put, Act.eval, List.setIfInBounds_toArray, List.set_cons_zero, List.set_cons_succ, Nat.reduceAdd, Array.getD_eq_getD_getElem?, List.getElem?_toArray, List.getElem?_cons_succ, List.getElem?_cons_zero, Option.getD_some]
          refine FOw.push rfl _ _ rfl w5 _ (out ++ [f]) r.l[k] rfl _ _ (F4.out.later (Reg.Ext.alloc _ _)) rfl (Blk.new _ _ _) (by have := hl4; simp at this ⊢; omega) ?_
          intro v3 w3 hf3
          simp only [Act.put, Act.eval, List.setIfInBounds_toArray, List.set_cons_zero, List.set_cons_succ, Nat.reduceAdd, Array.getD_eq_getD_getElem?, List.getElem?_toArray, List.getElem?_cons_succ, List.getElem?_cons_zero, Option.getD_some]
          have F3 := Lib.hid hf3
          clear hf3
          go_wp2_with fail
          go_roundw
          case rel => exact ⟨k + 1, true, _, by go_num, by omega, rfl, HP2, F3⟩
          case measure => simp [intOf]; omega
    · have hke : k = r.l.length := by omega
      subst hke
      have c0 := (HR.out.ext HF.out.2).c.1
      have hlen := HP.out.len
      cases dn with
      | true =>
        have HL2 : Hid (out = Nmd.ins F.name f r.l) := Lib.hid (by have h1 := HP.out.1; rw [List.take_length] at h1; exact h1)
        obtain ⟨s1, s2, s3, s4⟩ := HR0.out.shut (HF.out.early HX5.out)
        obtain ⟨A3, cap3, hv3⟩ := HF.out.lv.len
        generalize List.length _ = n3 at hv3
        subst hv3
        have f0 := s1.blk.frozen 0
        have S2 := Lib.hid s2
        have S3 := Lib.hid s3
        have S4 := Lib.hid s4
        clear s1 s2 s3 s4
        go_wp2_with fail
        go_end0
        exact ⟨rfl, _, by rw [← HL2.out]; exact S2.out, S3.out, S4.out⟩
      | false =>
        have HL2 : Hid (out ++ [f] = Nmd.ins F.name f r.l) := Lib.hid (by
          obtain ⟨h1, h2⟩ := HP.out
          rw [List.take_length] at h1 h2
          rw [ins_below f _ h2, h1])
        go_upto_region 11 with (fail)
        refine wp_region_lit ?_
        iterate 3 go_step
        refine wpList_file rfl _ rfl w.heap.size 0 rfl f (blk_range (HB.out.ext HF.out.2)) ?_
        simp only [Act.put, Act.eval, List.setIfInBounds_toArray, List.set_cons_zero, List.set_cons_succ, Nat.reduceAdd, Array.getD_eq_getD_getElem?, List.getElem?_toArray, List.getElem?_cons_succ, List.getElem?_cons_zero, Option.getD_some]
        refine one_file rfl _ rfl f rfl _ ?_
        simp only [Act.put, Act.eval, List.setIfInBounds_toArray, List.set_cons_zero, List.set_cons_succ, Nat.reduceAdd, Array.getD_eq_getD_getElem?, List.getElem?_toArray, List.getElem?_cons_succ, List.getElem?_cons_zero, Option.getD_some]
        refine FOw.push rfl _ _ rfl w5 _ out f rfl _ _ (HF.out.later (Reg.Ext.alloc _ _)) rfl (Blk.new _ _ _) (by omega) ?_
        intro v4 w4 hf4
        simp only [Act.put, Act.eval, List.setIfInBounds_toArray, List.set_cons_zero, List.set_cons_succ, Nat.reduceAdd, Array.getD_eq_getD_getElem?, List.getElem?_toArray, List.getElem?_cons_succ, List.getElem?_cons_zero, Option.getD_some]
        have F4 := Lib.hid hf4
        clear hf4
        obtain ⟨s1, s2, s3, s4⟩ := HR0.out.shut (F4.out.early HX5.out)
        obtain ⟨A3, cap3, hv3⟩ := F4.out.lv.len
        generalize List.length _ = n3 at hv3
        subst hv3
        have c0 := s1.c.1
        have f0 := s1.blk.frozen 0
        have S2 := Lib.hid s2
        have S3 := Lib.hid s3
        have S4 := Lib.hid s4
        clear s1 s2 s3 s4
        go_wp2_with fail
        go_end0
        exact ⟨rfl, _, by rw [← HL2.out]; exact S2.out, S3.out, S4.out⟩
end Rk
end
end Go.Proofs.Ytbiikihapfpkfaa

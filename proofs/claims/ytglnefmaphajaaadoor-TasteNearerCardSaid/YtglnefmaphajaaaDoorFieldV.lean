/- Package field: Params. -/
import Derived.Test.YtglnefmaphajaaaDoorFieldU
import Derived.Test.YtglnefmaphajaaaDoorOneRow
set_option linter.unusedSimpArgs false
set_option linter.unusedVariables false
set_option linter.unusedSectionVars false
namespace Go.Proofs.YtglnefmaphajaaaDoor
open Go.RowKit
namespace Tst
open Fld
theorem trim_infix (l : List UInt8) : trimL l <:+: l := by
  unfold trimL Lib.trimS Lib.trimLeftS Lib.trimRightS
  have h1 : (l.reverse.dropWhile ([(32 : UInt8), 9].contains ·)).reverse <+: l := by
    have := List.reverse_prefix.2 (List.dropWhile_suffix (l := l.reverse) ([(32 : UInt8), 9].contains ·))
    rwa [List.reverse_reverse] at this
  exact (List.dropWhile_suffix _).isInfix.trans h1.isInfix
theorem cutG_infix (s : UInt8) : ∀ (n : Nat) (l : List UInt8) (_ : l.length ≤ n) (q : Bool) (cur p : List UInt8), p ∈ cutG s q cur l → p <:+: cur ++ l
  | n, [], _, _, cur, p, hp => by
    unfold cutG at hp
    rw [List.mem_singleton.1 hp, List.append_nil]
    exact trim_infix cur
  | 0, c :: l, h, _, _, _, _ => by simp at h
  | n + 1, b :: l, h, q, cur, p, hp => by
    have hl : l.length ≤ n := by simpa using h
    unfold cutG at hp
    split at hp
    · have := cutG_infix s n l hl _ _ p hp
      rwa [List.append_assoc, List.singleton_append] at this
    split at hp
    · cases l with
      | nil =>
        rw [List.mem_singleton.1 hp]
        exact trim_infix _
      | cons c l =>
        have := cutG_infix s n l (by simp at hl; omega) q (cur ++ [b, c]) p hp
        rwa [List.append_assoc] at this
    split at hp
    · rcases List.mem_cons.1 hp with rfl | hp
      · exact (trim_infix cur).trans (List.prefix_append cur _).isInfix
      · have := cutG_infix s n l hl q [] p hp
        exact this.trans ⟨cur ++ [b], [], by simp⟩
    · have := cutG_infix s n l hl _ _ p hp
      rwa [List.append_assoc, List.singleton_append] at this
theorem cutP_infix (s : UInt8) {l p : List UInt8} (h : p ∈ cutP s l) : p <:+: l := cutG_infix s _ l (Nat.le_refl _) _ _ p h
def pd (f : Fld) : List UInt8 × List UInt8 := (dl f.1, dl f.2)
theorem cutG_ne (s : UInt8) : ∀ (n : Nat) (l : List UInt8) (_ : l.length ≤ n) (q : Bool) (cur : List UInt8), cutG s q cur l ≠ []
  | n, [], _, _, _ => by unfold cutG; simp
  | 0, c :: l, h, _, _ => by simp at h
  | n + 1, b :: l, h, q, cur => by
    have hl : l.length ≤ n := by simpa using h
    unfold cutG
    split
    · exact cutG_ne s n l hl _ _
    split
    · cases l with
      | nil => simp
      | cons c l => exact cutG_ne s n l (by simp at hl; omega) q (cur ++ [b, c])
    split
    · simp
    · exact cutG_ne s n l hl _ _
theorem cutP_ne (s : UInt8) (l : List UInt8) : cutP s l ≠ [] := cutG_ne s _ l (Nat.le_refl _) _ _
/-- how far the parameters are read -/
def Par (ts : List ByteArray) (fs : List Fld) (k : Nat) : Prop := paramsG (ts.map dl) = (paramsG ((ts.drop k).map dl)).map (fs.map pd ++ ·)
theorem Par.skip {ts : List ByteArray} {fs : List Fld} {k : Nat} {x : ByteArray} (h : Par ts fs k) (hx : ts[k]? = some x) (h0 : x.size = 0) : Par ts fs (k + 1) := by
  unfold Par at *
  obtain ⟨hk, rfl⟩ := List.getElem?_eq_some_iff.1 hx
  rw [h, List.drop_eq_getElem_cons hk, List.map_cons]
  conv => lhs; arg 2; unfold paramsG
  rw [if_pos (List.eq_nil_of_length_eq_zero (by show ts[k].data.toList.length = 0; rw [len_data]; exact h0))]
theorem ne_of_size {x : ByteArray} (h : x.size ≠ 0) : dl x ≠ [] := fun e => h (by rw [← len_data]; show (dl x).length = 0; rw [e]; rfl)
theorem Par.bad {ts : List ByteArray} {fs : List Fld} {k : Nat} {x : ByteArray} (h : Par ts fs k) (hx : ts[k]? = some x) (h0 : x.size ≠ 0) (hp : (paramP (dl x)).2 = false) : paramsG (ts.map dl) = none := by
  unfold Par at *
  obtain ⟨hk, rfl⟩ := List.getElem?_eq_some_iff.1 hx
  rw [h, List.drop_eq_getElem_cons hk, List.map_cons]
  unfold paramsG
  rw [if_neg (ne_of_size h0), hp]
  rfl
theorem Par.good {ts : List ByteArray} {fs : List Fld} {k : Nat} {x : ByteArray} {f : Fld} (h : Par ts fs k) (hx : ts[k]? = some x) (h0 : x.size ≠ 0) (hp : (paramP (dl x)).2 = true) (hf : pd f = (paramP (dl x)).1) : Par ts (fs ++ [f]) (k + 1) := by
  unfold Par at *
  obtain ⟨hk, rfl⟩ := List.getElem?_eq_some_iff.1 hx
  rw [h, List.drop_eq_getElem_cons hk, List.map_cons]
  conv => lhs; arg 2; unfold paramsG
  rw [if_neg (ne_of_size h0), if_pos hp, ← hf, Option.map_map, List.map_append]
  congr 1
  funext r
  simp
def ParamsPost (l : List UInt8) (w : World) (e : Ending) (w' : World) : Prop :=
  ((paramsP l = none ∧ e = .returned (.tuple #[.string ⟨#[]⟩, .slice none 0 0, .int .i64 3])) ∨ ∃ (H : ByteArray) (v : Value) (fs : List Fld), paramsP l = some (fs.map pd) ∧ dl H = headP l ∧ e = .returned (.tuple #[.string H, v, .int .i64 0]) ∧ FOwn w w' v fs) ∧ Reg.Ext w w'
set_option maxRecDepth 100000 in
set_option maxHeartbeats 8000000 in
theorem params_any (s : ByteArray) (w : World) (hs : s.size ≤ 536870912) :
    Calls Tryd.prog 18 #[.string s] w (ParamsPost s.data.toList w) := by
  have CC := Lib.hid (cut_any s 59 w (by omega))
  rw [show ((59 : UInt8).toNat : Int) = 59 from rfl] at CC
  go_enter Tryd.func18, Tryd.ntmps18
  go_wp2_with fail
  refine CC.out.mono ?_
  rintro e w1 ⟨v1, ps, rfl, hso, hps⟩
  have hn : 1 ≤ ps.length := by
    have := cutP_ne 59 s.data.toList
    rw [← hps] at this
    rcases Nat.eq_zero_or_pos ps.length with h0 | h0
    · rw [List.eq_nil_of_length_eq_zero h0] at this; exact absurd rfl this
    · exact h0
  obtain ⟨B, cap, rfl, hcap, hrd⟩ : ∃ B cap, v1 = .slice (some ⟨B, 0, none⟩) ps.length cap ∧ ps.length ≤ cap ∧ Rd w1 (some ⟨B, 0, none⟩) (scells ps) := by
    obtain ⟨A, cp, e, hr, -⟩ := hso.rd
    rcases hso.1.2 with ⟨_, h0⟩ | ⟨g, cap, cur, rfl, _, _, h1, _⟩
    · omega
    · injection e with e1 e2 e3
      subst e1 e3
      exact ⟨g, cap, rfl, h1, hr⟩
  obtain ⟨y, hy, hhead⟩ : ∃ y : ByteArray, ps[0]? = some y ∧ headP s.data.toList = dl y := by
    unfold headP
    rw [← hps]
    match ps, hn with
    | p :: ps, _ => exact ⟨p, rfl, rfl⟩
  have HY := Lib.hid hy
  have htail : paramsP s.data.toList = paramsG (ps.tail.map dl) := by
    unfold paramsP
    rw [← hps, List.map_tail]
  have HPL : Hid (ps.length ≤ 536870913) := by
    show _ ≤ _
    have := cutP_len 59 s.data.toList
    rw [← hps, List.length_map, len_data] at this
    omega
  have HZ : Hid (∀ x ∈ ps, x.size ≤ s.size) := fun x hx => by
    have h1 : dl x ∈ cutP 59 s.data.toList := by rw [← hps]; exact List.mem_map_of_mem hx
    have h2 := (cutP_infix 59 h1).length_le
    rw [len_data] at h2
    rw [← len_data]
    exact h2
  have HH := Lib.hid hhead
  have HT := Lib.hid htail
  have HX := Lib.hid hso.ext
  have HR := Lib.hid hrd
  have hlt : Hid (∀ g, Value.ownBlock (.slice none 0 0) = some g → g < w.heap.size) := fun g hg => by cases hg
  clear hhead htail hso hps hrd CC hy
  obtain ⟨m, hm⟩ : ∃ m, ps.length = m + 1 := ⟨ps.length - 1, by omega⟩
  have hml : m ≤ 536870912 := by have := HPL.out; omega
  rw [hm] at hcap ⊢
  by_cases hc1 : cap = 1
  · subst hc1
    obtain rfl : m = 0 := by omega
    have HM := Lib.hid hm
    clear hm hn
    go_wp2_with fail
    go_loopw [6, 8, 9, 10, 16] (fun v _ _ _ i wr => ∃ (fs : List Fld) (k : Nat), i = .int .i64 (k : Int) ∧ k ≤ 0 ∧ Hid (FOwn w wr v fs) ∧ Hid (RdA wr v (some ⟨B, 0, none⟩) (scells ps)) ∧ Hid (Par ps.tail fs k) ∧ fs.length ≤ k) (fun _ _ _ _ i _ => 0 - (intOf i).toNat)
    case atStart => exact ⟨[], 0, rfl, Nat.zero_le _, FOwn.nil_ w w1 HX.out, Lib.hid ⟨HR.out, fun _ k ad hk _ => by cases hk⟩, Lib.hid (by unfold Par; simp), Nat.le_refl _⟩
    case round =>
      obtain ⟨fs, k, rfl, hk, HO, HRk, HP, hfl⟩ := hrel
      have HXk := Lib.hid HO.out.ext
      by_cases hks : k < 0
      · exact absurd hks (by omega)
      · have hke : k = 0 := by omega
        subst hke
        have h0 : 0 < ps.length := by have := HM.out; omega
        obtain ⟨ad, ead, hcell⟩ := Rd.text HRk.out.1 h0
        injection ead with ead
        subst ead
        rw [add_plain, Nat.zero_add] at hcell
        have hpp : paramsP s.data.toList = some (fs.map pd) := by
          have h1 := HP.out
          unfold Par at h1
          rw [HT.out, h1, List.drop_of_length_le (by rw [List.length_tail]; have := HM.out; omega)]
          simp [paramsG]
        have HPP := Lib.hid hpp
        have HHH : Hid (dl y = headP s.data.toList) := HH.out.symm
        clear hpp HP HH HT
        have hcy : wr.cell? ⟨B, 0, none⟩ = some (.string y) := by
          rw [hcell]
          have h1 := HY.out
          rw [List.getElem?_eq_getElem h0] at h1
          injection h1 with h1
          rw [h1]
        clear hcell
        go_wp2_with fail
        go_ret3
        exact ⟨.inr ⟨y, _, fs, HPP.out, HHH.out, rfl, HO.out⟩, HXk.out⟩
  · have HM := Lib.hid hm
    clear hm hn
    go_wp2_with fail
    go_loopw [6, 8, 9, 10, 16] (fun v _ _ _ i wr => ∃ (fs : List Fld) (k : Nat), i = .int .i64 (k : Int) ∧ k ≤ m ∧ Hid (FOwn w wr v fs) ∧ Hid (RdA wr v (some ⟨B, 0, none⟩) (scells ps)) ∧ Hid (Par ps.tail fs k) ∧ fs.length ≤ k) (fun _ _ _ _ i _ => m - (intOf i).toNat)
    case atStart => exact ⟨[], 0, rfl, Nat.zero_le _, FOwn.nil_ w w1 HX.out, Lib.hid ⟨HR.out, fun _ k ad hk _ => by cases hk⟩, Lib.hid (by unfold Par; simp), Nat.le_refl _⟩
    case round =>
      obtain ⟨fs, k, rfl, hk, HO, HRk, HP, hfl⟩ := hrel
      have HXk := Lib.hid HO.out.ext
      by_cases hks : k < m
      · have hk1 : k + 1 < ps.length := by have := HM.out; omega
        obtain ⟨ad, ead, hcell⟩ := Rd.text HRk.out.1 hk1
        injection ead with ead
        subst ead
        rw [add_plain, Nat.zero_add] at hcell
        have hcell : wr.cell? ⟨B, 1 + k, none⟩ = some (.string ps[k + 1]) := by rw [Nat.add_comm 1 k]; exact hcell
        have htl : ps.tail[k]? = some ps[k + 1] := by rw [List.getElem?_tail]; exact List.getElem?_eq_getElem hk1
        have hxs : ps[k + 1].size ≤ 536870912 := Nat.le_trans (HZ.out ps[k + 1] (List.getElem_mem hk1)) hs
        generalize ps[k + 1] = x at *
        have HTL := Lib.hid htl
        clear htl hk1
        by_cases h0 : x.size = 0
        · obtain ⟨e1, e2, e3⟩ := empty_of x h0
          have HP2 := Lib.hid (HP.out.skip HTL.out h0)
          clear e1 h0 HP HTL
          go_wp2_with fail
          go_roundw
          case rel => exact ⟨fs, k + 1, by go_num, by omega, HO, HRk, HP2, by omega⟩
          case measure => simp [intOf]; omega
        · obtain ⟨e2, e3⟩ := full_of x (by omega)
          have CP := fun w => Lib.hid (param_any x w (by omega))
          obtain ⟨f, hf⟩ : ∃ f : Fld, f = (bl (paramP x.data.toList).1.1, bl (paramP x.data.toList).1.2) := ⟨_, rfl⟩
          have hfp : pd f = (paramP (dl x)).1 := by rw [hf]; rfl
          obtain ⟨q, hq⟩ : ∃ q : Bool, (paramP x.data.toList).2 = q := ⟨_, rfl⟩
          rw [show paramV x.data.toList = .tuple #[fv f, .bool q] by unfold paramV pairV; rw [hf, hq]] at CP
          clear hf
          have HQ : Hid (q = true → Par ps.tail (fs ++ [f]) (k + 1)) := fun h => HP.out.good HTL.out h0 (by show (paramP x.data.toList).2 = true; rw [hq]; exact h) hfp
          have HQ0 : Hid (q = false → paramsG (ps.tail.map dl) = none) := fun h => HP.out.bad HTL.out h0 (by show (paramP x.data.toList).2 = false; rw [hq]; exact h)
          clear h0 hfp hq HP HTL
          go_wp2_with fail
          refine (CP wr).out.mono ?_
          rintro e w2 ⟨rfl, x2⟩
          have HO2 := Lib.hid (HO.out.later x2)
          have HR2 := Lib.hid (HRk.out.ext x2)
          clear x2 HO HRk CP hcell
          rename_i hK
          refine hK _ _ ?_
          iterate 12 go_step
          have hbf := Blk.new w2 35 #[.string ⟨#[]⟩, .string ⟨#[]⟩]
          refine wpList_stf rfl _ _ rfl w2.heap.size f rfl rfl [.string ⟨#[]⟩, .string ⟨#[]⟩] rfl (Lib.hid hbf) ?_
          simp only [Act.put, Act.eval, List.setIfInBounds_toArray, List.set_cons_zero, List.set_cons_succ, Nat.reduceAdd, Array.getD_eq_getD_getElem?, List.getElem?_toArray, List.getElem?_cons_succ, List.getElem?_cons_zero, Option.getD_some]
          clear hbf
          obtain ⟨hb8, hx8⟩ := newf w2 f #[.string ⟨#[]⟩, .string ⟨#[]⟩] rfl
          generalize ((w2.alloc (Obj.cells #[.string ⟨#[]⟩, .string ⟨#[]⟩] 35)).setCells w2.heap.size 0 [.string f.1, .string f.2]) = w8 at *
          generalize w2.heap.size = g8 at *
          have H8 := Lib.hid hb8
          have HO8 := Lib.hid (HO2.out.later hx8)
          have HR8 := Lib.hid (HR2.out.ext hx8)
          clear hb8 hx8 HO2 HR2
          cases q with
          | false =>
            have HN : Hid (paramsP s.data.toList = none) := HT.out.trans (HQ0.out rfl)
            have HX8 := Lib.hid HO8.out.ext
            clear HQ HQ0
            go_wp2_with fail
            go_ret3
            exact ⟨.inl ⟨HN.out, rfl⟩, HX8.out⟩
          | true =>
            have HP2 := Lib.hid (HQ.out rfl)
            clear HQ HQ0
            go_upto_region 10 with (fail)
            refine wp_region_lit ?_
            iterate 3 go_step
            refine wpList_fld rfl _ rfl g8 0 rfl f (H8.out.cell 0) (H8.out.cell 1) ?_
            simp only [Act.put, Act.eval, List.setIfInBounds_toArray, List.set_cons_zero, List.set_cons_succ, Nat.reduceAdd, Array.getD_eq_getD_getElem?, List.getElem?_toArray, List.getElem?_cons_succ, List.getElem?_cons_zero, Option.getD_some]
            obtain ⟨i0, hi, hz0, hz1, hz2⟩ := fldInfo_of
            refine One.wpList_valw rfl _ (One.exec_one_row _ _ _ _ 22 35 #[.string f.1, .string f.2] rfl rfl i0 _ Tryd.underlying22 hi hz0 hz1 (by simp) (by simp)) ?_
            have ha := Reg.Ext.alloc w8 (.cells #[.string f.1, .string f.2] 35)
            have hbn := Blk.new w8 35 #[.string f.1, .string f.2]
            have HO9 := Lib.hid (HO8.out.later ha)
            have HR9 := Lib.hid (HR8.out.ext ha)
            clear ha HO8 HR8 hi hz0 hz1 hz2
            generalize w8.alloc (.cells #[.string f.1, .string f.2] 35) = w9 at *
            generalize w8.heap.size = g9 at *
            simp only [Act.put, Act.eval, List.setIfInBounds_toArray, List.set_cons_zero, List.set_cons_succ, Nat.reduceAdd, Array.getD_eq_getD_getElem?, List.getElem?_toArray, List.getElem?_cons_succ, List.getElem?_cons_zero, Option.getD_some]
            refine FOwn.push rfl _ _ rfl u6 fs f rfl w w9 g9 HO9.out rfl (hbn.cell 0) (hbn.cell 1) (by omega) fun v' wa h3 hg hat => ?_
            have HOa := Lib.hid h3
            have HRa := Lib.hid (HR9.out.step hg hat)
            clear h3 hg hat hbn HO9 HR9
            simp only [Act.put, Act.eval, List.setIfInBounds_toArray, List.set_cons_zero, List.set_cons_succ, Nat.reduceAdd, Array.getD_eq_getD_getElem?, List.getElem?_toArray, List.getElem?_cons_succ, List.getElem?_cons_zero, Option.getD_some]
            go_wp2_with fail
            go_roundw
            case rel => exact ⟨fs ++ [f], k + 1, by go_num, by omega, HOa, HRa, HP2, by rw [List.length_append, List.length_singleton]; omega⟩
            case measure => simp [intOf]; omega
      · have hke : k = m := by omega
        subst hke
        have h0 : 0 < ps.length := by have := HM.out; omega
        obtain ⟨ad, ead, hcell⟩ := Rd.text HRk.out.1 h0
        injection ead with ead
        subst ead
        rw [add_plain, Nat.zero_add] at hcell
        have hpp : paramsP s.data.toList = some (fs.map pd) := by
          have h1 := HP.out
          unfold Par at h1
          rw [HT.out, h1, List.drop_of_length_le (by rw [List.length_tail]; have := HM.out; omega)]
          simp [paramsG]
        have HPP := Lib.hid hpp
        have HHH : Hid (dl y = headP s.data.toList) := HH.out.symm
        clear hpp HP HH HT
        have hcy : wr.cell? ⟨B, 0, none⟩ = some (.string y) := by
          rw [hcell]
          have h1 := HY.out
          rw [List.getElem?_eq_getElem h0] at h1
          injection h1 with h1
          rw [h1]
        clear hcell
        go_wp2_with fail
        go_ret3
        exact ⟨.inr ⟨y, _, fs, HPP.out, HHH.out, rfl, HO.out⟩, HXk.out⟩
end Tst
end Go.Proofs.YtglnefmaphajaaaDoor

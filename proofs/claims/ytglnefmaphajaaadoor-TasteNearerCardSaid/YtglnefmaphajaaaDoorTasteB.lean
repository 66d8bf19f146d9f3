/- Package taste: Best, Tag, Matches. -/
import Derived.Test.YtglnefmaphajaaaDoorTasteR
import Derived.Test.YtglnefmaphajaaaDoorStampPrint
import Derived.Test.YtglnefmaphajaaaDoorPrefixH
set_option linter.unusedSimpArgs false
set_option linter.unusedVariables false
set_option linter.unusedSectionVars false
namespace Go.Proofs.YtglnefmaphajaaaDoor
open Go.RowKit
namespace Tst
open Fld
theorem fold_lt (kind : List UInt8) : ∀ (xs : List (List UInt8)) (st : Nat × Nat), st.1 < 18446744073709551616 → (xs.foldl (stepQ kind) st).1 < 18446744073709551616
  | [], _, h => h
  | x :: xs, st, h => fold_lt kind xs _ (step_lt h)
theorem qual_bits (fs : List Fld) (kind : List UInt8) : qualP fs kind < 18446744073709551616 := by
  unfold qualP
  split
  · decide
  split
  · decide
  · exact fold_lt kind _ _ (by decide)
def stB (fs : List Fld) (ks : List ByteArray) : Nat → Int × Nat
  | 0 => (-1, 0)
  | k + 1 => match ks[k]? with
    | none => stB fs ks k
    | some x => if FloatP.less (stB fs ks k).2 (qualP fs x.data.toList) = true then ((k : Int), qualP fs x.data.toList) else stB fs ks k
theorem stB_succ (fs : List Fld) {ks : List ByteArray} {k : Nat} {x : ByteArray} (h : ks[k]? = some x) : stB fs ks (k + 1) = if FloatP.less (stB fs ks k).2 (qualP fs x.data.toList) = true then ((k : Int), qualP fs x.data.toList) else stB fs ks k := by
  conv => lhs; unfold stB
  rw [h]
theorem stB_lt (fs : List Fld) (ks : List ByteArray) : ∀ k, (stB fs ks k).2 < 18446744073709551616
  | 0 => by show 0 < _; decide
  | k + 1 => by
    have ih := stB_lt fs ks k
    unfold stB
    split
    · exact ih
    · split
      · exact qual_bits _ _
      · exact ih
def bestP (fs : List Fld) (ks : List ByteArray) : Int := (stB fs ks ks.length).1
set_option maxRecDepth 100000 in
set_option maxHeartbeats 16000000 in
theorem best_any (A : Option Addr) (cap : Nat) (fs : List Fld) (B : Option Addr) (cp : Nat) (ks : List ByteArray) (w : World) (HF : Hid (Fl w A fs)) (HS : Hid (Sz fs)) (HK : Hid (Rd w B (scells ks))) (hn : ks.length ≤ 1000) (HZ : Hid (∀ x ∈ ks, x.size ≤ 9223372036854775807)) :
    Calls Tryd.prog 8 #[.slice A fs.length cap, .slice B ks.length cp] w fun e w' => e = .returned (.int .i64 (bestP fs ks)) ∧ Reg.Ext w w' := by
  go_enter Tryd.func8, Tryd.ntmps8
  go_wp2_with fail
  go_loopw [5, 6, 7, 8, 9, 12] (fun out most _ _ _ i wr => ∃ k : Nat, i = .int .i64 (k : Int) ∧ k ≤ ks.length ∧ out = .int .i64 (stB fs ks k).1 ∧ most = .float .f64 (stB fs ks k).2 ∧ Hid (Reg.Ext w wr)) (fun _ _ _ _ _ i _ => ks.length - (intOf i).toNat)
  case atStart => exact ⟨0, rfl, Nat.zero_le _, rfl, rfl, Reg.Ext.refl w⟩
  case round =>
    obtain ⟨k, rfl, hk, rfl, rfl, HX⟩ := hrel
    by_cases hks : k < ks.length
    · obtain ⟨ad, rfl, hcell⟩ := Rd.text (HK.out.below HX.out) hks
      have hxk : ks[k]? = some ks[k] := List.getElem?_eq_getElem hks
      have hz := HZ.out _ (List.getElem_mem hks)
      have hst := stB_succ fs hxk
      clear hxk
      generalize ks[k] = x at *
      have hlt := stB_lt fs ks k
      have hql := qual_bits fs x.data.toList
      have CQ := fun w' (h : Reg.Ext w w') => Lib.hid (quality_any A cap fs x w' (Lib.hid (HF.out.ext h)) HS hz)
      have HST : Hid (stB fs ks (k + 1) = if FloatP.less (stB fs ks k).2 (qualP fs x.data.toList) = true then ((k : Int), qualP fs x.data.toList) else ((stB fs ks k).1, (stB fs ks k).2)) := hst
      clear hst
      generalize (stB fs ks k).1 = ob at *
      generalize (stB fs ks k).2 = m at *
      generalize qualP fs x.data.toList = q at *
      have CL := fun w => Lib.hid (Flt.less_any m q w hlt hql)
      clear hlt hql hz
      go_wp2_with fail
      refine (CQ wr HX.out).out.mono ?_
      rintro e w2 ⟨rfl, x2⟩
      have HX2 := Lib.hid (HX.out.trans x2)
      clear x2 HX CQ hcell
      go_wp2_with fail
      refine (CL w2).out.mono ?_
      rintro e w3 ⟨rfl, rfl⟩
      cases hle : FloatP.less m q with
      | true =>
        have HS4 : Hid (stB fs ks (k + 1) = ((k : Int), q)) := HST.out.trans (if_pos hle)
        clear HST hle
        go_wp2_with fail
        go_roundw
        case rel => exact ⟨k + 1, by go_num, by omega, by rw [HS4.out], by rw [HS4.out], HX2⟩
        case measure => simp [intOf]; omega
      | false =>
        have HS4 : Hid (stB fs ks (k + 1) = (ob, m)) := HST.out.trans (if_neg (by rw [hle]; decide))
        clear HST hle
        go_wp2_with fail
        go_roundw
        case rel => exact ⟨k + 1, by go_num, by omega, by rw [HS4.out], by rw [HS4.out], HX2⟩
        case measure => simp [intOf]; omega
    · have hke : k = ks.length := by omega
      subst hke
      have HV : Hid (bestP fs ks = (stB fs ks ks.length).1) := rfl
      generalize stB fs ks ks.length = st at *
      go_wp2_with fail
      go_ret
      exact ⟨by rw [HV.out]; rfl, HX.out⟩
/-! ### tags -/
def tagL (l : List UInt8) : List UInt8 := [34] ++ (Stp.pA ++ HexP.hex l) ++ [34]
set_option maxHeartbeats 2000000 in
theorem tag_any (l : List UInt8) (hl : l.length = 32) (w : World) :
    Calls Tryd.prog 12 #[.agg (l.map byteV).toArray] w fun e w' => e = .returned (.string (bl (tagL l))) ∧ Reg.Ext w w' := by
  have hb := Stp.box_blk w l
  have HX := Lib.hid (Reg.Ext.alloc w (Obj.cells (l.map byteV).toArray 38))
  go_enter Tryd.func12, Tryd.ntmps12
  go_upto_region 1 with (fail)
  generalize w.alloc (Obj.cells (l.map byteV).toArray 38) = w1 at *
  refine wp_region_lit ?_
  refine wpList_load_row rfl 38 _ rfl w.heap.size rfl 38 (l.map byteV).toArray (0, 0) _ hb Tryd.underlying38 rfl (by rw [List.size_toArray, List.length_map, hl]; kernel_rfl) ?_
  simp only [Act.put, Act.eval, List.setIfInBounds_toArray, List.set_cons_zero, List.set_cons_succ, Nat.reduceAdd, Array.getD_eq_getD_getElem?, List.getElem?_toArray, List.getElem?_cons_succ, List.getElem?_cons_zero, Option.getD_some]
  clear hb
  go_wp2_with fail
  refine (Stp.print_any l hl _).mono ?_
  rintro e w2 ⟨rfl, x2⟩
  have HX2 := Lib.hid (HX.out.trans x2)
  clear HX x2
  have hsz : (⟨(Stp.pA ++ HexP.hex l).toArray⟩ : ByteArray).size ≤ 80 := by rw [siz, List.length_append, HexP.hex_length, hl]; decide
  obtain ⟨D, hD⟩ : ∃ D : ByteArray, D = ⟨(Stp.pA ++ HexP.hex l).toArray⟩ := ⟨_, rfl⟩
  rw [← hD] at hsz ⊢
  have HV := Lib.hid (show bl (tagL l) = ⟨#[34]⟩ ++ D ++ ⟨#[34]⟩ by rw [hD]; exact ba_ext (by simp [bl, tagL]))
  clear hD
  go_wp2_with fail
  go_ret
  exact ⟨by rw [HV.out]; rfl, HX2.out⟩
/-- strings.TrimPrefix -/
def trimP (p l : List UInt8) : List UInt8 := if Pre.has p l = true then l.drop p.length else l
theorem has_le {s p : ByteArray} (h : Pre.has p.data.toList s.data.toList = true) : p.size ≤ s.size := by
  unfold Pre.has at h
  rw [List.isPrefixOf_iff_prefix] at h
  have := h.length_le
  rw [len_data, len_data] at this
  exact this
set_option maxHeartbeats 2000000 in
theorem trimI_any (s p : ByteArray) (w : World) (hs : s.size ≤ 4611686018427387904) (hp : p.size ≤ 4611686018427387904) :
    Calls Tryd.prog 34 #[.string s, .string p] w fun e w' => e = .returned (.string (bl (trimP p.data.toList s.data.toList))) ∧ w = w' := by
  go_enter Tryd.func34, Tryd.ntmps34
  go_wp2_with fail
  refine (Pre.hasI_any s p w hs hp).mono ?_
  rintro e w' ⟨rfl, rfl⟩
  cases hh : Pre.has p.data.toList s.data.toList with
  | true =>
    have hle := has_le hh
    have HV := Lib.hid (show bl (trimP p.data.toList s.data.toList) = s.extract p.size s.size by
      unfold trimP
      rw [hh, if_pos rfl, len_data, ← ext_from, bl_of])
    clear hh
    go_wp2_with fail
    go_ret
    exact ⟨by rw [HV.out]; rfl, rfl⟩
  | false =>
    have HV := Lib.hid (show bl (trimP p.data.toList s.data.toList) = s by
      unfold trimP
      rw [hh, if_neg (by decide), bl_of])
    clear hh
    go_wp2_with fail
    go_ret
    exact ⟨by rw [HV.out]; rfl, rfl⟩
set_option maxHeartbeats 2000000 in
theorem trimP_any (s p : ByteArray) (w : World) (hs : s.size ≤ 4611686018427387904) (hp : p.size ≤ 4611686018427387904) :
    Calls Tryd.prog 25 #[.string s, .string p] w fun e w' => e = .returned (.string (bl (trimP p.data.toList s.data.toList))) ∧ w = w' := by
  have HT := Lib.hid (trimI_any s p w hs hp)
  go_enter Tryd.func25, Tryd.ntmps25
  go_wp2_with fail
  refine HT.out.mono ?_
  rintro e w' ⟨rfl, rfl⟩
  go_wp2_with fail
  go_ret
  exact ⟨rfl, rfl⟩
def inmL : List UInt8 := [73, 102, 45, 78, 111, 110, 101, 45, 77, 97, 116, 99, 104]
def hitP (d : List UInt8) (x : List UInt8) : Bool := decide (x = [42]) || decide (trimP [87, 47] x = tagL d)
def matchP (fs : List Fld) (d : List UInt8) : Bool := (elemsP inmL fs).any (hitP d)
theorem test_star (x : ByteArray) : (x.toList == [42]) = decide (x.data.toList = [42]) := test_lit x [42]
set_option maxRecDepth 100000 in
set_option maxHeartbeats 16000000 in
theorem matches_any (A : Option Addr) (cap : Nat) (fs : List Fld) (d : List UInt8) (hd : d.length = 32) (w : World) (HF : Hid (Fl w A fs)) (HS : Hid (Sz fs)) :
    Calls Tryd.prog 13 #[.slice A fs.length cap, .agg (d.map byteV).toArray] w fun e w' => e = .returned (.bool (matchP fs d)) ∧ Reg.Ext w w' := by
  have hb := Stp.box_blk w d
  have hx := Reg.Ext.alloc w (Obj.cells (d.map byteV).toArray 38)
  have hes := elems_sz inmL (fs := fs) (M := 536870912) fun f hf => (HS.out.2 f hf).2
  have hel := elems_len inmL 536870912 fs fun f hf => (HS.out.2 f hf).2
  have hsl := HS.out.1
  have hmp : matchP fs d = (elemsP inmL fs).any (hitP d) := rfl
  go_enter Tryd.func13, Tryd.ntmps13
  go_upto_region 1 with (fail)
  generalize w.alloc (Obj.cells (d.map byteV).toArray 38) = w0 at *
  generalize w.heap.size = gd at hb ⊢
  have HB0 := Lib.hid hb
  have HX0 := Lib.hid hx
  have CE := Lib.hid (elements_any A cap fs ⟨#[73, 102, 45, 78, 111, 110, 101, 45, 77, 97, 116, 99, 104]⟩ w0 (Lib.hid (HF.out.ext hx)) HS (by decide))
  rw [show (⟨#[73, 102, 45, 78, 111, 110, 101, 45, 77, 97, 116, 99, 104]⟩ : ByteArray).data.toList = inmL from rfl] at CE
  have HES := Lib.hid hes
  have HEL : Hid ((elemsP inmL fs).length ≤ 536870913000) := by show _ ≤ _; omega
  have HM := Lib.hid hmp
  clear hb hx hes hel hsl hmp
  generalize elemsP inmL fs = es at *
  go_wp2_with fail
  refine CE.out.mono ?_
  rintro e w3 ⟨v3, xs, rfl, hso, hxs⟩
  obtain ⟨B, cp, rfl, hrd, -⟩ := hso.rd
  have X3 := Lib.hid (HX0.out.trans hso.ext)
  have HB3 := Lib.hid (HB0.out.ext hso.ext)
  have HR := Lib.hid hrd
  have HE := Lib.hid hxs
  have HXL : Hid (xs.length ≤ 536870913000) := by
    show _ ≤ _
    have := HEL.out
    rw [← hxs, List.length_map] at this
    exact this
  clear hso hxs hrd CE HEL HB0 HX0
  go_wp2_with fail
  go_loopw [6, 10] (fun _ i wr => ∃ k : Nat, i = .int .i64 (k : Int) ∧ k ≤ xs.length ∧ Hid (((xs.take k).map dl).any (hitP d) = false) ∧ Hid (Reg.Ext w wr) ∧ Hid (Rd wr B (scells xs)) ∧ Hid (Blk wr gd 38 (d.map byteV))) (fun _ i _ => xs.length - (intOf i).toNat)
  case atStart => exact ⟨0, rfl, Nat.zero_le _, rfl, X3, HR, HB3⟩
  case round =>
    obtain ⟨k, rfl, hk, HN, HX, HRk, HBx⟩ := hrel
    have hxl := HXL.out
    by_cases hks : k < xs.length
    · obtain ⟨ad, rfl, hcell⟩ := Rd.text HRk.out hks
      have hmem : dl xs[k] ∈ es := by rw [← HE.out]; exact List.mem_map_of_mem (List.getElem_mem hks)
      have hxs : xs[k].size ≤ 536870912 := by
        have h2 := HES.out _ hmem
        rw [← len_data]; exact h2
      have HT : Hid (((xs.take (k + 1)).map dl).any (hitP d) = (((xs.take k).map dl).any (hitP d) || hitP d (dl xs[k]))) := by
        show _ = _
        rw [List.take_succ_eq_append_getElem hks, List.map_append, List.any_append]
        simp
      have HY : Hid (hitP d (dl xs[k]) = true → matchP fs d = true) := fun h => by
        rw [HM.out]
        exact List.any_eq_true.2 ⟨_, hmem, h⟩
      clear hmem
      generalize xs[k] = x at *
      have t0 := test_star x
      have hhit : hitP d (dl x) = (decide (x.data.toList = [42]) || decide (trimP [87, 47] x.data.toList = tagL d)) := rfl
      by_cases h42 : x.data.toList = [42]
      · rw [decide_eq_true h42] at t0 hhit
        have HV := Lib.hid (HY.out (by rw [hhit]; rfl))
        clear h42 hhit HY HT HN
        go_wp2_with fail
        apply Reg.wp_tab Reg.Ext (by kernel_rfl) (by kernel_rfl) Reg.Ext.refl (fun _ _ _ => Reg.Ext.trans) (Reg.Ext.drew _)
        case' h =>
          intro O
          repeat (first
            | (apply Reg.TW.move_ Reg.Ext.refl _ rfl rfl
               · simp only [Act.put, Act.eval, List.setIfInBounds_toArray, List.set_cons_zero, List.set_cons_succ, Nat.reduceAdd, Array.getD_eq_getD_getElem?, List.getElem?_toArray, List.getElem?_cons_succ, List.getElem?_cons_zero, Option.getD_some]
                 rfl)
            | (apply Reg.TW.assign_ Reg.Ext.refl _ rfl rfl
               · simp only [Act.put, Act.eval, List.setIfInBounds_toArray, List.set_cons_zero, List.set_cons_succ, Nat.reduceAdd, Array.getD_eq_getD_getElem?, List.getElem?_toArray, List.getElem?_cons_succ, List.getElem?_cons_zero, Option.getD_some]
                 rfl)
            | (apply Reg.TW.skip_ rfl
               · simp only [Act.put, Act.eval, List.setIfInBounds_toArray, List.set_cons_zero, List.set_cons_succ, Nat.reduceAdd, Array.getD_eq_getD_getElem?, List.getElem?_toArray, List.getElem?_cons_succ, List.getElem?_cons_zero, Option.getD_some]
                 rfl)
            | (apply Reg.TW.pure_ rfl
               · intro w1 hw1 hf K hK
                 simp only [Act.put, List.setIfInBounds_toArray, List.set_cons_zero, List.set_cons_succ] at hK
                 have HK := Lib.hid hK
                 clear hf hK
                 skip
                 unfold Reg.One; dsimp only
                 go_wp2_with fail
                 exact HK.out _ (Reg.Ext.refl _)
               · simp only [Act.put, Act.eval, List.setIfInBounds_toArray, List.set_cons_zero, List.set_cons_succ, Nat.reduceAdd, Array.getD_eq_getD_getElem?, List.getElem?_toArray, List.getElem?_cons_succ, List.getElem?_cons_zero, Option.getD_some]
                 rfl))
          refine Reg.TW.nil_ ?_
          intro wn hwn _
          have HXn := Lib.hid (HX.out.trans hwn)
          clear hwn
          go_wp2_with fail
          go_ret
          exact ⟨by rw [HV.out]; rfl, HXn.out⟩
        all_goals rfl
      · rw [decide_eq_false h42] at t0 hhit
        rw [Bool.false_or] at hhit
        have CT := fun w => Lib.hid (trimP_any x ⟨#[87, 47]⟩ w (by omega) (by decide))
        rw [show (⟨#[87, 47]⟩ : ByteArray).data.toList = [87, 47] from rfl] at CT
        have CG := fun w => Lib.hid (tag_any d hd w)
        obtain ⟨T, hT⟩ : ∃ T : ByteArray, bl (trimP [87, 47] x.data.toList) = T := ⟨_, rfl⟩
        obtain ⟨G, hG⟩ : ∃ G : ByteArray, bl (tagL d) = G := ⟨_, rfl⟩
        rw [hT] at CT
        rw [hG] at CG
        have t1 := test_eq T G
        rw [show T.data.toList = trimP [87, 47] x.data.toList by rw [← hT, bl_l], show G.data.toList = tagL d by rw [← hG, bl_l], ← hhit] at t1
        clear hT hG h42
        cases hb : hitP d (dl x) with
        | true =>
          rw [hb] at t1
          have HV := Lib.hid (HY.out hb)
          clear hhit HY HT HN hb
          go_wp2_with fail
          apply Reg.wp_tab Reg.Ext (by kernel_rfl) (by kernel_rfl) Reg.Ext.refl (fun _ _ _ => Reg.Ext.trans) (Reg.Ext.drew _)
          case' h =>
            intro O
            repeat (first
              | (apply Reg.TW.move_ Reg.Ext.refl _ rfl rfl
                 · simp only [Act.put, Act.eval, List.setIfInBounds_toArray, List.set_cons_zero, List.set_cons_succ, Nat.reduceAdd, Array.getD_eq_getD_getElem?, List.getElem?_toArray, List.getElem?_cons_succ, List.getElem?_cons_zero, Option.getD_some]
                   rfl)
              | (apply Reg.TW.assign_ Reg.Ext.refl _ rfl rfl
                 · simp only [Act.put, Act.eval, List.setIfInBounds_toArray, List.set_cons_zero, List.set_cons_succ, Nat.reduceAdd, Array.getD_eq_getD_getElem?, List.getElem?_toArray, List.getElem?_cons_succ, List.getElem?_cons_zero, Option.getD_some]
                   rfl)
              | (apply Reg.TW.skip_ rfl
                 · simp only [Act.put, Act.eval, List.setIfInBounds_toArray, List.set_cons_zero, List.set_cons_succ, Nat.reduceAdd, Array.getD_eq_getD_getElem?, List.getElem?_toArray, List.getElem?_cons_succ, List.getElem?_cons_zero, Option.getD_some]
                   rfl)
              | (apply Reg.TW.pure_ rfl
                 · intro w1 hw1 hf K hK
                   simp only [Act.put, List.setIfInBounds_toArray, List.set_cons_zero, List.set_cons_succ] at hK
                   have HK := Lib.hid hK
                   clear hf hK
                   skip
                   unfold Reg.One; dsimp only
                   go_wp2_with fail
                   exact HK.out _ (Reg.Ext.refl _)
                 · simp only [Act.put, Act.eval, List.setIfInBounds_toArray, List.set_cons_zero, List.set_cons_succ, Nat.reduceAdd, Array.getD_eq_getD_getElem?, List.getElem?_toArray, List.getElem?_cons_succ, List.getElem?_cons_zero, Option.getD_some]
                   rfl))
            apply Reg.TW.call_ (c := .string T) (fun _ => True) rfl (fun _ _ _ h => h)
            · intro w1 hw1 hf K hK
              simp only [Act.put, List.setIfInBounds_toArray, List.set_cons_zero, List.set_cons_succ] at hK
              have HK := Lib.hid hK
              clear hK
              unfold Reg.One; dsimp only
              skip
              go_wp2_with fail
              refine ((CT _).out).mono ?_
              rintro e w' ⟨rfl, rfl⟩
              go_wp2_with fail
              exact HK.out _ (Reg.Ext.refl _) trivial
            · simp only [Act.put, Act.eval, List.setIfInBounds_toArray, List.set_cons_zero, List.set_cons_succ, Nat.reduceAdd, Array.getD_eq_getD_getElem?, List.getElem?_toArray, List.getElem?_cons_succ, List.getElem?_cons_zero, Option.getD_some]
              rfl
            apply Reg.TW.pure_ (c := .agg (d.map byteV).toArray) rfl
            · intro w1 hw1 hf K hK
              simp only [Act.put, List.setIfInBounds_toArray, List.set_cons_zero, List.set_cons_succ] at hK
              have HK := Lib.hid hK
              clear hK
              unfold Reg.One; dsimp only
              refine wpList_load_row rfl 38 _ rfl gd rfl 38 (d.map byteV).toArray (0, 0) _ (HBx.out.ext hw1) Tryd.underlying38 rfl (by rw [List.size_toArray, List.length_map, hd]; kernel_rfl) ?_
              simp only [Act.put, Act.eval, List.setIfInBounds_toArray, List.set_cons_zero, List.set_cons_succ, Nat.reduceAdd, Array.getD_eq_getD_getElem?, List.getElem?_toArray, List.getElem?_cons_succ, List.getElem?_cons_zero, Option.getD_some]
              go_wp2_with fail
              exact HK.out _ (Reg.Ext.refl _)
            · simp only [Act.put, Act.eval, List.setIfInBounds_toArray, List.set_cons_zero, List.set_cons_succ, Nat.reduceAdd, Array.getD_eq_getD_getElem?, List.getElem?_toArray, List.getElem?_cons_succ, List.getElem?_cons_zero, Option.getD_some]
              rfl
            apply Reg.TW.call_ (c := .string G) (fun _ => True) rfl (fun _ _ _ h => h)
            · intro w1 hw1 hf K hK
              simp only [Act.put, List.setIfInBounds_toArray, List.set_cons_zero, List.set_cons_succ] at hK
              have HK := Lib.hid hK
              clear hK
              unfold Reg.One; dsimp only
              skip
              go_wp2_with fail
              refine ((CG _).out).mono ?_
              rintro e w' ⟨rfl, hx⟩
              go_wp2_with fail
              exact HK.out _ hx trivial
            · simp only [Act.put, Act.eval, List.setIfInBounds_toArray, List.set_cons_zero, List.set_cons_succ, Nat.reduceAdd, Array.getD_eq_getD_getElem?, List.getElem?_toArray, List.getElem?_cons_succ, List.getElem?_cons_zero, Option.getD_some]
              rfl
            repeat (first
              | (apply Reg.TW.move_ Reg.Ext.refl _ rfl rfl
                 · simp only [Act.put, Act.eval, List.setIfInBounds_toArray, List.set_cons_zero, List.set_cons_succ, Nat.reduceAdd, Array.getD_eq_getD_getElem?, List.getElem?_toArray, List.getElem?_cons_succ, List.getElem?_cons_zero, Option.getD_some]
                   rfl)
              | (apply Reg.TW.assign_ Reg.Ext.refl _ rfl rfl
                 · simp only [Act.put, Act.eval, List.setIfInBounds_toArray, List.set_cons_zero, List.set_cons_succ, Nat.reduceAdd, Array.getD_eq_getD_getElem?, List.getElem?_toArray, List.getElem?_cons_succ, List.getElem?_cons_zero, Option.getD_some]
                   rfl)
              | (apply Reg.TW.skip_ rfl
                 · simp only [Act.put, Act.eval, List.setIfInBounds_toArray, List.set_cons_zero, List.set_cons_succ, Nat.reduceAdd, Array.getD_eq_getD_getElem?, List.getElem?_toArray, List.getElem?_cons_succ, List.getElem?_cons_zero, Option.getD_some]
                   rfl)
              | (apply Reg.TW.pure_ rfl
                 · intro w1 hw1 hf K hK
                   simp only [Act.put, List.setIfInBounds_toArray, List.set_cons_zero, List.set_cons_succ] at hK
                   have HK := Lib.hid hK
                   clear hf hK
                   skip
                   unfold Reg.One; dsimp only
                   go_wp2_with fail
                   exact HK.out _ (Reg.Ext.refl _)
                 · simp only [Act.put, Act.eval, List.setIfInBounds_toArray, List.set_cons_zero, List.set_cons_succ, Nat.reduceAdd, Array.getD_eq_getD_getElem?, List.getElem?_toArray, List.getElem?_cons_succ, List.getElem?_cons_zero, Option.getD_some]
                   rfl))
            refine Reg.TW.nil_ ?_
            intro wn hwn _
            have HXn := Lib.hid (HX.out.trans hwn)
            clear hwn
            go_wp2_with fail
            go_ret
            exact ⟨by rw [HV.out]; rfl, HXn.out⟩
          all_goals rfl
        | false =>
          rw [hb] at t1
          have HN2 : Hid (((xs.take (k + 1)).map dl).any (hitP d) = false) := by
            show _ = _
            rw [HT.out, HN.out, hb]; rfl
          clear hhit HY HT HN hb
          go_wp2_with fail
          apply Reg.wp_tab Reg.Ext (by kernel_rfl) (by kernel_rfl) Reg.Ext.refl (fun _ _ _ => Reg.Ext.trans) (Reg.Ext.drew _)
          case' h =>
            intro O
            repeat (first
              | (apply Reg.TW.move_ Reg.Ext.refl _ rfl rfl
                 · simp only [Act.put, Act.eval, List.setIfInBounds_toArray, List.set_cons_zero, List.set_cons_succ, Nat.reduceAdd, Array.getD_eq_getD_getElem?, List.getElem?_toArray, List.getElem?_cons_succ, List.getElem?_cons_zero, Option.getD_some]
                   rfl)
              | (apply Reg.TW.assign_ Reg.Ext.refl _ rfl rfl
                 · simp only [Act.put, Act.eval, List.setIfInBounds_toArray, List.set_cons_zero, List.set_cons_succ, Nat.reduceAdd, Array.getD_eq_getD_getElem?, List.getElem?_toArray, List.getElem?_cons_succ, List.getElem?_cons_zero, Option.getD_some]
                   rfl)
              | (apply Reg.TW.skip_ rfl
                 · simp only [Act.put, Act.eval, List.setIfInBounds_toArray, List.set_cons_zero, List.set_cons_succ, Nat.reduceAdd, Array.getD_eq_getD_getElem?, List.getElem?_toArray, List.getElem?_cons_succ, List.getElem?_cons_zero, Option.getD_some]
                   rfl)
              | (apply Reg.TW.pure_ rfl
                 · intro w1 hw1 hf K hK
                   simp only [Act.put, List.setIfInBounds_toArray, List.set_cons_zero, List.set_cons_succ] at hK
                   have HK := Lib.hid hK
                   clear hf hK
                   skip
                   unfold Reg.One; dsimp only
                   go_wp2_with fail
                   exact HK.out _ (Reg.Ext.refl _)
                 · simp only [Act.put, Act.eval, List.setIfInBounds_toArray, List.set_cons_zero, List.set_cons_succ, Nat.reduceAdd, Array.getD_eq_getD_getElem?, List.getElem?_toArray, List.getElem?_cons_succ, List.getElem?_cons_zero, Option.getD_some]
                   rfl))
            apply Reg.TW.call_ (c := .string T) (fun _ => True) rfl (fun _ _ _ h => h)
            · intro w1 hw1 hf K hK
              simp only [Act.put, List.setIfInBounds_toArray, List.set_cons_zero, List.set_cons_succ] at hK
              have HK := Lib.hid hK
              clear hK
              unfold Reg.One; dsimp only
              skip
              go_wp2_with fail
              refine ((CT _).out).mono ?_
              rintro e w' ⟨rfl, rfl⟩
              go_wp2_with fail
              exact HK.out _ (Reg.Ext.refl _) trivial
            · simp only [Act.put, Act.eval, List.setIfInBounds_toArray, List.set_cons_zero, List.set_cons_succ, Nat.reduceAdd, Array.getD_eq_getD_getElem?, List.getElem?_toArray, List.getElem?_cons_succ, List.getElem?_cons_zero, Option.getD_some]
              rfl
            apply Reg.TW.pure_ (c := .agg (d.map byteV).toArray) rfl
            · intro w1 hw1 hf K hK
              simp only [Act.put, List.setIfInBounds_toArray, List.set_cons_zero, List.set_cons_succ] at hK
              have HK := Lib.hid hK
              clear hK
              unfold Reg.One; dsimp only
              refine wpList_load_row rfl 38 _ rfl gd rfl 38 (d.map byteV).toArray (0, 0) _ (HBx.out.ext hw1) Tryd.underlying38 rfl (by rw [List.size_toArray, List.length_map, hd]; kernel_rfl) ?_
              simp only [Act.put, Act.eval, List.setIfInBounds_toArray, List.set_cons_zero, List.set_cons_succ, Nat.reduceAdd, Array.getD_eq_getD_getElem?, List.getElem?_toArray, List.getElem?_cons_succ, List.getElem?_cons_zero, Option.getD_some]
              go_wp2_with fail
              exact HK.out _ (Reg.Ext.refl _)
            · simp only [Act.put, Act.eval, List.setIfInBounds_toArray, List.set_cons_zero, List.set_cons_succ, Nat.reduceAdd, Array.getD_eq_getD_getElem?, List.getElem?_toArray, List.getElem?_cons_succ, List.getElem?_cons_zero, Option.getD_some]
              rfl
            apply Reg.TW.call_ (c := .string G) (fun _ => True) rfl (fun _ _ _ h => h)
            · intro w1 hw1 hf K hK
              simp only [Act.put, List.setIfInBounds_toArray, List.set_cons_zero, List.set_cons_succ] at hK
              have HK := Lib.hid hK
              clear hK
              unfold Reg.One; dsimp only
              skip
              go_wp2_with fail
              refine ((CG _).out).mono ?_
              rintro e w' ⟨rfl, hx⟩
              go_wp2_with fail
              exact HK.out _ hx trivial
            · simp only [Act.put, Act.eval, List.setIfInBounds_toArray, List.set_cons_zero, List.set_cons_succ, Nat.reduceAdd, Array.getD_eq_getD_getElem?, List.getElem?_toArray, List.getElem?_cons_succ, List.getElem?_cons_zero, Option.getD_some]
              rfl
            repeat (first
              | (apply Reg.TW.move_ Reg.Ext.refl _ rfl rfl
                 · simp only [Act.put, Act.eval, List.setIfInBounds_toArray, List.set_cons_zero, List.set_cons_succ, Nat.reduceAdd, Array.getD_eq_getD_getElem?, List.getElem?_toArray, List.getElem?_cons_succ, List.getElem?_cons_zero, Option.getD_some]
                   rfl)
              | (apply Reg.TW.assign_ Reg.Ext.refl _ rfl rfl
                 · simp only [Act.put, Act.eval, List.setIfInBounds_toArray, List.set_cons_zero, List.set_cons_succ, Nat.reduceAdd, Array.getD_eq_getD_getElem?, List.getElem?_toArray, List.getElem?_cons_succ, List.getElem?_cons_zero, Option.getD_some]
                   rfl)
              | (apply Reg.TW.skip_ rfl
                 · simp only [Act.put, Act.eval, List.setIfInBounds_toArray, List.set_cons_zero, List.set_cons_succ, Nat.reduceAdd, Array.getD_eq_getD_getElem?, List.getElem?_toArray, List.getElem?_cons_succ, List.getElem?_cons_zero, Option.getD_some]
                   rfl)
              | (apply Reg.TW.pure_ rfl
                 · intro w1 hw1 hf K hK
                   simp only [Act.put, List.setIfInBounds_toArray, List.set_cons_zero, List.set_cons_succ] at hK
                   have HK := Lib.hid hK
                   clear hf hK
                   skip
                   unfold Reg.One; dsimp only
                   go_wp2_with fail
                   exact HK.out _ (Reg.Ext.refl _)
                 · simp only [Act.put, Act.eval, List.setIfInBounds_toArray, List.set_cons_zero, List.set_cons_succ, Nat.reduceAdd, Array.getD_eq_getD_getElem?, List.getElem?_toArray, List.getElem?_cons_succ, List.getElem?_cons_zero, Option.getD_some]
                   rfl))
            refine Reg.TW.nil_ ?_
            intro wn hwn _
            have HXn := Lib.hid (HX.out.trans hwn)
            have HRn := Lib.hid (HRk.out.below hwn)
            have HBn := Lib.hid (HBx.out.ext hwn)
            clear hwn
            go_wp2_with fail
            go_roundw
            case rel => exact ⟨k + 1, by go_num, by omega, HN2, HXn, HRn, HBn⟩
            case measure => simp [intOf]; omega
          all_goals rfl
    · have hke : k = xs.length := by omega
      subst hke
      have hv : matchP fs d = false := by
        rw [HM.out, ← HE.out]
        have := HN.out
        rwa [List.take_length] at this
      have HV := Lib.hid hv
      clear hv HN
      go_wp2_with fail
      go_ret
      exact ⟨by rw [HV.out]; rfl, HX.out⟩
end Tst
end Go.Proofs.YtglnefmaphajaaaDoor

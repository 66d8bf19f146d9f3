/- Package field: cut. -/
import Derived.Test.YtglnefmaphajaaaDoorTasteW
import Derived.Test.YtglnefmaphajaaaDoorTrimW
set_option linter.unusedSimpArgs false
set_option linter.unusedVariables false
set_option linter.unusedSectionVars false
namespace Go.Proofs.YtglnefmaphajaaaDoor
open Go.RowKit
namespace Tst
open Fld
def dl (b : ByteArray) : List UInt8 := b.data.toList
/-- s[fr:k], as a list -/
def win (l : List UInt8) (fr k : Nat) : List UInt8 := (l.drop fr).take (k - fr)
theorem win_snoc {l : List UInt8} {fr k : Nat} {c : UInt8} (h : fr ≤ k) (hc : l[k]? = some c) : win l fr (k + 1) = win l fr k ++ [c] := by
  unfold win
  obtain ⟨hk, rfl⟩ := List.getElem?_eq_some_iff.1 hc
  have hl : k - fr < (l.drop fr).length := by rw [List.length_drop]; omega
  rw [show k + 1 - fr = (k - fr) + 1 by omega, List.take_succ_eq_append_getElem hl]
  simp [Nat.add_sub_cancel' h]
theorem win_self (l : List UInt8) (k : Nat) : win l k k = [] := by unfold win; rw [Nat.sub_self]; rfl
theorem win_end {l : List UInt8} {fr k : Nat} (h : l.length ≤ k) : win l fr k = l.drop fr := by
  unfold win
  exact List.take_of_length_le (by rw [List.length_drop]; omega)
/-- where a cut stands -/
def At (sp : UInt8) (l : List UInt8) (xs : List ByteArray) (fr k : Nat) (q : Bool) : Prop := cutP sp l = xs.map dl ++ cutG sp q (win l fr k) (l.drop k)
theorem At.quote {sp : UInt8} {l : List UInt8} {xs : List ByteArray} {fr k : Nat} {q : Bool} {c : UInt8} (h : At sp l xs fr k q) (hf : fr ≤ k) (hc : l[k]? = some c) (e : c = 34) : At sp l xs fr (k + 1) (!q) := by
  unfold At at *
  obtain ⟨hk, hcc⟩ := List.getElem?_eq_some_iff.1 hc
  rw [h, List.drop_eq_getElem_cons hk, hcc, win_snoc hf hc]
  conv => lhs; unfold cutG
  rw [if_pos e]
theorem At.next {sp : UInt8} {l : List UInt8} {xs : List ByteArray} {fr k : Nat} {q : Bool} {c : UInt8} (h : At sp l xs fr k q) (hf : fr ≤ k) (hc : l[k]? = some c) (e : c ≠ 34) (e2 : ¬ (c = 92 ∧ q = true)) (e3 : ¬ (c = sp ∧ q = false)) : At sp l xs fr (k + 1) q := by
  unfold At at *
  obtain ⟨hk, hcc⟩ := List.getElem?_eq_some_iff.1 hc
  rw [h, List.drop_eq_getElem_cons hk, hcc, win_snoc hf hc]
  conv => lhs; unfold cutG
  rw [if_neg e, if_neg e2, if_neg e3]
theorem At.esc {sp : UInt8} {l : List UInt8} {xs : List ByteArray} {fr k : Nat} {c : UInt8} (h : At sp l xs fr k true) (hf : fr ≤ k) (hc : l[k]? = some c) (e : c = 92) : At sp l xs fr (k + 2) true := by
  unfold At at *
  obtain ⟨hk, hcc⟩ := List.getElem?_eq_some_iff.1 hc
  rw [h, List.drop_eq_getElem_cons hk, hcc]
  conv => lhs; unfold cutG
  rw [if_neg (by rw [e]; decide), if_pos ⟨e, rfl⟩]
  rcases Nat.lt_or_ge (k + 1) l.length with hk1 | hk1
  · have hc1 : l[k + 1]? = some l[k + 1] := List.getElem?_eq_getElem hk1
    rw [List.drop_eq_getElem_cons hk1, win_snoc (k := k + 1) (by omega) hc1, win_snoc hf hc]
    simp
  · rw [List.drop_of_length_le hk1, List.drop_of_length_le (show l.length ≤ k + 2 by omega), win_end (show l.length ≤ k + 2 by omega), ← win_end (show l.length ≤ k + 1 by omega) (fr := fr), win_snoc hf hc]
    rfl
theorem At.cut {sp : UInt8} {l : List UInt8} {xs : List ByteArray} {fr k : Nat} {c : UInt8} {T : ByteArray} (h : At sp l xs fr k false) (hc : l[k]? = some c) (e : c ≠ 34) (e3 : c = sp) (hT : dl T = trimL (win l fr k)) : At sp l (xs ++ [T]) (k + 1) (k + 1) false := by
  unfold At at *
  obtain ⟨hk, hcc⟩ := List.getElem?_eq_some_iff.1 hc
  rw [h, List.drop_eq_getElem_cons hk, hcc, win_self, List.map_append, List.append_assoc]
  conv => lhs; unfold cutG
  rw [if_neg e, if_neg (by rintro ⟨_, h⟩; cases h), if_pos ⟨e3, rfl⟩, ← hT]
  rfl
theorem At.last {sp : UInt8} {l : List UInt8} {xs : List ByteArray} {fr k : Nat} {q : Bool} {T : ByteArray} (h : At sp l xs fr k q) (hk : l.length ≤ k) (hT : dl T = trimL (l.drop fr)) : cutP sp l = (xs ++ [T]).map dl := by
  unfold At at h
  rw [h, List.drop_of_length_le hk, win_end hk, List.map_append]
  unfold cutG
  rw [← hT]
  rfl
theorem ext_win (s : ByteArray) (fr k : Nat) : (s.extract fr k).data.toList = win s.data.toList fr k := ext_data s fr k
set_option maxRecDepth 100000 in
set_option maxHeartbeats 8000000 in
theorem cut_any (s : ByteArray) (sp : UInt8) (w : World) (hs : s.size ≤ 17179869184) :
    Calls Tryd.prog 28 #[.string s, .int .u8 (sp.toNat : Int)] w fun e w' => ∃ v xs, e = .returned v ∧ SOwn w w' v xs ∧ xs.map dl = cutP sp s.data.toList := by
  go_enter Tryd.func28, Tryd.ntmps28
  go_wp2_with fail
  go_loopw [4, 5, 6, 7, 8] (fun v f q i _ wr => ∃ (xs : List ByteArray) (fr k : Nat) (qd : Bool), f = .int .i64 (fr : Int) ∧ i = .int .i64 (k : Int) ∧ q = .bool qd ∧ fr ≤ k ∧ fr ≤ s.size ∧ k ≤ s.size + 1 ∧ Hid (At sp s.data.toList xs fr k qd) ∧ Hid (SOwn w wr v xs) ∧ Hid (xs.length ≤ k)) (fun _ _ _ i _ _ => s.size + 1 - (intOf i).toNat)
  case atStart => exact ⟨[], 0, 0, false, rfl, rfl, rfl, Nat.le_refl _, Nat.zero_le _, Nat.zero_le _, Lib.hid (by unfold At; rw [win_self]; rfl), SOwn.nil_ w w (Reg.Ext.refl w), Nat.zero_le _⟩
  case round =>
    obtain ⟨xs, fr, k, qd, rfl, rfl, rfl, hfk, hfs, hks, HA, HO, HXL⟩ := hrel
    by_cases hk : k < s.size
    · have hkl : k < s.data.toList.length := by rw [len_data]; exact hk
      have hsk : s[k] = s.data.toList[k]'hkl := rfl
      have hck : s.data.toList[k]? = some s[k] := List.getElem?_eq_getElem hkl
      have HC := Lib.hid hck
      clear hck hsk
      generalize hc : s[k] = c at *
      have d0 : decide ((k : Int) < (s.size : Int)) = true := by rw [decide_eq_true_iff]; omega
      by_cases h34 : c = 34
      · have d1 : ((c.toNat : Int) == 34) = true := by rw [h34]; rfl
        have HA2 := Lib.hid (HA.out.quote hfk HC.out h34)
        have HXL2 : Hid (xs.length ≤ k + 1) := Nat.le_succ_of_le HXL.out
        clear h34 HA HC
        go_wp2_with fail
        go_roundw
        case rel => exact ⟨xs, fr, k + 1, !qd, rfl, by go_num, rfl, by omega, hfs, by omega, HA2, HO, HXL2⟩
        case measure => simp [intOf]; omega
      have d1 : ((c.toNat : Int) == 34) = false := by
        rw [beq_eq_false_iff_ne]; intro e; exact h34 (UInt8.toNat_inj.1 (by show c.toNat = 34; omega))
      by_cases h92 : c = 92
      · have d2 : ((c.toNat : Int) == 92) = true := by rw [h92]; rfl
        cases qd with
        | true =>
          have HA2 := Lib.hid (HA.out.esc hfk HC.out h92)
          have HXL2 : Hid (xs.length ≤ k + 2) := by have := HXL.out; exact Lib.hid (by omega)
          clear h34 h92 HA HC
          go_wp2_with fail
          go_roundw
          case rel => exact ⟨xs, fr, k + 2, true, rfl, by go_num, rfl, by omega, hfs, by omega, HA2, HO, HXL2⟩
          case measure => simp [intOf]; omega
        | false =>
          by_cases hsp : c = sp
          · have d3 : ((c.toNat : Int) == (sp.toNat : Int)) = true := by rw [hsp]; simp
            obtain ⟨T, hT⟩ : ∃ T : ByteArray, (⟨(Lib.trimS (s.extract fr k).data.toList [32, 9]).toArray⟩ : ByteArray) = T := ⟨_, rfl⟩
            have hTl : dl T = trimL (win s.data.toList fr k) := by rw [← hT, ← ext_win]; rfl
            have HA2 := Lib.hid (HA.out.cut HC.out h34 hsp hTl)
            have CT := fun w => Lib.hid (Fld.trim_any (s.extract fr k) w (ext_le _ _ _ (by omega)))
            rw [hT] at CT
            clear hT hTl HA HC hsp h34 h92
            go_wp2_with fail
            refine (CT wr).out.mono ?_
            rintro e w1 ⟨rfl, x1⟩
            have HO1 := Lib.hid (HO.out.later x1)
            clear x1 HO CT
            rename_i hK
            refine hK _ _ ?_
            iterate 3 go_step
            have ha := Reg.Ext.alloc w1 (.cells #[.string T] 9)
            have hc0 := (Blk.new w1 9 #[.string T]).cell 0
            have HO2 := Lib.hid (HO1.out.later ha)
            clear ha HO1
            generalize w1.alloc (.cells #[.string T] 9) = w2 at *
            generalize w1.heap.size = g2 at *
            refine SOwn.push rfl _ _ rfl u4 xs T rfl w w2 g2 HO2.out rfl hc0 (by have := HXL.out; omega) fun v' w3 h3 _ _ => ?_
            have HO3 := Lib.hid h3
            have HXL2 : Hid ((xs ++ [T]).length ≤ k + 1) := by have := HXL.out; exact Lib.hid (by rw [List.length_append, List.length_singleton]; omega)
            clear h3 HO2 hc0 HXL
            simp only [Act.put, Act.eval, List.setIfInBounds_toArray, List.set_cons_zero, List.set_cons_succ, Nat.reduceAdd, Array.getD_eq_getD_getElem?, List.getElem?_toArray, List.getElem?_cons_succ, List.getElem?_cons_zero, Option.getD_some]
            go_wp2_with fail
            go_roundw
            case rel => exact ⟨xs ++ [T], k + 1, k + 1, false, by go_num, by go_num, rfl, Nat.le_refl _, by omega, by omega, HA2, HO3, HXL2⟩
            case measure => simp [intOf]; omega
          · have d3 : ((c.toNat : Int) == (sp.toNat : Int)) = false := by
              rw [beq_eq_false_iff_ne]; intro e; exact hsp (UInt8.toNat_inj.1 (by omega))
            have HA2 := Lib.hid (HA.out.next hfk HC.out h34 (fun h => by cases h.2) (fun h => hsp h.1))
            have HXL2 : Hid (xs.length ≤ k + 1) := Nat.le_succ_of_le HXL.out
            clear h34 h92 hsp HA HC
            go_wp2_with fail
            go_roundw
            case rel => exact ⟨xs, fr, k + 1, false, rfl, by go_num, rfl, by omega, hfs, by omega, HA2, HO, HXL2⟩
            case measure => simp [intOf]; omega
      · have d2 : ((c.toNat : Int) == 92) = false := by
          rw [beq_eq_false_iff_ne]; intro e; exact h92 (UInt8.toNat_inj.1 (by show c.toNat = 92; omega))
        cases qd with
        | true =>
          have HA2 := Lib.hid (HA.out.next hfk HC.out h34 (fun h => h92 h.1) (fun h => by cases h.2))
          have HXL2 : Hid (xs.length ≤ k + 1) := Nat.le_succ_of_le HXL.out
          obtain ⟨q3, d3⟩ : ∃ q3, ((c.toNat : Int) == (sp.toNat : Int)) = q3 := ⟨_, rfl⟩
          clear h34 h92 HA HC
          cases q3 with
          | true =>
            go_wp2_with fail
            go_roundw
            case rel => exact ⟨xs, fr, k + 1, true, rfl, by go_num, rfl, by omega, hfs, by omega, HA2, HO, HXL2⟩
            case measure => simp [intOf]; omega
          | false =>
            go_wp2_with fail
            go_roundw
            case rel => exact ⟨xs, fr, k + 1, true, rfl, by go_num, rfl, by omega, hfs, by omega, HA2, HO, HXL2⟩
            case measure => simp [intOf]; omega
        | false =>
          by_cases hsp : c = sp
          · have d3 : ((c.toNat : Int) == (sp.toNat : Int)) = true := by rw [hsp]; simp
            obtain ⟨T, hT⟩ : ∃ T : ByteArray, (⟨(Lib.trimS (s.extract fr k).data.toList [32, 9]).toArray⟩ : ByteArray) = T := ⟨_, rfl⟩
            have hTl : dl T = trimL (win s.data.toList fr k) := by rw [← hT, ← ext_win]; rfl
            have HA2 := Lib.hid (HA.out.cut HC.out h34 hsp hTl)
            have CT := fun w => Lib.hid (Fld.trim_any (s.extract fr k) w (ext_le _ _ _ (by omega)))
            rw [hT] at CT
            clear hT hTl HA HC hsp h34 h92
            go_wp2_with fail
            refine (CT wr).out.mono ?_
            rintro e w1 ⟨rfl, x1⟩
            have HO1 := Lib.hid (HO.out.later x1)
            clear x1 HO CT
            rename_i hK
            refine hK _ _ ?_
            iterate 3 go_step
            have ha := Reg.Ext.alloc w1 (.cells #[.string T] 9)
            have hc0 := (Blk.new w1 9 #[.string T]).cell 0
            have HO2 := Lib.hid (HO1.out.later ha)
            clear ha HO1
            generalize w1.alloc (.cells #[.string T] 9) = w2 at *
            generalize w1.heap.size = g2 at *
            refine SOwn.push rfl _ _ rfl u4 xs T rfl w w2 g2 HO2.out rfl hc0 (by have := HXL.out; omega) fun v' w3 h3 _ _ => ?_
            have HO3 := Lib.hid h3
            have HXL2 : Hid ((xs ++ [T]).length ≤ k + 1) := by have := HXL.out; exact Lib.hid (by rw [List.length_append, List.length_singleton]; omega)
            clear h3 HO2 hc0 HXL
            simp only [Act.put, Act.eval, List.setIfInBounds_toArray, List.set_cons_zero, List.set_cons_succ, Nat.reduceAdd, Array.getD_eq_getD_getElem?, List.getElem?_toArray, List.getElem?_cons_succ, List.getElem?_cons_zero, Option.getD_some]
            go_wp2_with fail
            go_roundw
            case rel => exact ⟨xs ++ [T], k + 1, k + 1, false, by go_num, by go_num, rfl, Nat.le_refl _, by omega, by omega, HA2, HO3, HXL2⟩
            case measure => simp [intOf]; omega
          · have d3 : ((c.toNat : Int) == (sp.toNat : Int)) = false := by
              rw [beq_eq_false_iff_ne]; intro e; exact hsp (UInt8.toNat_inj.1 (by omega))
            have HA2 := Lib.hid (HA.out.next hfk HC.out h34 (fun h => h92 h.1) (fun h => hsp h.1))
            have HXL2 : Hid (xs.length ≤ k + 1) := Nat.le_succ_of_le HXL.out
            clear h34 h92 hsp HA HC
            go_wp2_with fail
            go_roundw
            case rel => exact ⟨xs, fr, k + 1, false, rfl, by go_num, rfl, by omega, hfs, by omega, HA2, HO, HXL2⟩
            case measure => simp [intOf]; omega
    · have d0 : decide ((k : Int) < (s.size : Int)) = false := by rw [decide_eq_false_iff_not]; omega
      obtain ⟨T, hT⟩ : ∃ T : ByteArray, (⟨(Lib.trimS (s.extract fr s.size).data.toList [32, 9]).toArray⟩ : ByteArray) = T := ⟨_, rfl⟩
      have hTl : dl T = trimL (s.data.toList.drop fr) := by rw [← hT, ← ext_from]; rfl
      have HL := Lib.hid (HA.out.last (by rw [len_data]; omega) hTl)
      have CT := fun w => Lib.hid (Fld.trim_any (s.extract fr s.size) w (ext_le _ _ _ (by omega)))
      rw [hT] at CT
      clear hT hTl HA
      go_wp2_with fail
      refine (CT wr).out.mono ?_
      rintro e w1 ⟨rfl, x1⟩
      have HO1 := Lib.hid (HO.out.later x1)
      clear x1 HO CT
      rename_i hK
      refine hK _ _ ?_
      iterate 3 go_step
      have ha := Reg.Ext.alloc w1 (.cells #[.string T] 9)
      have hc0 := (Blk.new w1 9 #[.string T]).cell 0
      have HO2 := Lib.hid (HO1.out.later ha)
      clear ha HO1
      generalize w1.alloc (.cells #[.string T] 9) = w2 at *
      generalize w1.heap.size = g2 at *
      refine SOwn.push rfl _ _ rfl u4 xs T rfl w w2 g2 HO2.out rfl hc0 (by have := HXL.out; omega) fun v' w3 h3 _ _ => ?_
      have HO3 := Lib.hid h3
      clear h3 HO2 hc0
      simp only [Act.put, Act.eval, List.setIfInBounds_toArray, List.set_cons_zero, List.set_cons_succ, Nat.reduceAdd, Array.getD_eq_getD_getElem?, List.getElem?_toArray, List.getElem?_cons_succ, List.getElem?_cons_zero, Option.getD_some]
      go_wp2_with fail
      go_ret
      exact ⟨v', xs ++ [T], rfl, HO3.out, HL.out.symm⟩
end Tst
end Go.Proofs.YtglnefmaphajaaaDoor

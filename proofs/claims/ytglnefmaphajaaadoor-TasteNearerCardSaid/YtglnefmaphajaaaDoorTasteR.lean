/- Package taste: Quality. -/
import Derived.Test.YtglnefmaphajaaaDoorTasteQ
set_option linter.unusedSimpArgs false
set_option linter.unusedVariables false
set_option linter.unusedSectionVars false
namespace Go.Proofs.YtglnefmaphajaaaDoor
open Go.RowKit
namespace Tst
open Fld
theorem unqG_len : ∀ (n : Nat) (l : List UInt8) (_ : l.length ≤ n) (out : List UInt8), (unqG out l).1.length ≤ out.length + l.length
  | n, [], _, _ => by unfold unqG; simp
  | 0, c :: l, h, _ => by simp at h
  | n + 1, b :: l, h, out => by
    have hl : l.length ≤ n := by simpa using h
    unfold unqG
    split
    · simp
    split
    · cases l with
      | nil => simp
      | cons c l =>
        have := unqG_len n l (by simp at hl; omega) (out ++ [c])
        simp only [List.length_append, List.length_cons, List.length_nil] at *; omega
    · have := unqG_len n l hl (out ++ [b])
      simp only [List.length_append, List.length_cons, List.length_nil] at *; omega
theorem unqP_len (l : List UInt8) : (unqP l).1.length ≤ l.length := by
  unfold unqP
  split
  · exact Nat.le_refl _
  · match l with
    | [] => exact Nat.le_refl _
    | [_] => exact Nat.zero_le _
    | b :: c :: l =>
      show (if b = 34 then unqG [] (c :: l) else ([], false)).1.length ≤ _
      split
      · have := unqG_len _ (c :: l) (Nat.le_refl _) []
        simp only [List.length_cons, List.length_nil] at *; omega
      · exact Nat.zero_le _
theorem paramP_len (t : List UInt8) : (paramP t).1.2.length ≤ t.length := by
  unfold paramP
  split
  · exact Nat.le_trans (unqP_len _) (cut1_le 61 t).2
  · exact Nat.zero_le _
theorem paramsG_len : ∀ (ts : List (List UInt8)) (ps : List (List UInt8 × List UInt8)) (M : Nat), (∀ t ∈ ts, t.length ≤ M) → paramsG ts = some ps → ∀ p ∈ ps, p.2.length ≤ M
  | [], ps, M, _, h, p, hp => by
    injection h with h
    subst h
    cases hp
  | x :: xs, ps, M, hM, h, p, hp => by
    have ih := fun ps h => paramsG_len xs ps M (fun t ht => hM t (List.mem_cons_of_mem _ ht)) h
    unfold paramsG at h
    split at h
    · exact ih ps h p hp
    split at h
    · obtain ⟨qs, hq, rfl⟩ := Option.map_eq_some_iff.1 h
      rcases List.mem_cons.1 hp with rfl | hp
      · exact Nat.le_trans (paramP_len x) (hM x List.mem_cons_self)
      · exact ih qs hq p hp
    · cases h
theorem params_sz {l : List UInt8} {ps : List (List UInt8 × List UInt8)} (h : paramsP l = some ps) : ∀ p ∈ ps, p.2.length ≤ l.length :=
  paramsG_len _ ps l.length (fun t ht => (cutP_infix 59 (List.mem_of_mem_tail ht)).length_le) h
theorem head_len (l : List UInt8) : (headP l).length ≤ l.length := by
  unfold headP
  cases h : cutP 59 l with
  | nil => exact Nat.zero_le _
  | cons p ps => exact (cutP_infix 59 (by rw [h]; exact List.mem_cons_self)).length_le
theorem elems_sz (name : List UInt8) {fs : List Fld} {M : Nat} (h : ∀ f ∈ fs, f.2.size ≤ M) : ∀ x ∈ elemsP name fs, x.length ≤ M := by
  intro x hx
  unfold elemsP at hx
  obtain ⟨f, hf, hx⟩ := List.mem_flatMap.1 hx
  have hf := (List.mem_filter.1 hf).1
  have hx := (List.mem_filter.1 hx).1
  have := (cutP_infix 44 hx).length_le
  rw [len_data] at this
  exact Nat.le_trans this (h f hf)
theorem paramsG_cnt : ∀ (ts : List (List UInt8)) (ps : List (List UInt8 × List UInt8)), paramsG ts = some ps → ps.length ≤ ts.length
  | [], ps, h => by
    injection h with h
    subst h
    exact Nat.le_refl _
  | x :: xs, ps, h => by
    unfold paramsG at h
    split at h
    · exact Nat.le_succ_of_le (paramsG_cnt xs ps h)
    split at h
    · obtain ⟨qs, hq, rfl⟩ := Option.map_eq_some_iff.1 h
      have := paramsG_cnt xs qs hq
      simp only [List.length_cons]; omega
    · cases h
theorem params_cnt {l : List UInt8} {ps : List (List UInt8 × List UInt8)} (h : paramsP l = some ps) : ps.length ≤ l.length + 1 := by
  have h1 := paramsG_cnt _ _ h
  rw [List.length_tail] at h1
  have h2 := cutP_len 59 l
  omega
theorem Fl.of_own {W0 w : World} {v : Value} {fs : List Fld} (h : FOwn W0 w v fs) : ∃ A cap, v = .slice A fs.length cap ∧ Fl w A fs := by
  obtain ⟨A, cap, e, hr, hA⟩ := h.rdo
  refine ⟨A, cap, e, fun k hk => ?_⟩
  obtain ⟨ad, rfl, hlt, h1, h2⟩ := RdF.at_ (w := w) (A := A) (fs := fs) hr k hk
  obtain ⟨g, rfl, _⟩ := hA ad rfl
  rw [add_plain] at h1 h2
  exact ⟨g, 0, rfl, hlt, h1, h2⟩
def stQ (kind : List UInt8) (xs : List ByteArray) (k : Nat) : Nat × Nat := ((xs.take k).map dl).foldl (stepQ kind) (0, 0)
theorem stQ_succ (kind : List UInt8) {xs : List ByteArray} {k : Nat} {x : ByteArray} (h : xs[k]? = some x) : stQ kind xs (k + 1) = stepQ kind (stQ kind xs k) (dl x) := by
  obtain ⟨hk, rfl⟩ := List.getElem?_eq_some_iff.1 h
  unfold stQ
  rw [List.take_succ_eq_append_getElem hk, List.map_append, List.foldl_append]
  rfl
theorem step_lt {kind : List UInt8} {st : Nat × Nat} {x : List UInt8} (h : st.1 < 18446744073709551616) : (stepQ kind st x).1 < 18446744073709551616 := by
  unfold stepQ
  split
  · exact h
  · next ps _ =>
    split
    · exact h
    · show (if _ then _ else _) < _
      split
      · exact weight_lt ps
      · exact h
theorem near_le (s k : List UInt8) : nearP s k ≤ 3 := by
  unfold nearP
  split
  · omega
  · unfold nearT
    repeat (first | split | omega)
theorem stQ_lt (kind : List UInt8) (xs : List ByteArray) : ∀ k, (stQ kind xs k).1 < 18446744073709551616
  | 0 => by show 0 < _; omega
  | k + 1 => by
    cases h : xs[k]? with
    | none =>
      have h2 : xs.length ≤ k := List.getElem?_eq_none_iff.1 h
      have e : stQ kind xs (k + 1) = stQ kind xs k := by unfold stQ; rw [List.take_of_length_le h2, List.take_of_length_le (by omega)]
      rw [e]; exact stQ_lt kind xs k
    | some x => rw [stQ_succ kind h]; exact step_lt (stQ_lt kind xs k)
set_option maxRecDepth 100000 in
set_option maxHeartbeats 16000000 in
theorem quality_any (A : Option Addr) (cap : Nat) (fs : List Fld) (K : ByteArray) (w : World) (HF : Hid (Fl w A fs)) (HS : Hid (Sz fs)) (hK : K.size ≤ 9223372036854775807) :
    Calls Tryd.prog 9 #[.slice A fs.length cap, .string K] w fun e w' => e = .returned (.float .f64 (qualP fs K.data.toList)) ∧ Reg.Ext w w' := by
  have CT := Lib.hid (isType_any K w (by omega))
  have CG := fun w' (h : Reg.Ext w w') => Lib.hid (get_any A cap fs ⟨#[65, 99, 99, 101, 112, 116]⟩ w' (Lib.hid (HF.out.ext h)) HS (by decide))
  have CE := fun w' (h : Reg.Ext w w') => Lib.hid (elements_any A cap fs ⟨#[65, 99, 99, 101, 112, 116]⟩ w' (Lib.hid (HF.out.ext h)) HS (by decide))
  rw [show (⟨#[65, 99, 99, 101, 112, 116]⟩ : ByteArray).data.toList = acceptL from rfl] at CG CE
  have hqp : qualP fs K.data.toList = if (splitT K.data.toList).isSome = false then 0 else if (fs.filter (named acceptL)).length = 0 then ONE else ((elemsP acceptL fs).foldl (stepQ K.data.toList) (0, 0)).1 := rfl
  have HEZ : Hid (∀ x ∈ elemsP acceptL fs, x.length ≤ 536870912) := elems_sz acceptL fun f hf => (HS.out.2 f hf).2
  have HEL : Hid ((elemsP acceptL fs).length ≤ 536870913000) := by
    have h1 := elems_len acceptL 536870912 fs fun f hf => (HS.out.2 f hf).2
    have h2 := HS.out.1
    show _ ≤ _
    omega
  have HQ := Lib.hid hqp
  generalize (fs.filter (named acceptL)).length = nA at *
  generalize elemsP acceptL fs = es at *
  clear hqp
  go_enter Tryd.func9, Tryd.ntmps9
  go_wp2_with fail
  go_step3
  go_wp2_with fail
  refine CT.out.mono ?_
  rintro e w1 ⟨rfl, x1⟩
  have X1 := Lib.hid x1
  clear x1 CT
  cases ht : (splitT K.data.toList).isSome with
  | false =>
    have HV := Lib.hid (show qualP fs K.data.toList = 0 by rw [HQ.out, ht]; rfl)
    clear ht
    go_wp2_with fail
    rw [Exit.noGoto_ret]
    go_ret
    exact ⟨by rw [HV.out]; rfl, X1.out⟩
  | true =>
  go_wp2_with fail
  refine (CG w1 X1.out).out.mono ?_
  rintro e w2 ⟨V, rfl, x2⟩
  have X2 := Lib.hid (X1.out.trans x2)
  clear x2 CG
  by_cases hn : nA = 0
  · have d0 : ((nA : Int) == 0) = true := by rw [beq_iff_eq]; omega
    have HV := Lib.hid (show qualP fs K.data.toList = 4607182418800017408 by rw [HQ.out, ht, if_neg (by decide), if_pos hn]; rfl)
    clear ht hn
    go_wp2_with fail
    rw [Exit.noGoto_ret]
    go_ret
    exact ⟨by rw [HV.out]; rfl, X2.out⟩
  have d0 : ((nA : Int) == 0) = false := by rw [beq_eq_false_iff_ne]; omega
  have HV := Lib.hid (show qualP fs K.data.toList = (es.foldl (stepQ K.data.toList) (0, 0)).1 by rw [HQ.out, ht, if_neg (by decide), if_neg hn])
  clear ht hn HQ
  go_wp2_with fail
  go_step3
  go_wp2_with fail
  refine (CE w2 X2.out).out.mono ?_
  rintro e w3 ⟨v3, xs, rfl, hso, hxs⟩
  obtain ⟨B, cp, rfl, hrd, -⟩ := hso.rd
  have X3 := Lib.hid (X2.out.trans hso.ext)
  have HR := Lib.hid hrd
  have HE := Lib.hid hxs
  have HXL : Hid (xs.length ≤ 536870913000) := by
    show _ ≤ _
    have := HEL.out
    rw [← hxs, List.length_map] at this
    exact this
  clear hso hxs hrd CE HEL
  go_wp2_with fail
  go_loopw [4, 7, 9, 10, 11, 12, 13, 14, 15, 29] (fun out best _ _ _ _ _ _ _ i wr => ∃ k : Nat, i = .int .i64 (k : Int) ∧ k ≤ xs.length ∧ out = .float .f64 (stQ K.data.toList xs k).1 ∧ best = .int .i64 ((stQ K.data.toList xs k).2 : Int) ∧ Hid (Reg.Ext w wr) ∧ Hid (Rd wr B (scells xs))) (fun _ _ _ _ _ _ _ _ _ i _ => xs.length - (intOf i).toNat)
  case atStart => exact ⟨0, rfl, Nat.zero_le _, rfl, rfl, X3, HR⟩
  case round =>
    obtain ⟨k, rfl, hk, rfl, rfl, HX, HRk⟩ := hrel
    have hxl := HXL.out
    by_cases hks : k < xs.length
    · obtain ⟨ad, rfl, hcell⟩ := Rd.text HRk.out hks
      have hxk : xs[k]? = some xs[k] := List.getElem?_eq_getElem hks
      have hxs : xs[k].size ≤ 536870912 := by
        have h1 : dl xs[k] ∈ es := by rw [← HE.out]; exact List.mem_map_of_mem (List.getElem_mem hks)
        have h2 := HEZ.out _ h1
        rw [← len_data]; exact h2
      have hst : stQ K.data.toList xs (k + 1) = stepQ K.data.toList ((stQ K.data.toList xs k).1, (stQ K.data.toList xs k).2) (dl xs[k]) := stQ_succ K.data.toList hxk
      clear hxk
      generalize xs[k] = x at *
      have hlt := stQ_lt K.data.toList xs k
      have HST := Lib.hid hst
      have HSL : Hid ((stQ K.data.toList xs (k + 1)).1 = (stQ K.data.toList xs (k + 1)).1) := rfl
      clear hst
      generalize (stQ K.data.toList xs k).1 = ob at *
      generalize (stQ K.data.toList xs k).2 = b at *
      have CP := fun w => Lib.hid (params_any x w hxs)
      go_wp2_with fail
      refine (CP wr).out.mono ?_
      rintro e w4 ⟨hp, x4⟩
      have HX4 := Lib.hid (HX.out.trans x4)
      have HR4 := Lib.hid (HRk.out.below x4)
      clear CP hcell HX HRk
      rcases hp with ⟨hp, rfl⟩ | ⟨H, v, fs2, hp, hH, rfl, ho⟩
      · have HS2 : Hid (stQ K.data.toList xs (k + 1) = (ob, b)) := HST.out.trans (by unfold stepQ; rw [show paramsP (dl x) = none from hp])
        clear hp x4 HST HSL
        go_wp2_with fail
        go_roundw
        case rel => exact ⟨k + 1, by go_num, by omega, by rw [HS2.out], by rw [HS2.out], HX4, HR4⟩
        case measure => simp [intOf]; omega
      · obtain ⟨C, cp2, rfl, hfl⟩ := Fl.of_own ho
        have hp1 : paramsP (dl x) = some (fs2.map pd) := hp
        have hcnt : fs2.length ≤ 536870913 := by
          have h1 := params_cnt hp1
          rw [List.length_map] at h1
          have h2 : (dl x).length = x.size := len_data x
          omega
        have HZ2 : Hid (∀ f ∈ fs2, f.2.size ≤ 274877906944) := fun f hf => by
          have h1 := params_sz hp1 (pd f) (List.mem_map_of_mem hf)
          have h2 : (dl x).length = x.size := len_data x
          have h3 : (pd f).2.length = f.2.size := len_data f.2
          omega
        have hHs : H.size ≤ 536870912 := by
          have h1 := head_len (dl x)
          have h2 : (dl x).length = x.size := len_data x
          rw [show headP (dl x) = dl H from hH.symm, show (dl H).length = H.size from len_data H] at h1
          omega
        have hql := weight_lt (fs2.map pd)
        have CW := fun w' (h : Reg.Ext w4 w') => Lib.hid (weight_any C cp2 fs2 w' (Lib.hid (hfl.ext h)) hcnt HZ2)
        have CN := fun w => Lib.hid (near_any H K w (by omega) (by omega))
        have hst2 : stQ K.data.toList xs (k + 1) = if ((weightP (fs2.map pd)).2 = false ∨ nearP H.data.toList K.data.toList = 0) ∨ nearP H.data.toList K.data.toList < b then (ob, b)
            else (if b < nearP H.data.toList K.data.toList ∨ FloatP.less ob (weightP (fs2.map pd)).1 = true then (weightP (fs2.map pd)).1 else ob, nearP H.data.toList K.data.toList) := by
          rw [HST.out]
          unfold stepQ
          rw [hp1]
          rw [show headP (dl x) = H.data.toList from hH.symm]
        have HS2 := Lib.hid hst2
        unfold weightV at CW
        clear HST HSL hst2 hp hp1 hH ho hfl hcnt HZ2 hHs
        generalize weightP (fs2.map pd) = qo at *
        obtain ⟨q, ok⟩ := qo
        generalize nearP H.data.toList K.data.toList = n at *
        have hlt2 : ob < 18446744073709551616 := hlt
        have hql2 : q < 18446744073709551616 := hql
        clear hlt hql
        go_wp2_with fail
        refine (CW w4 (Reg.Ext.refl _)).out.mono ?_
        rintro e w5 ⟨rfl, x5⟩
        have HX5 := Lib.hid (HX4.out.trans x5)
        have HR5 := Lib.hid (HR4.out.below x5)
        clear x5 HX4 HR4 CW x4
        go_wp2_with fail
        refine (CN w5).out.mono ?_
        rintro e w6 ⟨rfl, x6⟩
        have HX6 := Lib.hid (HX5.out.trans x6)
        have HR6 := Lib.hid (HR5.out.below x6)
        clear x6 HX5 HR5 CN
        cases ok with
        | false =>
          have HS3 : Hid (stQ K.data.toList xs (k + 1) = (ob, b)) := HS2.out.trans (if_pos (.inl (.inl rfl)))
          clear HS2
          go_wp2_with fail
          go_roundw
          case rel => exact ⟨k + 1, by go_num, by omega, by rw [HS3.out], by rw [HS3.out], HX6, HR6⟩
          case measure => simp [intOf]; omega
        | true =>
        by_cases hn0 : n = 0
        · have e1 : ((n : Int) == 0) = true := by rw [beq_iff_eq]; omega
          have HS3 : Hid (stQ K.data.toList xs (k + 1) = (ob, b)) := HS2.out.trans (if_pos (.inl (.inr hn0)))
          clear HS2
          go_wp2_with fail
          go_roundw
          case rel => exact ⟨k + 1, by go_num, by omega, by rw [HS3.out], by rw [HS3.out], HX6, HR6⟩
          case measure => simp [intOf]; omega
        have e1 : ((n : Int) == 0) = false := by rw [beq_eq_false_iff_ne]; omega
        by_cases hnb : n < b
        · have e2 : decide ((n : Int) < (b : Int)) = true := by rw [decide_eq_true_iff]; omega
          have HS3 : Hid (stQ K.data.toList xs (k + 1) = (ob, b)) := HS2.out.trans (if_pos (.inr hnb))
          clear HS2
          go_wp2_with fail
          go_roundw
          case rel => exact ⟨k + 1, by go_num, by omega, by rw [HS3.out], by rw [HS3.out], HX6, HR6⟩
          case measure => simp [intOf]; omega
        have e2 : decide ((n : Int) < (b : Int)) = false := by rw [decide_eq_false_iff_not]; omega
        have hnot : ¬ (((q, true).2 = false ∨ n = 0) ∨ n < b) := by
          rintro ((h | h) | h)
          · cases h
          · exact hn0 h
          · exact hnb h
        have HS3 := Lib.hid (HS2.out.trans (if_neg hnot))
        clear HS2 hnot
        by_cases hbn : b < n
        · have e3 : decide ((b : Int) < (n : Int)) = true := by rw [decide_eq_true_iff]; omega
          have HS4 : Hid (stQ K.data.toList xs (k + 1) = (q, n)) := HS3.out.trans (by rw [if_pos (.inl hbn)])
          clear HS3 hn0
          have hbn2 : ¬ n ≤ b := by omega
          go_wp2_with fail
          go_roundw
          case rel => exact ⟨k + 1, by go_num, by omega, by rw [HS4.out], by rw [HS4.out], HX6, HR6⟩
          case measure => simp [intOf]; omega
        have e3 : decide ((b : Int) < (n : Int)) = false := by rw [decide_eq_false_iff_not]; omega
        have CL := fun w => Lib.hid (Flt.less_any ob q w hlt2 hql2)
        cases hle : FloatP.less ob q with
        | true =>
          have HS4 : Hid (stQ K.data.toList xs (k + 1) = (q, n)) := HS3.out.trans (by rw [if_pos (.inr hle)])
          rw [hle] at CL
          clear HS3 hn0 hle
          have hbn2 : n ≤ b := by omega
          go_wp2_with fail
          refine (CL w6).out.mono ?_
          rintro e w7 ⟨rfl, rfl⟩
          go_wp2_with fail
          go_roundw
          case rel => exact ⟨k + 1, by go_num, by omega, by rw [HS4.out], by rw [HS4.out], HX6, HR6⟩
          case measure => simp [intOf]; omega
        | false =>
          have HS4 : Hid (stQ K.data.toList xs (k + 1) = (ob, n)) := HS3.out.trans (by rw [if_neg (by rintro (h | h); exact hbn h; rw [hle] at h; cases h)])
          rw [hle] at CL
          clear HS3 hn0 hle
          have hbn2 : n ≤ b := by omega
          go_wp2_with fail
          refine (CL w6).out.mono ?_
          rintro e w7 ⟨rfl, rfl⟩
          go_wp2_with fail
          go_roundw
          case rel => exact ⟨k + 1, by go_num, by omega, by rw [HS4.out], by rw [HS4.out], HX6, HR6⟩
          case measure => simp [intOf]; omega
    · have hke : k = xs.length := by omega
      subst hke
      have HV2 : Hid (qualP fs K.data.toList = (stQ K.data.toList xs xs.length).1) := by
        show _ = _
        rw [HV.out]
        unfold stQ
        rw [List.take_length, HE.out]
      clear HV HE
      generalize stQ K.data.toList xs xs.length = st at *
      go_wp2_with fail
      rw [Exit.noGoto_ret]
      go_ret
      exact ⟨by rw [HV2.out]; rfl, HX.out⟩
end Tst
end Go.Proofs.YtglnefmaphajaaaDoor

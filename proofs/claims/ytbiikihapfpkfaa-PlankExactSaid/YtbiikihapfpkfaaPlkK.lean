/- Read. -/
import Derived.Test.YtbiikihapfpkfaaPlkJ
set_option linter.unusedSimpArgs false
set_option linter.unusedVariables false
set_option linter.unusedSectionVars false
namespace Go.Proofs.Ytbiikihapfpkfaa
open Go Go.RowKit
theorem PRow.form2 {w : World} {v : Value} {l : List UInt8} (h : PRow w v l) : (v = .slice none 0 0 ∧ l = []) ∨ ∃ g cap, v = .slice (some ⟨g, 0, none⟩) l.length cap ∧ l.length ≤ cap ∧ cap ≤ maxLen := by
  rcases h with h | ⟨g, cap, cur, fz, rfl, _, _, h2, h3, _⟩
  · exact .inl h
  · exact .inr ⟨g, cap, rfl, h2, h3⟩
/-- string(v[j:][:m]) -/
theorem PRow.sub {w : World} {g cap : Nat} {l : List UInt8} (h : PRow w (.slice (some ⟨g, 0, none⟩) l.length cap) l) (j m c : Nat) (hj : j + m ≤ l.length) :
    (convert 67 9 (.slice (some ⟨g, j, none⟩) m c)).run Try.prog w = .ok (.string ⟨((l.drop j).take m).toArray⟩) w := by
  rcases h with ⟨h1, _⟩ | ⟨g', cap', cur, fz, e, hr, _, _, _, _, ht⟩
  · have h2 : some g = none := congrArg Value.ownBlock h1
    cases h2
  · have e1 : g = g' := Option.some.inj (congrArg Value.ownBlock e)
    subst e1
    have hl : ((l.drop j).take m).length = m := by rw [List.length_take, List.length_drop]; omega
    have hc := conv_bytes w 67 9 5 Try.underlying67 Try.underlying5 Try.underlying9 g j m c ((l.drop j).take m) hl ?_
    · exact hc
    · intro i hi
      have e1 : ((l.drop j).take m)[i] = l[j + i]'(by omega) := by rw [List.getElem_take, List.getElem_drop]
      rw [e1]
      exact row_cell hr ht (j + i) (by omega)
namespace Plk
/-- what Read gives of a file's bytes -/
def rd (l : List UInt8) (x k : Int) : List UInt8 := (l.drop x.toNat).take (min k.toNat (l.length - x.toNat))
def P.read (p : P) (n : List UInt8) (x k : Int) : List UInt8 × Int × P :=
  if x < 0 ∨ k < 0 then ([], 1, p) else match (p.find n).2.2 with
  | none => ([], (p.find n).1, ⟨p.fs, (p.find n).2.1⟩)
  | some f => if (f.l.length : Int) < x then ([], 14, ⟨p.fs, (p.find n).2.1⟩) else (rd f.l x k, 0, ⟨p.fs, (p.find n).2.1⟩)
theorem read_pl (es : List E) (s : H) (n : List UInt8) (x k : Int) : (pl es s).read n x k = if x < 0 ∨ k < 0 then ([], 1, pl es s) else match (s.find es n).2.2 with
  | none => ([], (s.find es n).1, pl es (s.find es n).2.1)
  | some e => if (e.f.l.length : Int) < x then ([], 14, pl es (s.find es n).2.1) else (rd e.f.l x k, 0, pl es (s.find es n).2.1) := by
  unfold P.read
  rw [find_pl]
  cases (s.find es n).2.2 <;> rfl
def ResR (d mp : Nat) (W : World) (es : List E) (r : List UInt8 × Int × P) (e : Ending) (w' : World) : Prop := ∃ s', e = .returned (.tuple #[str r.1, .int .i64 r.2.1]) ∧ Dk w' d mp es s' ∧ But d W w' ∧ pl es s' = r.2.2
set_option maxRecDepth 100000 in
set_option maxHeartbeats 1000000 in
theorem read_any (W : World) (d mp : Nat) (es : List E) (s : H) (hD : Dk W d mp es s) (n : List UInt8) (x k : Int) (h0 : 0 ≤ s.ops) (h1 : s.ops < 4611686018427387904) (hle : ∀ e ∈ es, e.f.l.length ≤ 4194304) :
    Calls Try.prog 18 #[.pointer (some ⟨d, 0, none⟩), str n, .int .i64 x, .int .i64 k] W (ResR d mp W es ((pl es s).read n x k)) := by
  have hf := find_any W d mp es s hD n h0 h1
  have hn1 := find_none_ (s := s) (es := es) (n := n)
  have hs1 := @find_some_ s es n
  rw [read_pl]
  generalize s.find es n = q at hf hn1 hs1
  obtain ⟨er, s1, o⟩ := q
  dsimp only at hf hn1 hs1 ⊢
  have nilS : (.string { data := #[] } : Value) = str [] := rfl
  by_cases ha : x < 0
  · rw [if_pos (.inl ha)]
    clear hf hn1 hs1 nilS
    unfold str
    go_enter Try.func18, Try.ntmps18
    go_wp2
    go_ret2
    exact ⟨s, rfl, hD, But.refl _ _, rfl⟩
  · by_cases hb : k < 0
    · rw [if_pos (.inr hb)]
      clear hf hn1 hs1 nilS
      unfold str
      go_enter Try.func18, Try.ntmps18
      go_wp2
      go_ret2
      exact ⟨s, rfl, hD, But.refl _ _, rfl⟩
    · rw [if_neg (by omega)]
      cases o with
      | none =>
        have he := beq_eq_false_iff_ne.2 (hn1 rfl)
        clear hn1 hs1 nilS hle
        unfold str ptrV at hf
        unfold str
        go_enter Try.func18, Try.ntmps18
        go_wp2_with (go_at_call 43; refine hf.mono ?_; rintro e w1 ⟨rfl, hD1, hb1⟩)
        go_ret2
        exact ⟨s1, rfl, hD1, hb1, rfl⟩
      | some e0 =>
        obtain ⟨he, hg, hm, hnm, hn⟩ := hs1 rfl
        have hl0 := hle e0 hm
        clear hn1 hs1 hg hle hnm nilS h0 h1
        subst he
        obtain ⟨j, rfl⟩ := Int.eq_ofNat_of_zero_le (Int.not_lt.1 ha)
        obtain ⟨m, rfl⟩ := Int.eq_ofNat_of_zero_le (Int.not_lt.1 hb)
        clear ha hb
        unfold str ptrV at hf
        dsimp only
        by_cases ho : (e0.f.l.length : Int) < (j : Int)
        · rw [if_pos ho]
          obtain ⟨A, cap, hv⟩ := (hD.row e0 hm).form
          have hvk := Lib.hid hv
          clear hv
          unfold str
          go_enter Try.func18, Try.ntmps18
          go_wp2_with (go_at_call 43; refine hf.mono ?_; rintro e w1 ⟨rfl, hD1, hb1⟩; have hbk := hD1.file e0 hm; have k0 := hbk.cell 0; dsimp only [List.getElem?_cons_zero] at k0; rw [hvk.out] at k0; clear hbk)
          go_ret2
          exact ⟨s1, rfl, hD1, hb1, rfl⟩
        · rw [if_neg ho]
          have hoj : j ≤ e0.f.l.length := by omega
          clear ho
          unfold rd
          rw [Int.toNat_natCast, Int.toNat_natCast]
          rcases (hD.row e0 hm).form2 with ⟨hv, hl⟩ | ⟨g, cap, hv, hc1, hc2⟩
          · have hvk := Lib.hid hv
            have hj0 : j = 0 := by rw [hl] at hoj; simpa using hoj
            subst hj0
            rw [hl]
            have hst := fun w => (PRow.nil_ w).str
            clear hv hl hoj hl0
            unfold str
            go_enter Try.func18, Try.ntmps18
            go_wp2_with (go_at_call 43; refine hf.mono ?_; rintro e w1 ⟨rfl, hD1, hb1⟩; have hbk := hD1.file e0 hm; have k0 := hbk.cell 0; dsimp only [List.getElem?_cons_zero] at k0; rw [hvk.out] at k0; clear hbk)
            rw [show (min (m : Int) 0).toNat = 0 by omega, (PRow.nil_ _).str]
            simp only [Result.andThen]
            rw [Oper.upon_value]
            go_wp2
            go_ret2
            exact ⟨s1, by simp [str], hD1, hb1, rfl⟩
          · have hrow1 : ∀ w1 : World, Dk w1 d mp es s1 → Hid (PRow w1 (.slice (some ⟨g, 0, none⟩) e0.f.l.length cap) e0.f.l) := fun w1 h => Lib.hid (by rw [← hv]; exact h.row e0 hm)
            by_cases hjc : j = cap
            · have hvk := Lib.hid hv
              have hjl : j = e0.f.l.length := by omega
              subst hjc
              clear hv
              unfold str
              go_enter Try.func18, Try.ntmps18
              go_wp2_with (go_at_call 43; refine hf.mono ?_; rintro e w1 ⟨rfl, hD1, hb1⟩; have hbk := hD1.file e0 hm; have k0 := hbk.cell 0; dsimp only [List.getElem?_cons_zero] at k0; rw [hvk.out] at k0; clear hbk)
              rw [show (min (m : Int) 0).toNat = 0 by omega, (hrow1 _ hD1).out.sub 0 0 _ (by omega)]
              simp only [Result.andThen]
              rw [Oper.upon_value]
              go_wp2
              go_ret2
              exact ⟨s1, by simp [str]; omega, hD1, hb1, rfl⟩
            · have hvk := Lib.hid hv
              have hjl : j < cap := by omega
              clear hv hjc
              unfold str
              go_enter Try.func18, Try.ntmps18
              go_wp2_with (go_at_call 43; refine hf.mono ?_; rintro e w1 ⟨rfl, hD1, hb1⟩; have hbk := hD1.file e0 hm; have k0 := hbk.cell 0; dsimp only [List.getElem?_cons_zero] at k0; rw [hvk.out] at k0; clear hbk)
              rw [(hrow1 _ hD1).out.sub j _ _ (by omega)]
              simp only [Result.andThen]
              rw [Oper.upon_value]
              go_wp2
              go_ret2
              exact ⟨s1, by simp [str]; omega, hD1, hb1, rfl⟩
end Plk
end Go.Proofs.Ytbiikihapfpkfaa

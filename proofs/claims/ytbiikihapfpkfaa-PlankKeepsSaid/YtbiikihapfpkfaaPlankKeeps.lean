/- PlankKeeps. -/
import Derived.Test.YtbiikihapfpkfaaPlkU
set_option linter.unusedSimpArgs false
set_option linter.unusedVariables false
set_option linter.unusedSectionVars false
namespace Go.Proofs.Ytbiikihapfpkfaa
open Go Go.RowKit
namespace Plk
theorem str_of (s : ByteArray) : str s.data.toList = .string s := by
  unfold str
  cases s
  simp
theorem cut_of (V : ByteArray) (m : Nat) : str (V.data.toList.take m) = .string (V.extract 0 m) := by
  rw [← str_of]
  congr 1
  simp [ByteArray.data_extract]
def b0 : P := new 16384
def b1 : P := (b0.create [102]).2
theorem v1 (W w : World) (d : Nat) (h : Hold W w d b0) : Calls Try.prog 9 #[.pointer (some ⟨d, 0, none⟩), .string { data := #[102] }] w fun e w' => e = .returned (.int .i64 0) ∧ Hold W w' d b1 := h.create [102] (by decide)
theorem v2 (W w : World) (d : Nat) (x : Int) (h : Hold W w d b1) : Calls Try.prog 10 #[.pointer (some ⟨d, 0, none⟩), .int .i64 x, .int .i64 2, .int .i64 0] w fun e w' => e = .returned (.tuple #[]) ∧ ∃ p, Hold W w' d p ∧ p.fs = one [] 0 ∧ p.h.ops ≤ 10 := by
  refine (h.arm x 2 0 (by decide)).mono ?_
  rintro e w' ⟨rfl, h1⟩
  refine ⟨rfl, _, h1, rfl, ?_⟩
  show (b1.h.arm x 2 0).ops ≤ 10
  rw [(arm_keep b1.h x 2 0).2.2.1]
  decide
theorem v3 (W w : World) (d : Nat) (p : P) (h : Hold W w d p) (l : List UInt8) (q : Nat) (hf : p.fs = one l q) (m : Int) (ho : p.h.ops ≤ m) (hm : m < 4611686018427387900) (s : ByteArray) (hs : s.size ≤ 100) :
    ∃ (r : Int) (p' : P), p'.h.ops ≤ m + 1 ∧ ((r = 0 ∧ p'.fs = one (l ++ s.data.toList) q) ∨ (r ≠ 0 ∧ p'.fs = one l q)) ∧ Calls Try.prog 11 #[.pointer (some ⟨d, 0, none⟩), .string { data := #[102] }, .string s] w fun e w' => e = .returned (.int .i64 r) ∧ Hold W w' d p' := by
  have hc := h.append [102] s.data.toList (by unfold big; omega) (by rw [len_data]; omega)
  rw [str_of] at hc
  obtain ⟨h2, h3⟩ := append_one hf s.data.toList
  exact ⟨_, _, by omega, h2, hc⟩
theorem v4 (W w : World) (d : Nat) (p : P) (h : Hold W w d p) (l : List UInt8) (q : Nat) (hf : p.fs = one l q) (m : Int) (ho : p.h.ops ≤ m) (hm : m < 4611686018427387900) :
    ∃ (r : Int) (p' : P), p'.h.ops ≤ m + 1 ∧ ((r = 0 ∧ p'.fs = one l l.length) ∨ (r ≠ 0 ∧ p'.fs = one l q)) ∧ Calls Try.prog 12 #[.pointer (some ⟨d, 0, none⟩), .string { data := #[102] }] w fun e w' => e = .returned (.int .i64 r) ∧ Hold W w' d p' := by
  have hc := h.sync [102] (by unfold big; omega)
  obtain ⟨h2, h3⟩ := sync_one hf
  exact ⟨_, _, by omega, h2, hc⟩
theorem v4a (W w : World) (d : Nat) (p : P) (h : Hold W w d p) (ho : p.h.ops < big) (r : Int) (hr : (p.sync [102]).1 = r) :
    Calls Try.prog 12 #[.pointer (some ⟨d, 0, none⟩), .string { data := #[102] }] w fun e w' => e = .returned (.int .i64 r) ∧ Hold W w' d (p.sync [102]).2 := by
  subst hr
  exact h.sync [102] ho
/-- what stands behind the loop: the power is off, and on again -/
structure Back (W w : World) (d : Nat) (l : List UInt8) (q m : Nat) (p : P) : Prop where
  hold : Hold W w d p
  fs : p.fs = one (l.take m) m
  lo : q ≤ m
  hi : m ≤ l.length
  off : p.h.off = false
  ak : p.h.ak = 0
  ops : p.h.ops < big
theorem v5 (W w : World) (d : Nat) (p : P) (h : Hold W w d (offP p)) (l : List UInt8) (q : Nat) (hf : p.fs = one l q) (hq : q ≤ l.length) (ho : p.h.ops < big) (k : Int) :
    Calls Try.prog 14 #[.pointer (some ⟨d, 0, none⟩), .slice (some ⟨w.heap.size, 0, none⟩) 1 1] (w.alloc (.cells #[.int .i64 k] 3)) fun e w' => e = .returned (.tuple #[]) ∧ ∃ m p', Back W w' d l q m p' := by
  refine (h.on1 k).mono ?_
  rintro e w' ⟨rfl, h1⟩
  obtain ⟨m, h2, h3, h4, h5, h6, h7⟩ := on_one hf hq k
  exact ⟨rfl, m, _, h1, h4, h2, h3, h5, h6, by rw [h7]; exact ho⟩
theorem v6 {W w : World} {d : Nat} {V : ByteArray} {q m : Nat} {p : P} (h : Back W w d V.data.toList q m p) : Calls Try.prog 15 #[.pointer (some ⟨d, 0, none⟩), .string { data := #[102] }] w fun e w' => e = .returned (.string (V.extract 0 m)) ∧ w' = w := by
  have hc := h.hold.bytes [102] (by decide)
  rw [h.fs] at hc
  rw [← cut_of]
  exact hc
theorem v7 {W w : World} {d : Nat} {l : List UInt8} {q m : Nat} {p : P} (h : Back W w d l q m p) : Calls Try.prog 16 #[.pointer (some ⟨d, 0, none⟩), .string { data := #[102] }] w fun e w' => e = .returned (.int .i64 (m : Int)) ∧ w' = w := by
  have hc := h.hold.safe [102] (by decide)
  rw [h.fs] at hc
  exact hc
theorem v8 {W w : World} {d : Nat} {l : List UInt8} {q m : Nat} {p : P} (h : Back W w d l q m p) : Calls Try.prog 17 #[.pointer (some ⟨d, 0, none⟩)] w fun e w' => e = .returned (.bool false) ∧ w' = w := by
  have hc := h.hold.down
  rw [h.off] at hc
  exact hc
theorem v9 {W w : World} {d : Nat} {V : ByteArray} {q m : Nat} {p : P} (h : Back W w d V.data.toList q m p) (n : Nat) (hn : V.size ≤ n) : Calls Try.prog 18 #[.pointer (some ⟨d, 0, none⟩), .string { data := #[102] }, .int .i64 0, .int .i64 (n : Int)] w fun e w' => e = .returned (.tuple #[.string (V.extract 0 m), .int .i64 0]) ∧ Reg.Ext W w' := by
  have hn : V.data.toList.length ≤ n := by rw [len_data]; exact hn
  have hh := h.hi
  rw [← cut_of]
  have hc := h.hold.read [102] 0 n h.ops
  obtain ⟨h1, h2⟩ := read_one h.fs h.off h.ak n (by rw [List.length_take]; omega)
  rw [h1, h2] at hc
  exact Calls.mono hc fun e w' ⟨h3, h4⟩ => ⟨h3, h4.ext⟩
theorem v10 {W w : World} {d : Nat} {V : ByteArray} {q m : Nat} {p : P} (h : Back W w d V.data.toList q m p) : (V.extract 0 m).size = m ∧ m ≤ V.size ∧ q ≤ m := by
  have h1 := h.hi
  rw [len_data] at h1
  refine ⟨?_, h1, h.lo⟩
  rw [ByteArray.size_extract]
  omega
set_option maxRecDepth 100000 in
set_option maxHeartbeats 4000000 in
theorem keeps_law (A : Option Addr) (n c : Nat) (ss : List ByteArray) (A2 : Option Addr) (n2 c2 : Nat) (bs : List Bool) (x k : Int) (W : World) (hn : ss.length = n) (hm : n ≤ maxLen) (hr : Rd W A (ss.map strV)) (hz : ∀ s ∈ ss, s.size ≤ maxLen) (hn2 : bs.length = n2) (hm2 : n2 ≤ maxLen) (hr2 : Rd W A2 (bs.map Value.bool)) :
    Calls Try.prog 3 #[.slice A n c, .slice A2 n2 c2, .int .i64 x, .int .i64 k] W fun e w' => e = .returned (.bool true) ∧ Reg.Ext W w' := by
  subst hn hn2
  have hrk := Lib.hid hr
  have hrk2 := Lib.hid hr2
  clear hr hr2 hz
  unfold maxLen at hm hm2
  have haw := awake_any
  go_enter Try.func3, Try.ntmps3
  go_wp2_with (first
    | (go_at_call 7; refine (haw _).mono ?_; rintro e xa ⟨rfl, hxa⟩)
    | (go_at_call 8; refine (Hold.new 16384 _).mono ?_; rintro e x0 ⟨d, rfl, h0⟩)
    | (go_at_call 9; refine (v1 _ _ _ h0).mono ?_; rintro e x1 ⟨rfl, h1⟩)
    | (go_at_call 10; refine (v2 _ _ _ _ h1).mono ?_; rintro e x2 ⟨rfl, p2, h2, hf2, ho2⟩))
  have H2 := Lib.hid h2
  have F2 := Lib.hid hf2
  have O2 := Lib.hid ho2
  clear h0 h1 h2 hf2 ho2 haw
  have HX := Lib.hid hxa
  clear hxa
  go_loopw [10, 11, 12] (fun all sf i wr => ∃ (V : ByteArray) (q j : Nat) (p : P), all = .string V ∧ sf = .int .i64 (q : Int) ∧ i = .int .i64 (j : Int) ∧ j ≤ ss.length ∧ j ≤ 60 ∧ Hid (Hold xa wr d p) ∧ Hid (p.fs = one V.data.toList q) ∧ Hid (p.h.ops ≤ 10 + 2 * (j : Int)) ∧ V.size ≤ 100 * j ∧ q ≤ V.size) (fun _ _ i _ => ss.length - (intOf i).toNat)
  case atStart => exact ⟨⟨#[]⟩, 0, 0, p2, rfl, rfl, rfl, Nat.zero_le _, Nat.zero_le _, H2, F2, Lib.hid (by have := O2.out; omega), Nat.zero_le _, Nat.zero_le _⟩
  case round =>
    obtain ⟨V, q, j, p, rfl, rfl, rfl, hj, hj6, HH, HF, HO, hV, hq⟩ := hrel
    by_cases hjs : j < ss.length
    · by_cases hj7 : j < 60
      · obtain ⟨ad, rfl, hlt, hcellW⟩ := hrk.out j (by rw [List.length_map]; exact hjs)
        rw [List.getElem_map] at hcellW
        unfold strV at hcellW
        generalize ss[j] = s at hcellW
        have hT : ∀ w', Reg.Ext W w' → w'.cell? (ad.add j) = some (.string s) := fun w' hx => (hx.cell (p := ad.add j) (by unfold Addr.add; split <;> simpa using hlt)).trans hcellW
        have hcell := hT _ (HX.out.trans HH.out.ext)
        have hTk := Lib.hid hT
        clear hT hcellW
        by_cases hbig : 100 < s.size
        · go_wp2_with fail
          go_ret
          exact ⟨rfl, HX.out.trans HH.out.ext⟩
        · obtain ⟨r, p3, ho3, hc3, hC3⟩ := v3 xa wr d p HH.out V.data.toList q HF.out (10 + 2 * (j : Int)) HO.out (by omega) s (by omega)
          rcases hc3 with ⟨hr0, hf3⟩ | ⟨hr0, hf3⟩
          · subst hr0
            have HF3 := Lib.hid hf3
            have HO3 := Lib.hid ho3
            clear hf3 ho3
            have VZ : Hid ((V ++ s).size = V.size + s.size) := Lib.hid (ByteArray.size_append)
            have VF : Hid (p3.fs = one (V ++ s).data.toList q) := Lib.hid (by rw [HF3.out]; simp [ByteArray.data_append])
            have VO : Hid (p3.h.ops ≤ 10 + 2 * ((j + 1 : Nat) : Int)) := Lib.hid (by have := HO3.out; omega)
            by_cases hb : j < bs.length
            · obtain ⟨ad2, rfl, hlt2, hcellB⟩ := hrk2.out j (by rw [List.length_map]; exact hb)
              rw [List.getElem_map] at hcellB
              generalize bs[j] = bb at hcellB
              have hB : ∀ w', Reg.Ext W w' → w'.cell? (ad2.add j) = some (.bool bb) := fun w' hx => (hx.cell (p := ad2.add j) (by unfold Addr.add; split <;> simpa using hlt2)).trans hcellB
              have hBk := Lib.hid hB
              clear hB hcellB
              cases bb with
              | false =>
                go_wp2_with (go_at_call 11; refine hC3.mono ?_; rintro e x3 ⟨rfl, h3⟩; have hcell3 := hTk.out _ (HX.out.trans h3.ext); have hcellb := hBk.out _ (HX.out.trans h3.ext))
                go_roundw
                case rel => exact ⟨V ++ s, q, j + 1, p3, rfl, rfl, by go_num, by omega, by omega, Lib.hid h3, VF, VO, by rw [VZ.out]; omega, by rw [VZ.out]; omega⟩
                case measure => simp [intOf]; omega
              | true =>
                obtain ⟨hsy, hso⟩ := sync_one VF.out
                have SO := Lib.hid hso
                clear hso
                rcases hsy with ⟨hr4, hf4⟩ | ⟨hr4, hf4⟩
                · have SR := Lib.hid hr4
                  have SF := Lib.hid hf4
                  clear hr4 hf4
                  go_wp2_with (first
                    | (go_at_call 11; refine hC3.mono ?_; rintro e x3 ⟨rfl, h3⟩; have hcell3 := hTk.out _ (HX.out.trans h3.ext); have hcellb := hBk.out _ (HX.out.trans h3.ext))
                    | (go_at_call 12; refine (v4a _ _ _ _ h3 (by have := HO3.out; unfold big; omega) 0 SR.out).mono ?_; rintro e y4 ⟨rfl, hy4⟩))
                  go_roundw
                  case rel => exact ⟨V ++ s, V.size + s.size, j + 1, _, rfl, by go_num, by go_num, by omega, by omega, Lib.hid hy4, Lib.hid (by have := SF.out; rw [len_data, VZ.out] at this; exact this), Lib.hid (by have := SO.out; have := HO3.out; omega), by rw [VZ.out]; omega, by rw [VZ.out]; exact Nat.le_refl _⟩
                  case measure => simp [intOf]; omega
                · obtain ⟨r4, hr5⟩ : ∃ r4, (p3.sync [102]).1 = r4 := ⟨_, rfl⟩
                  rw [hr5] at hr4
                  have SR := Lib.hid hr5
                  have SF := Lib.hid hf4
                  have q4 : (r4 == 0) = false := beq_eq_false_iff_ne.2 hr4
                  clear hr5 hf4 hr4
                  go_wp2_with (first
                    | (go_at_call 11; refine hC3.mono ?_; rintro e x3 ⟨rfl, h3⟩; have hcell3 := hTk.out _ (HX.out.trans h3.ext); have hcellb := hBk.out _ (HX.out.trans h3.ext))
                    | (go_at_call 12; refine (v4a _ _ _ _ h3 (by have := HO3.out; unfold big; omega) r4 SR.out).mono ?_; rintro e y4 ⟨rfl, hy4⟩))
                  have VB : (V ++ s).size ≤ 6100 := by rw [VZ.out]; omega
                  have VQ : Hid (q ≤ (V ++ s).size) := Lib.hid (by rw [VZ.out]; omega)
                  clear VF VZ hC3 HF3
                  generalize V ++ s = U at SF VB VQ ⊢
                  clear hV hq
                  go_wp2_with (first
                      | fail
                      | (go_at_call 13; refine (Hold.off hy4).mono ?_; rintro e x4 ⟨rfl, h4⟩)
                      | (go_at_call 14; refine (v5 _ _ _ _ h4 _ q SF.out (by rw [len_data]; exact VQ.out) (by have := SO.out; have := HO3.out; unfold big; omega) k).mono ?_; rintro e x5 ⟨rfl, m, p5, h5⟩; obtain ⟨m1, m2, m3⟩ := v10 h5; have h9 := v9 h5 _ (Nat.le_refl _))
                      | (go_at_call 15; refine (v6 h5).mono ?_; rintro e _ ⟨rfl, rfl⟩)
                      | (go_at_call 16; refine (v7 h5).mono ?_; rintro e _ ⟨rfl, rfl⟩)
                      | (go_at_call 17; refine (v8 h5).mono ?_; rintro e _ ⟨rfl, rfl⟩)
                      | (go_at_call 18; refine h9.mono ?_; rintro e x6 ⟨rfl, h6⟩))
                  go_ret
                  exact ⟨rfl, HX.out.trans h6⟩
            · go_wp2_with (go_at_call 11; refine hC3.mono ?_; rintro e x3 ⟨rfl, h3⟩; have hcell3 := hTk.out _ (HX.out.trans h3.ext))
              go_roundw
              case rel => exact ⟨V ++ s, q, j + 1, p3, rfl, rfl, by go_num, by omega, by omega, Lib.hid h3, VF, VO, by rw [VZ.out]; omega, by rw [VZ.out]; omega⟩
              case measure => simp [intOf]; omega
          · have q3 : (r == 0) = false := beq_eq_false_iff_ne.2 hr0
            have HF3 := Lib.hid hf3
            have HO3 := Lib.hid ho3
            clear hf3 ho3
            go_wp2_with (first
                | (go_at_call 11; refine hC3.mono ?_; rintro e x3 ⟨rfl, h3⟩)
                | (go_at_call 13; refine (Hold.off h3).mono ?_; rintro e x4 ⟨rfl, h4⟩)
                | (go_at_call 14; refine (v5 _ _ _ _ h4 _ q HF3.out (by rw [len_data]; exact hq) (by have := HO3.out; unfold big; omega) k).mono ?_; rintro e x5 ⟨rfl, m, p5, h5⟩; obtain ⟨m1, m2, m3⟩ := v10 h5; have h9 := v9 h5 _ (Nat.le_refl _))
                | (go_at_call 15; refine (v6 h5).mono ?_; rintro e _ ⟨rfl, rfl⟩)
                | (go_at_call 16; refine (v7 h5).mono ?_; rintro e _ ⟨rfl, rfl⟩)
                | (go_at_call 17; refine (v8 h5).mono ?_; rintro e _ ⟨rfl, rfl⟩)
                | (go_at_call 18; refine h9.mono ?_; rintro e x6 ⟨rfl, h6⟩))
            go_ret
            exact ⟨rfl, HX.out.trans h6⟩
      · have hje : j = 60 := by omega
        subst hje
        go_wp2_with (first
            | fail
            | (go_at_call 13; refine (Hold.off HH.out).mono ?_; rintro e x4 ⟨rfl, h4⟩)
            | (go_at_call 14; refine (v5 _ _ _ _ h4 _ q HF.out (by rw [len_data]; exact hq) (by have := HO.out; unfold big; omega) k).mono ?_; rintro e x5 ⟨rfl, m, p5, h5⟩; obtain ⟨m1, m2, m3⟩ := v10 h5; have h9 := v9 h5 _ (Nat.le_refl _))
            | (go_at_call 15; refine (v6 h5).mono ?_; rintro e _ ⟨rfl, rfl⟩)
            | (go_at_call 16; refine (v7 h5).mono ?_; rintro e _ ⟨rfl, rfl⟩)
            | (go_at_call 17; refine (v8 h5).mono ?_; rintro e _ ⟨rfl, rfl⟩)
            | (go_at_call 18; refine h9.mono ?_; rintro e x6 ⟨rfl, h6⟩))
        go_ret
        exact ⟨rfl, HX.out.trans h6⟩
    · have hje : j = ss.length := by omega
      subst hje
      go_wp2_with (first
          | fail
          | (go_at_call 13; refine (Hold.off HH.out).mono ?_; rintro e x4 ⟨rfl, h4⟩)
          | (go_at_call 14; refine (v5 _ _ _ _ h4 _ q HF.out (by rw [len_data]; exact hq) (by have := HO.out; unfold big; omega) k).mono ?_; rintro e x5 ⟨rfl, m, p5, h5⟩; obtain ⟨m1, m2, m3⟩ := v10 h5; have h9 := v9 h5 _ (Nat.le_refl _))
          | (go_at_call 15; refine (v6 h5).mono ?_; rintro e _ ⟨rfl, rfl⟩)
          | (go_at_call 16; refine (v7 h5).mono ?_; rintro e _ ⟨rfl, rfl⟩)
          | (go_at_call 17; refine (v8 h5).mono ?_; rintro e _ ⟨rfl, rfl⟩)
          | (go_at_call 18; refine h9.mono ?_; rintro e x6 ⟨rfl, h6⟩))
      go_ret
      exact ⟨rfl, HX.out.trans h6⟩
end Plk
end Go.Proofs.Ytbiikihapfpkfaa

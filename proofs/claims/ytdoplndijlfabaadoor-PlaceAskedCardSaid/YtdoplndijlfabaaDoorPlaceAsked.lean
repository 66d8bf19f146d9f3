/- Chapter 15: PlaceAsked. -/
import Derived.Test.YtdoplndijlfabaaDoorPlaceAwake
import Derived.Test.YtdoplndijlfabaaDoorPlaceBack
import Derived.Test.YtdoplndijlfabaaDoorLineW
set_option linter.unusedSimpArgs false
set_option linter.unusedVariables false
set_option linter.unusedSectionVars false
namespace Go.Proofs.YtdoplndijlfabaaDoor
open Go.RowKit
namespace Pl
open Rte
def seen (c : UInt8) : Bool := 33 ≤ c.toNat && c.toNat ≤ 126
theorem seen_iff (c : UInt8) : seen c = true ↔ 33 ≤ c.toNat ∧ c.toNat ≤ 126 := by unfold seen; simp
theorem low_seen {c : UInt8} (h : low c = true) : seen c = true := by
  have := all256 (fun c => !low c || seen c) (by decide +kernel) c
  rw [h] at this; simpa using this
theorem sep_seen {c : UInt8} (h : sepc c = true) : seen c = true := by
  have := all256 (fun c => !sepc c || seen c) (by decide +kernel) c
  rw [h] at this; simpa using this
theorem tag_seen {c : UInt8} (h : tagc c = true) : seen c = true := by
  have := all256 (fun c => !tagc c || seen c) (by decide +kernel) c
  rw [h] at this; simpa using this
theorem while_all {p : UInt8 → Bool} {l : List UInt8} {c : UInt8} (h : c ∈ l.takeWhile p) : p c = true := by
  have := List.all_takeWhile (p := p) (l := l)
  rw [List.all_eq_true] at this
  exact this c h
theorem partF_seen : ∀ (f : Nat) (l : List UInt8), partF f l = true → ∀ c ∈ l, seen c = true
  | 0, _, h, _, _ => by cases h
  | f + 1, l, h, c, hc => by
    unfold partF at h
    split at h
    · cases h
    · rw [← List.takeWhile_append_dropWhile (p := low) (l := l), List.mem_append] at hc
      rcases hc with hc | hc
      · exact low_seen (while_all hc)
      · split at h
        · next e => rw [e] at hc; cases hc
        · split at h
          · rw [← List.takeWhile_append_dropWhile (p := sepc) (l := l.dropWhile low), List.mem_append] at hc
            rcases hc with hc | hc
            · exact sep_seen (while_all hc)
            · exact partF_seen f _ h c hc
          · cases h
theorem split_mem : ∀ (l : List UInt8) (c : UInt8), c ∈ l → c = 47 ∨ ∃ p ∈ splitP l, c ∈ p
  | x :: l, c, h => by
    unfold splitP
    by_cases hx : x = 47
    · rw [if_pos hx]
      rw [List.mem_cons] at h
      rcases h with h | h
      · exact .inl (h.trans hx)
      · rcases split_mem l c h with h | ⟨p, hp, hc⟩
        · exact .inl h
        · exact .inr ⟨p, List.mem_cons_of_mem _ hp, hc⟩
    · rw [if_neg hx]
      have ih := split_mem l c
      cases hs : splitP l with
      | nil => exact absurd hs (splitP_ne l)
      | cons q qs =>
        rw [hs] at ih
        rw [List.mem_cons] at h
        rcases h with h | h
        · exact .inr ⟨x :: q, List.mem_cons_self, by rw [h]; exact List.mem_cons_self⟩
        · rcases ih h with h | ⟨p, hp, hc⟩
          · exact .inl h
          · rw [List.mem_cons] at hp
            rcases hp with hp | hp
            · exact .inr ⟨x :: q, List.mem_cons_self, by rw [← hp]; exact List.mem_cons_of_mem _ hc⟩
            · exact .inr ⟨p, List.mem_cons_of_mem _ hp, hc⟩
theorem repo_seen {l : List UInt8} (h : repoP l = true) : ∀ c ∈ l, seen c = true := by
  intro c hc
  unfold repoP at h
  rw [Bool.and_eq_true, List.all_eq_true] at h
  rcases split_mem l c hc with e | ⟨p, hp, hcp⟩
  · rw [e]; decide
  · exact partF_seen _ _ (h.2 p hp) c hcp
theorem dig_seen (n : Nat) (h : n < 16) : seen (HexP.dig n) = true := by
  have : ∀ k : Fin 16, seen (HexP.dig k.val) = true := by decide +kernel
  exact this ⟨n, h⟩
theorem hex_seen : ∀ l : List UInt8, ∀ c ∈ HexP.hex l, seen c = true
  | [], c, h => by cases h
  | x :: l, c, h => by
    unfold HexP.hex at h
    simp only [List.mem_cons] at h
    rcases h with rfl | rfl | h
    · exact dig_seen _ (by have := x.toNat_lt; omega)
    · exact dig_seen _ (by omega)
    · exact hex_seen l c h
theorem lit_seen {l : List UInt8} (h : l.all seen = true) : ∀ c ∈ l, seen c = true := by rw [List.all_eq_true] at h; exact h
theorem app_seen {a b : List UInt8} (ha : ∀ c ∈ a, seen c = true) (hb : ∀ c ∈ b, seen c = true) : ∀ c ∈ a ++ b, seen c = true := by
  intro c hc
  rw [List.mem_append] at hc
  rcases hc with hc | hc
  · exact ha c hc
  · exact hb c hc
theorem good_repo {r : S} (h : goodP r = true) (h1 : r.k ≠ 1) : repoP r.repo.data.toList = true := by
  unfold goodP at h
  rw [if_neg h1] at h
  by_cases k2 : r.k = 2
  · rw [if_pos k2, Bool.and_eq_true] at h; exact h.1
  rw [if_neg k2] at h
  by_cases k3 : r.k = 3 ∨ r.k = 4
  · rw [if_pos k3, Bool.and_eq_true] at h; exact h.1
  · rw [if_neg k3] at h; cases h
theorem good_tag {r : S} (h : goodP r = true) (h1 : r.k = 2) : tagP r.tag.data.toList = true := by
  unfold goodP at h
  rw [if_neg (by omega), if_pos h1, Bool.and_eq_true, Bool.and_eq_true] at h
  exact h.2.1
theorem print_seen {r : S} (h : goodP r = true) : ∀ c ∈ printL r, seen c = true := by
  unfold printL
  by_cases k1 : r.k = 1
  · rw [if_pos k1]; exact lit_seen (by decide)
  have hr := repo_seen (good_repo h k1)
  rw [if_neg k1]
  by_cases k2 : r.k = 2
  · rw [if_pos k2]
    exact app_seen (app_seen (app_seen (app_seen (app_seen (lit_seen (by decide)) hr) (lit_seen (by decide))) (lit_seen (by decide))) (lit_seen (by decide))) fun c hc => tag_seen ((tag_all (good_tag h k2)).2.2 c hc)
  · rw [if_neg k2]
    refine app_seen (app_seen (app_seen (app_seen (app_seen (lit_seen (by decide)) hr) (lit_seen (by decide))) ?_) (lit_seen (by decide))) (app_seen (lit_seen (by decide)) (hex_seen _))
    split <;> exact lit_seen (by decide)
theorem print_400 {r : S} (h : goodP r = true) (hr : r.dig.length = 32) : (printL r).length < 400 ∧ 0 < (printL r).length := by
  obtain ⟨h1, h2⟩ := good_size h
  unfold printL
  split
  · decide
  split
  · simp only [List.length_append, len_data]
    have : rootL.length + manL.length = 13 := by decide
    simp only [List.length_cons, List.length_nil]; omega
  · simp only [List.length_append, len_data, hex_len, hr]
    have : rootL.length + manL.length + blobL.length + Stp.pA.length = 25 := by decide
    split <;> simp only [List.length_cons, List.length_nil] <;> omega
set_option maxRecDepth 100000 in
set_option maxHeartbeats 4000000 in
theorem asked_law (r : S) (hr : r.dig.length = 32) (w : World) :
    Calls Tryd.prog 7 #[.agg r.cells.toArray] w fun e w' => e = .returned (.bool true) ∧ Reg.Ext w w' := by
  have hb := boxS w r
  have hx := Reg.Ext.alloc w (Obj.cells r.cells.toArray 26)
  go_enter Tryd.func7, Tryd.ntmps7
  go_upto_region 1 with (fail)
  generalize w.alloc (Obj.cells r.cells.toArray 26) = w0 at *
  generalize w.heap.size = g at hb ⊢
  have HB := Lib.hid hb
  have HX := Lib.hid hx
  clear hb hx
  go_wp2_with fail
  refine (awake_any w0).mono ?_
  rintro e w1 ⟨rfl, x1⟩
  have HX1 := Lib.hid (HX.out.trans x1)
  have HB1 := Lib.hid (HB.out.ext x1)
  clear x1 HX HB
  go_upto_region 3 with (fail)
  refine wp_region_lit ?_
  refine wpList_rt rfl _ rfl g rfl _ r hr HB1 ?_
  simp only [Act.put, Act.eval, List.setIfInBounds_toArray, List.set_cons_zero, List.set_cons_succ, Nat.reduceAdd, Array.getD_eq_getD_getElem?, List.getElem?_toArray, List.getElem?_cons_succ, List.getElem?_cons_zero, Option.getD_some]
  go_wp2_with fail
  refine (print_any r hr w1).mono ?_
  rintro e w2 ⟨rfl, x2⟩
  have HX2 := Lib.hid (HX1.out.trans x2)
  clear x2 HX1 HB1
  cases hg : goodP r with
  | false =>
    rw [show printV r = .tuple #[.string ⟨#[]⟩, .int .i64 1] by unfold printV printP; rw [hg]; rfl]
    clear hg
    go_wp2_with fail
    go_ret
    exact ⟨by simp, HX2.out⟩
  | true =>
    obtain ⟨T, hT⟩ : ∃ T : ByteArray, T = ⟨(printL r).toArray⟩ := ⟨_, rfl⟩
    rw [show printV r = .tuple #[.string T, .int .i64 0] by unfold printV printP; rw [hg, hT]; rfl]
    have hTl : T.data.toList = printL r := by rw [hT]
    obtain ⟨h1, h2⟩ := print_400 hg hr
    rw [← hTl, len_data] at h1 h2
    have HT : Hid (∀ c ∈ T.data.toList, 33 ≤ c.toNat ∧ c.toNat ≤ 126) := fun c hc => (seen_iff c).1 (print_seen hg c (by rw [← hTl]; exact hc))
    clear hg hT hTl
    have d1 : decide ((T.size : Int) < 400) = true := by rw [decide_eq_true_iff]; omega
    go_wp2_with fail
    refine (Fld.line_get _ T w2 (by show _ = _; simp [Fld.verL]) (by have a : (⟨#[71, 69, 84, 32]⟩ : ByteArray).size = 4 := rfl; have b : (⟨#[32, 72, 84, 84, 80, 47, 49, 46, 49]⟩ : ByteArray).size = 9 := rfl; simp only [ByteArray.size_append, a, b]; omega) h2 HT).mono ?_
    rintro e w3 ⟨rfl, x3⟩
    have HX3 := Lib.hid (HX2.out.trans x3)
    clear x3 HX2
    go_wp2_with fail
    go_ret
    exact ⟨by simp, HX3.out⟩
end Pl
end Go.Proofs.YtdoplndijlfabaaDoor

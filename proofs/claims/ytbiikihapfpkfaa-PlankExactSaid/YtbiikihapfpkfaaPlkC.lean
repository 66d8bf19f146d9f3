/- find, Create. -/
import Derived.Test.YtbiikihapfpkfaaPlkB
import Derived.StringKeys
set_option linter.unusedSimpArgs false
set_option linter.unusedVariables false
set_option linter.unusedSectionVars false
namespace Go.Proofs.Ytbiikihapfpkfaa
open Go Go.RowKit
namespace Plk
theorem str_key (n : List UInt8) (hn : n.length ≤ maxLen) : keyOf Try.prog 9 (str n) = some (.string n) := by
  have h := WideMaps.keyOf_string_mk (P := Try.prog) (s := ⟨n.toArray⟩) Try.underlying9 (by simpa [ByteArray.size] using hn)
  simpa [str] using h
theorem Dk.look {w : World} {d mp : Nat} {es : List E} {s : H} (h : Dk w d mp es s) (n : List UInt8) (hn : n.length ≤ maxLen) : (Instr.lookup 60 (.map (some mp)) (str n) false).run Try.prog w = .ok (ptrV (Nmd.get E.nm n es)) w := by
  obtain ⟨D, hm, hD⟩ := h.map
  obtain ⟨v, ps, hr, hv⟩ := hm.lookup (Maps.string_keyed Try.underlying9) Try.underlying60 (Try.zeroValue66 w) (zd := zeroP) (zp := []) rfl (str_key n hn)
  rw [(hD.2 n).1] at hv
  rw [ptrR_of hv] at hr
  exact hr
def H.find (s : H) (es : List E) (n : List UInt8) : Int × H × Option E :=
  if (s.begin [n]).1 ≠ 0 then ((s.begin [n]).1, (s.begin [n]).2, none) else match Nmd.get E.nm n es with
    | none => (7, (s.begin [n]).2, none)
    | some e => (0, (s.begin [n]).2, some e)
theorem begin_ok {s : H} {ns : List (List UInt8)} (h : (s.begin ns).1 = 0) : ∀ n ∈ ns, n.length ≤ 80 := by
  unfold H.begin at h
  intro n hn
  by_cases hb : (ns.any fun n => !isName n) = true
  · rw [if_pos hb] at h; cases h
  · rcases Nat.lt_or_ge 80 n.length with hl | hl
    · exfalso
      refine hb (List.any_eq_true.2 ⟨n, hn, ?_⟩)
      unfold isName
      simp
      omega
    · exact hl
theorem one_cells (W : World) (n : List UInt8) : ∀ j, j < [n].length → (W.alloc (.cells #[str n] 9)).cell? ⟨W.heap.size, 0 + j, none⟩ = some (str [n][j]!) := by
  intro j hj
  have : j = 0 := by simpa using hj
  subst this
  simp
set_option maxHeartbeats 1000000 in
theorem find_any (W : World) (d mp : Nat) (es : List E) (s : H) (hD : Dk W d mp es s) (n : List UInt8) (h0 : 0 ≤ s.ops) (h1 : s.ops < 4611686018427387904) :
    Calls Try.prog 43 #[.pointer (some ⟨d, 0, none⟩), str n] W fun e w' =>
      e = .returned (.tuple #[ptrV (s.find es n).2.2, .int .i64 (s.find es n).1]) ∧ Dk w' d mp es (s.find es n).2.1 ∧ But d W w' := by
  have hxa := Reg.Ext.alloc W (.cells #[str n] 9)
  have hb := begin_any _ d mp es s (hD.ext hxa) [n] W.heap.size (one_cells W n) (show 1 ≤ 9 by decide) 1 h0 h1
  have hok := begin_ok (s := s) (ns := [n])
  unfold H.find
  generalize s.begin [n] = r at hb hok ⊢
  obtain ⟨er, s'⟩ := r
  dsimp only at hb hok ⊢
  by_cases he : er = 0
  · have hn := hok he n (List.mem_singleton.2 rfl)
    clear hok
    subst he
    rw [if_neg (fun h => h rfl)]
    cases hg : Nmd.get E.nm n es with
    | none =>
      dsimp only [ptrV]
      unfold str at hb ⊢
      change Calls _ _ #[_, .slice _ 1 1] _ _ at hb
      go_enter Try.func43, Try.ntmps43
      go_wp2_with (go_at_call 42; refine hb.mono ?_; rintro e w1 ⟨rfl, hD1, hb1⟩; have c0 := hD1.c.1; have hl := hD1.look n (by unfold maxLen; omega); rw [hg] at hl; unfold str ptrV at hl)
      go_ret2
      exact ⟨rfl, hD1, (But.of_ext hxa).trans hb1⟩
    | some e0 =>
      dsimp only [ptrV]
      unfold str at hb ⊢
      change Calls _ _ #[_, .slice _ 1 1] _ _ at hb
      go_enter Try.func43, Try.ntmps43
      go_wp2_with (go_at_call 42; refine hb.mono ?_; rintro e w1 ⟨rfl, hD1, hb1⟩; have c0 := hD1.c.1; have hl := hD1.look n (by unfold maxLen; omega); rw [hg] at hl; unfold str ptrV at hl)
      go_ret2
      exact ⟨rfl, hD1, (But.of_ext hxa).trans hb1⟩
  · rw [if_pos he]
    have he' : (er == 0) = false := beq_eq_false_iff_ne.2 he
    clear hok
    dsimp only [ptrV]
    unfold str at hb ⊢
    change Calls _ _ #[_, .slice _ 1 1] _ _ at hb
    go_enter Try.func43, Try.ntmps43
    go_wp2_with (go_at_call 42; refine hb.mono ?_; rintro e w1 ⟨rfl, hD1, hb1⟩)
    go_ret2
    exact ⟨rfl, hD1, (But.of_ext hxa).trans hb1⟩
end Plk
end Go.Proofs.Ytbiikihapfpkfaa

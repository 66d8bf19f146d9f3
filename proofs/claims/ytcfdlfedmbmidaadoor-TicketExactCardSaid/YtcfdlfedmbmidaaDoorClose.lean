/- From a law's walk ('it returns true, and all that there was is as it was') to the row's 'post'. -/
import Derived.Test.YtcfdlfedmbmidaaDoorChecked
import Derived.Test.YtcfdlfedmbmidaaDoorReg
import Derived.Test.YtcfdlfedmbmidaaDoorWords
import Derived.WalkKit
import Derived.ProofKit
import Derived.OpenShut
import Derived.SliceStrings
import Derived.Deep.DeepHandedRow
import Derived.ChangeSame
set_option linter.unusedSimpArgs false
set_option linter.unusedVariables false
set_option linter.unusedSectionVars false
namespace Go.Proofs.YtcfdlfedmbmidaaDoor
open Go.ChangeShapes Go.WideShapes Go.ChangeAt Go.RowKit Go.WideMaps Go.WideElems
theorem Tryd.laidOut : laidOutB Tryd.prog = true := by kernel_rfl
theorem Tryd.cells9 : Tryd.prog.cellsOf 9 = 1 := by kernel_rfl
namespace Close
variable {H : Type} {enc : TypeId × Value → H}

theorem trodAll_length {P : Program} {W : World} {b : Nat} {sp : Nat → Bool} {hd : Bool} : ∀ {ts : List TypeId} {vs : List Value} {ds : List (DataW H)} {ps : List MemPlace},
    DataW.TrodAll enc P W b sp hd ts vs ds ps → ds.length = ts.length
  | [], _, _, _, h => by obtain ⟨_, rfl, _⟩ := trodAll_nil h; rfl
  | t :: ts, vs, ds, ps, h => by
    obtain ⟨v, vs', d, ds', p, q, _, rfl, _, _, r⟩ := trodAll_cons h
    simp [trodAll_length r]

theorem trodAll_below {P : Program} (hl : laidOutB P = true) {W W' : World} (hb : Below W.heap.size W W') (sp : Nat → Bool) :
    ∀ {ts : List TypeId} {vs : List Value} {ds : List (DataW H)} {ps : List MemPlace}, (ts.all fun t => P.readableRec t && decide (t < P.types.size)) = true →
    DataW.TrodAll enc P W 0 (fun _ => true) true ts vs ds ps → (∀ x ∈ ps, x.block < W.heap.size) → (∀ x ∈ ps, sp x.block = true) → DataW.TrodAll enc P W' 0 sp true ts vs ds ps
  | [], _, _, _, _, h, _, _ => by obtain ⟨rfl, rfl, rfl⟩ := trodAll_nil h; exact trodAll_mk0
  | t :: ts, vs, ds, ps, ht, h, hlt, hsp => by
    obtain ⟨v, vs', d, ds', p, q, rfl, rfl, rfl, h0, r⟩ := trodAll_cons h
    simp only [List.all_cons, Bool.and_eq_true, decide_eq_true_eq] at ht
    exact trodAll_cons_mk (Trod_stays hl ht.1.1 ht.1.2 h0 (fun x hx => hb.same (hlt x (by simp [hx]))) (fun x hx => hsp x (by simp [hx])))
      (trodAll_below hl hb sp (by simpa using ht.2) r (fun x hx => hlt x (by simp [hx])) (fun x hx => hsp x (by simp [hx])))

theorem law_post {P : Program} {f : Func} {s : ChangeSpec} {W W' : World} {args : Array Value} {ds : List (DataW H)} {p : List MemPlace} {n : Nat} {tb : TypeId}
    (hl : laidOutB P = true) (ht : (f.params.toList.all fun t => P.readableRec t && decide (t < P.types.size)) = true) (hv : s.vars = []) (hrt : f.resultTypes = #[tb]) (hbool : P.underlying tb = some .bool)
    (hW : DataW.Whole enc P f.params.toList s.vars false W args.toList ds [] p) (hA : DataW.TrodAll enc P W 0 (fun _ => true) true f.params.toList args.toList ds p)
    (hb : Below W.heap.size W W') (hlen : ds.length = n)
    (hs : ∀ ds' : List (DataW H), ds'.length = n → s.fn H (ds' ++ []) = { results := [.lit (.bool true)], args := ds' }) :
    s.post enc P f false true false false W args (.bool true) W' := by
  have hlt : ∀ x ∈ p, x.block < W.heap.size := fun x hx => hW.lt x hx
  have hfn := hs ds hlen
  refine ⟨ds, [], p, [], p, [], hW, ?_, ?_, ?_, World.keptBut_mono (fun x hx => ⟨hx, .inr (.inl hx)⟩) (hb.frame (· ∈ p)), fun h => by cases h⟩
  · rw [hfn, hrt]
    exact trodAll_cons_mk (shut_bool hbool _) trodAll_mk0
  · rw [hfn]
    exact trodAll_below hl hb _ ht hA hlt (fun x hx => by simpa using hlt x hx)
  · rw [hfn, hv]
    rfl

theorem laidMet_nil (P : Program) (W : World) : laidMet P [] W := by
  exact ⟨[], rfl, List.nodup_nil, fun _ _ h => by cases h⟩

/-- a []string that came in, nil let in -/
theorem open_strs {P : Program} {W : World} {base : Nat} {t e : TypeId} {v : Value} {d : DataW H} {p : List MemPlace}
    (ht : P.underlying t = some (.slice e)) (he : P.underlying e = some .string) (hc : P.cellsOf e = 1) (hv : Value.okWide P W .any base t v)
    (h : DataW.Trod enc P W 0 (fun _ => true) true t v d p) :
    ∃ A n c, ∃ ss : List ByteArray, v = .slice A n c ∧ (ss.length = n ∧ n ≤ maxLen ∧ Rd W A (ss.map strV) ∧ ∀ s ∈ ss, s.size ≤ maxLen) := by
  obtain ⟨a0, len, cap, rfl⟩ := okWide_slice ht hv
  obtain ⟨fuel, hf⟩ := h
  rcases open_strings ht he hc hf with ⟨hcs, _⟩ | ⟨a, len', cap', ss, hcs, _, hl, hm, hz, _, hcell, hws⟩
  · simp only [Value.cells, List.cons.injEq, and_true] at hcs
    injection hcs with e1 e2 e3
    subst e1 e2 e3
    exact ⟨none, 0, 0, [], rfl, rfl, Nat.zero_le _, Rd.nil_ _ _, fun s h => by cases h⟩
  · simp only [Value.cells, List.cons.injEq, and_true] at hcs
    injection hcs with e1 e2 e3
    subst e1 e2 e3
    simp only [if_true] at hz
    refine ⟨some a, len, cap, ss.take len, rfl, by rw [List.length_take]; omega, by omega, fun k hk => ?_, fun s hs => hws s (List.mem_of_mem_take hs)⟩
    have hk' : k < len := by rw [List.length_map, List.length_take] at hk; omega
    have hc' := hcell k (by omega)
    have hkl : k < ss.length := by omega
    refine ⟨a, rfl, ?_, ?_⟩
    · have := World.block_lt_of_cell? W _ hc'
      have e : (a.add k).block = a.block := by unfold Addr.add; split <;> rfl
      rw [e] at this; exact this
    · rw [hc']
      simp [List.getD, hkl, strV]

theorem i64_lo {x : Int} (h : (Lit.int .i64 x).wf = true) : -9223372036854775808 ≤ x := by
  simp only [Lit.wf, Bool.and_eq_true, decide_eq_true_eq] at h; exact h.1
theorem i64_hi {x : Int} (h : (Lit.int .i64 x).wf = true) : x ≤ 9223372036854775807 := by
  simp only [Lit.wf, Bool.and_eq_true, decide_eq_true_eq] at h; exact h.2
theorem u32_nat {x : Int} (h : (Lit.int .u32 x).wf = true) : ∃ n : Nat, x = (n : Int) ∧ n < 4294967296 := by
  simp only [Lit.wf, Bool.and_eq_true, decide_eq_true_eq] at h
  have h1 : 0 ≤ x := h.1
  have h2 : x ≤ 4294967295 := h.2
  exact ⟨x.toNat, by omega, by omega⟩
end Close
end Go.Proofs.YtcfdlfedmbmidaaDoor

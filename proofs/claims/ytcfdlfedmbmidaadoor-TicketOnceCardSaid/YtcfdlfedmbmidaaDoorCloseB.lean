/- An array of bytes that came in. -/
import Derived.Test.YtcfdlfedmbmidaaDoorClose
import Derived.WideKeyArr2
set_option linter.unusedSimpArgs false
set_option linter.unusedVariables false
set_option linter.unusedSectionVars false
namespace Go.Proofs.YtcfdlfedmbmidaaDoor
open Go.ChangeShapes Go.WideShapes Go.ChangeAt Go.RowKit Go.WideMaps Go.WideElems
namespace Close
variable {H : Type} {enc : TypeId × Value → H}
theorem mapM_each {α β : Type} {f : α → Option β} : ∀ {L : List α} {ys : List β}, L.mapM f = some ys → ∀ i ∈ L, ∃ y, f i = some y
  | [], _, _, i, hi => by cases hi
  | a :: L, ys, h, i, hi => by
    rw [List.mapM_cons] at h
    simp only [bind, Option.bind_eq_some_iff, pure, Option.some.injEq] at h
    obtain ⟨y, hy, zs, hzs, _⟩ := h
    rcases List.mem_cons.1 hi with rfl | hi
    · exact ⟨y, hy⟩
    · exact mapM_each hzs i hi
theorem list_of_bytes : ∀ (xs : List Value), (∀ x ∈ xs, ∃ a : Int, x = .int .u8 a ∧ 0 ≤ a ∧ a ≤ 255) → ∃ l : List UInt8, xs = l.map byteV
  | [], _ => ⟨[], rfl⟩
  | x :: xs, h => by
    obtain ⟨l, rfl⟩ := list_of_bytes xs fun y hy => h y (List.mem_cons_of_mem _ hy)
    obtain ⟨a, rfl, h0, h1⟩ := h x List.mem_cons_self
    refine ⟨UInt8.ofNat a.toNat :: l, ?_⟩
    rw [List.map_cons]
    congr 1
    unfold byteV
    rw [UInt8.toNat_ofNat']
    congr 1
    omega
/-- an array of bytes that came in -/
theorem open_bytes {P : Program} {W : World} {base : Nat} {k e : TypeId} {n : Nat} {v : Value} {d : DataW H} {p : List MemPlace} (A : ArrKey P k e n) (he : P.underlying e = some (.int .u8)) (hv : Value.okWide P W .any base k v)
    (h : DataW.Trod enc P W 0 (fun _ => true) true k v d p) : ∃ l : List UInt8, v = .agg (l.map byteV).toArray ∧ l.length = n := by
  obtain ⟨xs, rfl, hn⟩ := okWide_arr A hv
  obtain ⟨fuel, hf⟩ := h
  cases fuel with
  | zero => simp [DataW.trod] at hf
  | succ m =>
    rw [DataW.trod_step] at hf
    unfold DataW.trodStep at hf
    simp only [A.hu, Value.cells] at hf
    rw [if_pos (by rw [A.size]; simpa using hn)] at hf
    simp only [Option.map_eq_some_iff] at hf
    obtain ⟨ys, hy, e1⟩ := hf
    have hall : ∀ x ∈ xs.toList, ∃ a : Int, x = .int .u8 a ∧ 0 ≤ a ∧ a ≤ 255 := by
      intro x hx
      obtain ⟨i, hi, rfl⟩ := List.mem_iff_getElem.1 hx
      have hi' : i < n := by rw [Array.length_toList] at hi; omega
      obtain ⟨y, hy'⟩ := mapM_each hy i (List.mem_range.2 hi')
      rw [A.one, Nat.mul_one] at hy'
      obtain ⟨a, ea, _, wa⟩ := DataW.trod_int he hy'
      have hc : (xs.toList.drop i).take 1 = [xs.toList[i]] := by
        rw [List.drop_eq_getElem_cons hi]; rfl
      rw [hc] at ea
      injection ea with ea
      simp only [Lit.wf, Bool.and_eq_true, decide_eq_true_eq] at wa
      exact ⟨a, ea, wa.1, wa.2⟩
    obtain ⟨l, hl⟩ := list_of_bytes _ hall
    refine ⟨l, by rw [← hl], ?_⟩
    have := congrArg List.length hl
    rw [List.length_map, Array.length_toList] at this
    omega
/-- an array of two numbers that came in -/
theorem open_int2 {P : Program} {W : World} {base : Nat} {k e : TypeId} {v : Value} {d : DataW H} {p : List MemPlace} (A : ArrKey P k e 2) (he : P.underlying e = some (.int .i64)) (hv : Value.okWide P W .any base k v)
    (h : DataW.Trod enc P W 0 (fun _ => true) true k v d p) : ∃ a b : Int, v = .agg #[.int .i64 a, .int .i64 b] := by
  obtain ⟨xs, rfl, hn⟩ := okWide_arr A hv
  obtain ⟨fuel, hf⟩ := h
  cases fuel with
  | zero => simp [DataW.trod] at hf
  | succ m =>
    rw [DataW.trod_step] at hf
    unfold DataW.trodStep at hf
    simp only [A.hu, Value.cells] at hf
    rw [if_pos (by rw [A.size]; simpa using hn)] at hf
    simp only [Option.map_eq_some_iff] at hf
    obtain ⟨ys, hy, e1⟩ := hf
    have hall : ∀ i (hi : i < xs.toList.length), ∃ a : Int, xs.toList[i] = .int .i64 a := by
      intro i hi
      have hi' : i < 2 := by rw [Array.length_toList] at hi; omega
      obtain ⟨y, hy'⟩ := mapM_each hy i (List.mem_range.2 hi')
      rw [A.one, Nat.mul_one] at hy'
      obtain ⟨a, ea, _, wa⟩ := DataW.trod_int he hy'
      have hc : (xs.toList.drop i).take 1 = [xs.toList[i]] := by
        rw [List.drop_eq_getElem_cons hi]; rfl
      rw [hc] at ea
      injection ea with ea
      exact ⟨a, ea⟩
    have hl : xs.toList.length = 2 := by rw [Array.length_toList]; exact hn
    obtain ⟨a, ha⟩ := hall 0 (by omega)
    obtain ⟨b, hb⟩ := hall 1 (by omega)
    refine ⟨a, b, ?_⟩
    have : xs.toList = [.int .i64 a, .int .i64 b] := by
      match hx : xs.toList, hl with
      | [u, v], _ =>
        simp only [hx, List.getElem_cons_zero, List.getElem_cons_succ] at ha hb
        rw [ha, hb]
    congr 1
    exact Array.toList_inj.1 this
end Close
end Go.Proofs.YtcfdlfedmbmidaaDoor

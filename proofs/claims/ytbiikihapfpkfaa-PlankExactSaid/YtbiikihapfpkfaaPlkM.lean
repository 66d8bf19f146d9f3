/- Names. -/
import Derived.Test.YtbiikihapfpkfaaPlkD
import Derived.Test.YtbiikihapfpkfaaPlkB
import Derived.Test.YtbiikihapfpkfaaLayKeys
set_option linter.unusedSimpArgs false
set_option linter.unusedVariables false
set_option linter.unusedSectionVars false
namespace Go.Proofs.Ytbiikihapfpkfaa
open Go Go.RowKit Go.Proofs Go.Maps Go.Sort Go.Shelf
namespace Plk
theorem sorts (m : Nat) : AnyZ.SortsIn Try.prog Try.laySorted_ren Fence.wide m :=
  ⟨fun blk off cap ss W hH hblk hsz => callsIn_wide.2 (AnyM.slices_Sort_string Try.laySort blk off cap ss W hH hblk hsz),
   fun p cap W => callsIn_wide.2 (AnyM.slices_Sort_string_none Try.laySort p cap W)⟩
theorem keys_of (mb : Option Nat) (W : World) : CallsIn Fence.wide 5 Try.prog 46 #[.map mb] W fun e w' => e = .returned (.func (.func 58) #[] #[.pointer (some ⟨W.heap.size, 0, none⟩)]) ∧ w' = W.alloc (.cells #[.map mb] 60) :=
  AnyZ.keys_in Try.layKeys Fence.wide 5 trivial rfl mb W
set_option maxHeartbeats 1000000 in
theorem sorted_of (b nn : Nat) (D0 : DataW Unit) (w : World) (hown : w.ownsMap Try.prog 9 ptrR b nn D0) (hmax : Maps.size D0 ≤ maxLen) (hbytes : Maps.size D0 * 16 ≤ 140737488355328) :
    CallsIn Fence.wide 5 Try.prog 45 #[.func (.func 58) #[] #[.pointer (some ⟨w.heap.size, 0, none⟩)]] (w.alloc (.cells #[.map (some b)] 60)) fun e w' => ∃ (v : Value) (ss : List (List UInt8)), e = .returned v ∧ ss.Perm (strKeys D0) ∧
      w'.ownsRow (w.alloc (.cells #[.map (some b)] 60)).heap.size 9 1 v ss.length ((ss.mergeSort (fun x y => decide (x ≤ y))).map encStr) ∧ (v = .slice none 0 0 ↔ ss = []) ∧ Below (w.alloc (.cells #[.map (some b)] 60)).heap.size (w.alloc (.cells #[.map (some b)] 60)) w' := by
  have hbl := hown.lt
  have hseq : SeqGives Fence.wide 2 Try.prog 58 #[.pointer (some ⟨w.heap.size, 0, none⟩)] encStr (fun ss => ss.Perm (strKeys D0)) (Maps.size D0) (w.alloc (.cells #[.map (some b)] 60)) :=
    AnyZ.keys_gives (ρ := Try.layKeys_ren) { Try.layKeys with } Fence.wide _ trivial rfl (by omega) w.heap.size b nn D0 _ (by simp) (by simp) (by
      obtain ⟨es, clock, hb, Ft, hs, hD⟩ := hown
      exact ⟨es, clock, (Below.heap_alloc _ _ b hbl).trans hb, Ft, hs, hD⟩)
  exact AnyZ.sorted_in Try.laySorted Fence.wide 5 trivial trivial trivial trivial rfl (by omega) (sorts _) (enters_of Try.func57 (by kernel_rfl) rfl) 58 #[.pointer (some ⟨w.heap.size, 0, none⟩)] trivial (enters_of Try.func58 (by kernel_rfl) rfl) _ _ hmax hbytes _ hseq
set_option maxHeartbeats 1000000 in
theorem names_any (W : World) (d mp : Nat) (es : List E) (s : H) (hD : Dk W d mp es s) (hc : es.length ≤ 200) :
    Calls Try.prog 20 #[.pointer (some ⟨d, 0, none⟩)] W fun e w' => ∃ v, e = .returned v ∧ w'.ownsRow W.heap.size 9 1 v es.length ((es.map E.nm).map encStr) ∧ Reg.Ext W w' := by
  obtain ⟨D, hm, hMD⟩ := hD.map
  have hperm := keys_perm hm hMD hD.up
  have hK := keys_of (some mp) W
  have hS := sorted_of mp es.length D W hm (by rw [hMD.1]; unfold maxLen; omega) (by rw [hMD.1]; omega)
  have fin : ∀ (v : Value) (ss : List (List UInt8)) (w' : World), ss.Perm (strKeys D) → w'.ownsRow (W.alloc (.cells #[.map (some mp)] 60)).heap.size 9 1 v ss.length ((ss.mergeSort (fun x y => decide (x ≤ y))).map encStr) →
      Below (W.alloc (.cells #[.map (some mp)] 60)).heap.size (W.alloc (.cells #[.map (some mp)] 60)) w' → w'.ownsRow W.heap.size 9 1 v es.length ((es.map E.nm).map encStr) ∧ Reg.Ext W w' := by
    intro v ss w' hp hr hb
    have e1 := Nmd.sorted_names hD.up (hp.trans hperm)
    have e2 : ss.length = es.length := by rw [(hp.trans hperm).length_eq, List.length_map]
    rw [e1, e2] at hr
    exact ⟨ownsRow_base_a hr (by simp), (Reg.Ext.alloc _ _).trans hb⟩
  have c0 := hD.c.1
  clear hm hMD hperm hD
  refine (callsIn_wide (n := 6)).1 ?_
  have hfK : Fence.wide.fn 46 := trivial
  have hfS : Fence.wide.fn 45 := trivial
  refine callsIn_of_wp Try.func20 rfl trivial ?_ rfl
  simp only [Try.ntmps20, List.size_toArray, List.length_cons, List.length_nil, Nat.reduceAdd, Nat.reduceSub, Array.replicate_succ, Array.replicate_zero, List.push_toArray, List.append_toArray, List.nil_append, List.cons_append]
  gi_wp2_with (first
    | (gi_at_call 46; refine hK.mono ?_; rintro e w' ⟨rfl, rfl⟩)
    | (gi_at_call 45; refine hS.mono ?_; rintro e w' ⟨v, ss, rfl, hSS, hrow, hnil, hb⟩))
  go_ret
  obtain ⟨h1, h2⟩ := fin _ _ _ hSS hrow hb
  exact ⟨v, rfl, h1, h2⟩
end Plk
end Go.Proofs.Ytbiikihapfpkfaa

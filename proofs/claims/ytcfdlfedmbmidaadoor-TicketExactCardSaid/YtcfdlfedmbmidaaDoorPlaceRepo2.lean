/- Package place: IsRepo, whose loop ranges over a function of the library. -/
import Derived.RangeFuncNested
import Derived.RangeFuncBound
import Derived.RangeFuncCalls
import Derived.RangeFuncLeaves
import Derived.Shelf.Abstract
import Derived.Shelf.RegionOpen
import Derived.OwnWalkIn
import Derived.TacticsInMore
import Derived.LoopNIn
import Derived.LoopIn
import Derived.Test.YtcfdlfedmbmidaaDoorPlaceW2
import Derived.Test.YtcfdlfedmbmidaaDoorStrIdx1
set_option linter.unusedSimpArgs false
set_option linter.unusedVariables false
set_option linter.unusedSectionVars false
namespace Go.Proofs.YtcfdlfedmbmidaaDoor
open Go.RowKit
attribute [local go_sem] Oper.semAt_some
namespace Pl
/-- the three variables that the iterator has captured -/
def caps (z : Nat) : Array Value := #[.pointer (some ⟨z + 1, 0, none⟩), .pointer (some ⟨z, 0, none⟩), .pointer (some ⟨z + 2, 0, none⟩)]
def boxed (w : World) (s : ByteArray) : World := ((w.alloc (.cells #[.string s] 9)).alloc (.cells #[.string ⟨#[47]⟩] 9)).alloc (.cells #[.int .i64 0] 3)
set_option maxHeartbeats 2000000 in
theorem splitSeq_any (s : ByteArray) (w : World) : Calls Tryd.prog 38 #[.string s, .string ⟨#[47]⟩] w fun e w' => e = .returned (.func (.func 61) #[] (caps w.heap.size)) ∧ w' = boxed w s := by
  go_enter Tryd.func38, Tryd.ntmps38
  go_wp2
  go_ret
  exact ⟨rfl, rfl⟩
/-! ### a loop over a function: one round, and the statement -/
abbrev Lp (fn : FuncId) (tmps : Array Value) (p : Tmp) (assign body : Code) (D : Nat) (st : LoopState) (pe : Option Code) : Obj :=
  .loop { state := st, pending := pe, fn := fn, tmps := tmps, params := #[p], assign := assign, body := body, defers := D }
/-- how a round ends -/
def RPost (l : Nat) (ready busy done : Obj) (R : Ending → World → Prop) : Exit → Act → World → Prop
  | .normal, _, W3 => W3.heap[l]? = some busy ∧ R (.returned (.bool true)) (W3.putObj l ready)
  | .ret, _, W3 => W3.heap[l]? = some busy ∧ R (.returned (.bool false)) (W3.putObj l done)
  | _, _, _ => False
theorem rf_round {P : Program} {n l D p : Nat} {fn : FuncId} {tmps : Array Value} {assign body : Code} {x : Value} {W : World} {R : Ending → World → Prop} {a1 : Act} {rec : LoopState → Option Code → Obj} (hrec : rec = fun st pe => Lp fn tmps p assign body D st pe)
    (hl : W.heap[l]? = some (rec .ready none))
    (hasg : ∀ K : Act → World → Prop, K a1 W → assign.wpIn (Fence.wide.inRound l) n P (Exit.then K (fun _ _ _ => False)) { tmps := tmps.setIfInBounds p x, defers := [] } W)
    (hbody : body.wpIn (Fence.wide.inRound l) n P (RPost l (rec .ready none) (rec .busy none) (rec .done (some .ret)) R) a1 (W.putObj l (rec .busy none))) :
    YieldAt Fence.wide n P l #[x] W R := by
  subst hrec
  refine ⟨fn, _, assign, body, run_yield hl rfl, roundIn_of_wpIn trivial ?_⟩
  have e : ((#[p].zip #[x]).foldl (fun (tmps : Array Value) (y : Tmp × Value) => tmps.setIfInBounds y.1 y.2) tmps) = tmps.setIfInBounds p x := by simp
  show assign.wpIn _ _ _ _ { tmps := (#[p].zip #[x]).foldl (fun (tmps : Array Value) (y : Tmp × Value) => tmps.setIfInBounds y.1 y.2) tmps, defers := [] } W
  rw [e]
  refine hasg _ ?_
  refine ⟨_, run_beginRound hl rfl, wpIn_mono hbody ?_⟩
  intro e a3 W3 h
  cases e with
  | normal => exact ⟨_, _, run_endRound none h.1, h.2⟩
  | ret => exact ⟨_, _, run_endRound (some .ret) h.1, h.2⟩
  | exit _ => exact h.elim
  | goto _ => exact h.elim
  | panic _ => exact h.elim
  | outgrown => exact h.elim
theorem rf_end {P : Program} {l D p : Nat} {fn : FuncId} {tmps : Array Value} {assign body : Code} {W : World} {rec : LoopState → Option Code → Obj} {st : LoopState} {pe : Option Code} (hrec : rec = fun st pe => Lp fn tmps p assign body D st pe)
    (hl : W.heap[l]? = some (rec st pe)) (hst : st ≠ .busy) : (Instr.endLoop l).run P W = .ok pe (W.putObj l (rec .exhausted pe)) := by
  subst hrec
  exact run_endLoop hl hst
theorem rf_stmt {P : Program} {n p : Nat} {g : Operand} {assign body : Code} {Q : Exit → Act → World → Prop} {a : Act} {w : World} {gf : FuncId} {lb : Array Value}
    (hg : a.eval g = .func (.func gf) #[] lb) (eg : ∀ args w, (callFunc gf args).run P w = .ok (.enter gf args) w)
    (hcall : ∀ (fn : FuncId) (rec : LoopState → Option Code → Obj), rec = (fun st pe => Lp fn a.tmps p assign body w.heap.size st pe) → CallsIn Fence.wide (n - 1) P gf (#[.func (.yield (w.heap.size + 1)) #[] #[]] ++ lb)
      ((w.alloc (.deferred (some []))).alloc (rec .ready none))
      (rangePost Fence.wide n P (w.heap.size + 1) Q { a with defers := [{ target := .collected w.heap.size, args := #[] }] ++ a.defers })) :
    (Code.rangeFunc g #[p] assign body).wpIn Fence.wide n P Q a w := by
  refine wpIn_rangeFunc ?_
  intro fn _
  have hc := hcall fn _ rfl
  obtain ⟨W1, hW1⟩ : ∃ W1, (w.alloc (.deferred (some []))).alloc (Lp fn a.tmps p assign body w.heap.size .ready none) = W1 := ⟨_, rfl⟩
  rw [hW1] at hc
  have h1 : (Instr.enterLoop fn a.tmps #[p] assign body Fence.wide.round).run P w = .ok (w.heap.size + 1, [{ target := .collected w.heap.size, args := #[] }]) W1 := by
    rw [← hW1]; exact run_enterLoop_outer _ _ _ _ _
  have h2 : (resolve a.eval (rangeCall g (w.heap.size + 1)) 0).run P W1 = .ok { target := .fn (.func gf) lb, args := #[.func (.yield (w.heap.size + 1)) #[] #[]] } W1 := by
    simp only [resolve, hg]
    simp [go_sem]
  have h3 : (invoke (Target.fn (.func gf) lb) #[.func (.yield (w.heap.size + 1)) #[] #[]]).run P W1 = .ok (.enter gf (#[.func (.yield (w.heap.size + 1)) #[] #[]] ++ lb)) W1 := by
    simp [invoke, go_sem, eg]
  refine ⟨_, _, _, _, _, _, _, _, h1, h2, ?_, h3, ?_, hc⟩
  · intro _ _; trivial
  · intro h; exact absurd h (by decide)
/-! ### where the first slash stands -/
theorem idx_cases (l : List UInt8) : (Lib.indexByte l 47 = -1 ∧ splitP l = [l]) ∨ (∃ k : Nat, k < l.length ∧ Lib.indexByte l 47 = (k : Int) ∧ splitP l = l.take k :: splitP (l.drop (k + 1))) := by
  induction l with
  | nil => exact .inl ⟨rfl, rfl⟩
  | cons c l ih =>
    unfold Lib.indexByte
    by_cases h : c = 47
    · subst h
      exact .inr ⟨0, by simp, rfl, by simp [splitP]⟩
    · have h1 : (c == 47) = false := beq_eq_false_iff_ne.2 h
      rw [h1]
      rcases ih with ⟨i1, i2⟩ | ⟨k, hk, i1, i2⟩
      · refine .inl ⟨by rw [i1]; rfl, ?_⟩
        rw [splitP, if_neg h, i2]
      · refine .inr ⟨k + 1, by simpa using hk, ?_, ?_⟩
        · have hm : (Lib.indexByte l 47 == -1) = false := by rw [i1, beq_eq_false_iff_ne]; omega
          rw [hm, i1]; simp
        · rw [splitP, if_neg h, i2]; simp
def strAt (W : World) (a : Addr) : Nat := match W.cell? a with
  | some (.string s) => s.size
  | _ => 0
set_option maxHeartbeats 4000000 in
theorem iter_any (l z : Nat) (good : List UInt8 → Bool) (s : ByteArray) (hs : s.size ≤ 274877906944) (W0 : World) (S : ByteArray → World → Prop) (SX : World → Prop)
    (hS0 : S s W0)
    (hc : ∀ R W, S R W → (W.cell? ⟨z, 0, none⟩ = some (.string R) ∧ W.frozen? ⟨z, 0, none⟩ = false) ∧ W.cell? ⟨z + 1, 0, none⟩ = some (.string ⟨#[47]⟩) ∧ W.cell? ⟨z + 2, 0, none⟩ = some (.int .i64 0))
    (hset : ∀ R R' W, S R W → S R' (W.setCell ⟨z, 0, none⟩ (.string R')))
    (hY : ∀ R W (x : ByteArray), S R W → x.size ≤ 274877906944 → YieldAt Fence.wide 3 Tryd.prog l #[.string x] W fun e W' => (good x.data.toList = true ∧ e = .returned (.bool true) ∧ S R W') ∨ (good x.data.toList = false ∧ e = .returned (.bool false) ∧ SX W')) :
    CallsIn Fence.wide 4 Tryd.prog 61 (#[.func (.yield l) #[] #[]] ++ caps z) W0 fun e W' => (∃ v, e = .returned v) ∧ (((splitP s.data.toList).all good = true ∧ ∃ R, S R W') ∨ ((splitP s.data.toList).all good = false ∧ SX W')) := by
  refine callsIn_of_wp Tryd.func61 rfl trivial ?_ rfl
  simp only [Tryd.ntmps61, caps, List.size_toArray, List.length_cons, List.length_nil, Nat.reduceAdd, Nat.reduceSub, Array.replicate_succ, Array.replicate_zero, List.push_toArray, List.append_toArray, List.nil_append, List.cons_append]
  have HS0 := Lib.hid hS0
  have HC := Lib.hid hc
  have HST := Lib.hid hset
  have HY := Lib.hid hY
  obtain ⟨⟨c1, c2⟩, c3, c4⟩ := hc _ _ hS0
  clear hS0 hc hset hY
  gi_wp2
  clear c1 c2 c3 c4
  gi_loopw [7, 8] (fun _ _ wr => ∃ R : ByteArray, Hid (S R wr) ∧ R.size ≤ s.size ∧ Hid ((splitP s.data.toList).all good = (splitP R.data.toList).all good)) (fun _ _ wr => strAt wr ⟨z, 0, none⟩)
  case atStart => exact ⟨s, HS0, Nat.le_refl _, rfl⟩
  case round =>
    obtain ⟨R, HS, hle, HA⟩ := hrel
    obtain ⟨⟨c1, c2⟩, c3, c4⟩ := HC.out _ _ HS.out
    have HI := Lib.hid (Go.Proofs.Tryd.strings_Index_one R 47 wr)
    rcases idx_cases R.data.toList with ⟨i1, i2⟩ | ⟨k, hk, i1, i2⟩
    · rw [i1] at HI
      have HA2 : Hid ((splitP s.data.toList).all good = good R.data.toList) := by show _ = _; rw [HA.out, i2]; simp
      obtain ⟨fn, tmps, assign, body, hy, hR⟩ := HY.out R wr R HS.out (by omega)
      have HR := Lib.hid hR
      clear i1 i2 hR
      gi_wp2_with (refine ⟨trivial, ?_⟩; gi_at_call 63; refine (callsIn_wide.2 HI.out).mono ?_; rintro e w' ⟨rfl, rfl⟩)
      refine HR.out.mono ?_
      rintro e W' (⟨g1, rfl, h1⟩ | ⟨g1, rfl, h1⟩)
      · gi_wp2
        go_end0
        exact ⟨⟨_, rfl⟩, .inl ⟨HA2.out.trans g1, R, h1⟩⟩
      · gi_wp2
        go_end0
        exact ⟨⟨_, rfl⟩, .inr ⟨HA2.out.trans g1, h1⟩⟩
    · rw [i1] at HI
      rw [len_data] at hk
      have hx : (R.extract 0 k).data.toList = R.data.toList.take k := ext_to R k
      have hrest : (R.extract (k + 1) R.size).data.toList = R.data.toList.drop (k + 1) := ext_from R (k + 1)
      have HA2 : Hid ((splitP s.data.toList).all good = (good (R.extract 0 k).data.toList && (splitP (R.extract (k + 1) R.size).data.toList).all good)) := by
        show _ = _
        rw [HA.out, i2, hx, hrest]; simp
      obtain ⟨fn, tmps, assign, body, hy, hR⟩ := HY.out R wr (R.extract 0 k) HS.out (ext_le _ _ _ (by omega))
      have HR := Lib.hid hR
      have hms : strAt wr ⟨z, 0, none⟩ = R.size := by unfold strAt; rw [c1]
      have HMS := Lib.hid hms
      clear i1 i2 hR hx hrest hms
      gi_wp2_with (refine ⟨trivial, ?_⟩; gi_at_call 63; refine (callsIn_wide.2 HI.out).mono ?_; rintro e w' ⟨rfl, rfl⟩)
      refine HR.out.mono ?_
      rintro e W' (⟨g1, rfl, h1⟩ | ⟨g1, rfl, h1⟩)
      · have HA3 : Hid ((splitP s.data.toList).all good = (splitP (R.extract (k + 1) R.size).data.toList).all good) := by show _ = _; rw [HA2.out, g1]; rfl
        have HS2 := Lib.hid (HST.out _ (R.extract (k + 1) R.size) _ h1)
        obtain ⟨⟨d1, d2⟩, d3, d4⟩ := HC.out _ _ h1
        clear c1 c2 c3 c4 hy g1 h1
        gi_wp2
        have hn := (HC.out _ _ HS2.out).1.1
        refine ⟨⟨_, HS2, ext_le _ _ _ hle, HA3⟩, ?_⟩
        rw [HMS.out]
        unfold strAt
        rw [hn]
        simp only [ByteArray.size_extract]
        omega
      · gi_wp2
        refine bodyPost_ret (results_none rfl _ _ _) rfl ?_
        exact ⟨⟨_, rfl⟩, .inr ⟨by rw [HA2.out, g1]; rfl, h1⟩⟩
/-! ### what stands while the loop goes -/
structure St (w : World) (rec : LoopState → Option Code → Obj) (R : ByteArray) (W : World) : Prop where
  res : Blk W w.heap.size 4 [.bool false]
  str : Blk W (w.heap.size + 1) 9 [.string R]
  sep : Blk W (w.heap.size + 2) 9 [.string ⟨#[47]⟩]
  sav : Blk W (w.heap.size + 3) 3 [.int .i64 0]
  col : W.heap[w.heap.size + 4]? = some (.deferred (some []))
  lp : W.heap[w.heap.size + 5]? = some (rec .ready none)
  ext : Reg.Ext w W
structure StX (w : World) (rec : LoopState → Option Code → Obj) (W : World) : Prop where
  res : Blk W w.heap.size 4 [.bool false]
  col : W.heap[w.heap.size + 4]? = some (.deferred (some []))
  lp : W.heap[w.heap.size + 5]? = some (rec .done (some .ret))
  ext : Reg.Ext w W
theorem alloc_at' (w : World) (o : Obj) (n : Nat) (h : w.heap.size = n) : (w.alloc o).heap[n]? = some o := by subst h; exact heap_alloc_new w o
theorem lt_of {W : World} {k : Nat} {o : Obj} (h : W.heap[k]? = some o) : k < W.heap.size := (Array.getElem?_eq_some_iff.1 h).1
theorem put_but (W : World) (l : Nat) (o : Obj) : But l W (W.putObj l o) := grownBy_putObj' W l o
section
variable {w W W' : World} {rec : LoopState → Option Code → Obj} {R : ByteArray}
theorem St.set (h : St w rec R W) (R' : ByteArray) : St w rec R' (W.setCell ⟨w.heap.size + 1, 0, none⟩ (.string R')) := by
  have hb := But.set_ (w.heap.size + 1) W 0 (.string R')
  refine ⟨h.res.but hb (by omega), h.str.set_ 0 _, h.sep.but hb (by omega), h.sav.but hb (by omega), ?_, ?_, h.ext.trans_but hb (by omega)⟩
  · exact (hb.block _ (lt_of h.col) (by intro e; injection e; omega)).trans h.col
  · exact (hb.block _ (lt_of h.lp) (by intro e; injection e; omega)).trans h.lp
end
theorem res_cell {W : World} {z : Nat} {tmps : Array Value} {b : Bool} (hp : tmps.getD 2 undef = .pointer (some ⟨z, 0, none⟩)) (hb : Blk W z 4 [.bool b]) :
    (results Tryd.f24 tmps).run Tryd.prog W = .ok (.bool b) W := by
  have hc : W.cell? ⟨z, 0, none⟩ = some (.bool b) := hb.cell 0
  rw [Array.getD_eq_getD_getElem?] at hp
  simp [results, Tryd.results24, hp, hc, go_sem]
set_option maxRecDepth 100000 in
set_option maxHeartbeats 4000000 in
theorem repo_any (s : ByteArray) (w : World) :
    Calls Tryd.prog 24 #[.string s] w fun e w' => e = .returned (.bool (repoP s.data.toList)) ∧ Reg.Ext w w' := by
  refine (callsIn_wide (n := 5)).1 ?_
  refine callsIn_of_wp_marks Tryd.func24 rfl trivial ?_ rfl
  simp only [Tryd.ntmps24, List.size_toArray, List.length_cons, List.length_nil, Nat.reduceAdd, Nat.reduceSub, Array.replicate_succ, Array.replicate_zero, List.push_toArray, List.append_toArray, List.nil_append, List.cons_append]
  by_cases h128 : 128 < s.size
  · have d1 : decide ((128 : Int) < (s.size : Int)) = true := by rw [decide_eq_true_iff]; omega
    have HV := Lib.hid (show repoP s.data.toList = false by unfold repoP; rw [len_data, decide_eq_false (by omega)]; rfl)
    gi_wp2
    exact ⟨_, res_cell rfl (Blk.new w 4 #[.bool false]), by rw [HV.out], Reg.Ext.alloc _ _⟩
  · have hs : s.size ≤ 274877906944 := by omega
    have d1 : decide ((128 : Int) < (s.size : Int)) = false := by rw [decide_eq_false_iff_not]; omega
    have HV := Lib.hid (show repoP s.data.toList = (splitP s.data.toList).all partP by unfold repoP; rw [len_data, decide_eq_true (by omega)]; rfl)
    gi_wp2_with (refine ⟨trivial, ?_⟩; gi_at_call 38; refine (callsIn_wide.2 (splitSeq_any s _)).mono ?_; rintro e w' ⟨rfl, rfl⟩)
    have hsz : (w.alloc (Obj.cells #[Value.bool false] 4)).heap.size = w.heap.size + 1 := Array.size_push _
    have b0 := Blk.new w 4 #[.bool false]
    have x0 := Reg.Ext.alloc w (Obj.cells #[Value.bool false] 4)
    generalize w.alloc (Obj.cells #[Value.bool false] 4) = u0 at *
    have b1 := Blk.new u0 9 #[.string s]
    have x1 := Reg.Ext.alloc u0 (Obj.cells #[.string s] 9)
    have s1 : (u0.alloc (Obj.cells #[.string s] 9)).heap.size = w.heap.size + 2 := by rw [show (u0.alloc (Obj.cells #[.string s] 9)).heap.size = u0.heap.size + 1 from Array.size_push _, hsz]
    unfold boxed
    rw [hsz] at b1
    generalize u0.alloc (Obj.cells #[.string s] 9) = u1 at *
    have b2 := Blk.new u1 9 #[.string ⟨#[47]⟩]
    have x2 := Reg.Ext.alloc u1 (Obj.cells #[.string ⟨#[47]⟩] 9)
    have s2 : (u1.alloc (Obj.cells #[.string ⟨#[47]⟩] 9)).heap.size = w.heap.size + 3 := by rw [show (u1.alloc (Obj.cells #[.string ⟨#[47]⟩] 9)).heap.size = u1.heap.size + 1 from Array.size_push _, s1]
    rw [s1] at b2
    generalize u1.alloc (Obj.cells #[.string ⟨#[47]⟩] 9) = u2 at *
    have b3 := Blk.new u2 3 #[.int .i64 0]
    have x3 := Reg.Ext.alloc u2 (Obj.cells #[.int .i64 0] 3)
    have s3 : (u2.alloc (Obj.cells #[.int .i64 0] 3)).heap.size = w.heap.size + 4 := by rw [show (u2.alloc (Obj.cells #[.int .i64 0] 3)).heap.size = u2.heap.size + 1 from Array.size_push _, s2]
    rw [s2] at b3
    generalize u2.alloc (Obj.cells #[.int .i64 0] 3) = u3 at *
    refine rf_stmt (gf := 61) (lb := caps (w.heap.size + 1)) rfl (enters_of Tryd.func61 (by kernel_rfl) rfl) ?_
    intro fn rec hrec
    rw [s3]
    have x4 := Reg.Ext.alloc u3 (Obj.deferred (some []))
    have k4 := alloc_at' u3 (Obj.deferred (some [])) _ s3
    have s4 : (u3.alloc (Obj.deferred (some []))).heap.size = w.heap.size + 5 := by rw [show (u3.alloc (Obj.deferred (some []))).heap.size = u3.heap.size + 1 from Array.size_push _, s3]
    generalize u3.alloc (Obj.deferred (some [])) = u4 at *
    have x5 := Reg.Ext.alloc u4 (rec .ready none)
    have k5 := alloc_at' u4 (rec .ready none) _ s4
    generalize u4.alloc (rec .ready none) = u5 at *
    have hSt : St w rec s u5 := by
      have y4 := x4.trans x5
      have y3 := x3.trans y4
      have y2 := x2.trans y3
      have y1 := x1.trans y2
      exact ⟨b0.ext y1, b1.ext y2, b2.ext y3, b3.ext y4, (x5.block _ (lt_of k4)).trans k4, k5, x0.trans y1⟩
    have HST := Lib.hid hSt
    clear hSt x0 x1 x2 x3 x4 x5 b0 b1 b2 b3 k4 k5 s1 s2 s3 s4 hsz
    have hround : ∀ R W (x : ByteArray), St w rec R W → x.size ≤ 274877906944 → YieldAt Fence.wide 3 Tryd.prog (w.heap.size + 5) #[.string x] W fun e W' => (partP x.data.toList = true ∧ e = .returned (.bool true) ∧ St w rec R W') ∨ (partP x.data.toList = false ∧ e = .returned (.bool false) ∧ StX w rec W') := by
      intro R W x h hx
      have hl := h.lp
      refine rf_round hrec (a1 := { tmps := #[.string s, undef, .pointer (some ⟨w.heap.size, 0, none⟩), .string x, .string s, .int .i64 (s.size : Int), .bool false, .string s, .func (.func 61) #[] (caps (w.heap.size + 1)), .string x, undef, undef, undef], defers := [] }) hl ?_ ?_
      · intro K hK
        gi_wp2
        exact hK
      · have hlt := lt_of hl
        have hb := put_but W (w.heap.size + 5) (rec .busy none)
        have hl2 := World.putObj_heap_same (o := rec .busy none) hlt
        have hres := h.res.but hb (by omega)
        have hstr := h.str.but hb (by omega)
        have hsep := h.sep.but hb (by omega)
        have hsav := h.sav.but hb (by omega)
        have hcol := (hb.block _ (lt_of h.col) (by intro e; injection e; omega)).trans h.col
        have hext := h.ext.trans_but hb (by omega)
        generalize W.putObj (w.heap.size + 5) (rec .busy none) = W2 at *
        have HPA := Lib.hid (part_any x W2 hx)
        have H1 := Lib.hid hres
        have H2 := Lib.hid hstr
        have H3 := Lib.hid hsep
        have H4 := Lib.hid hsav
        have H5 := Lib.hid hcol
        have H6 := Lib.hid hl2
        have H7 := Lib.hid hext
        clear hres hstr hsep hsav hcol hl2 hext hb hl h hlt HST hrec
        cases hp : partP x.data.toList with
        | true =>
          rw [hp] at HPA
          have HP := Lib.hid hp
          clear hp
          gi_wp2_with (refine ⟨trivial, ?_⟩; gi_at_call 39; refine (CallsIn.inRound _ (callsIn_wide.2 HPA.out)).mono ?_; rintro e w' ⟨rfl, hx3⟩; have HX3 := Lib.hid hx3; clear hx3)
          have hx3 := HX3.out
          have hb2 := put_but w' (w.heap.size + 5) (rec .ready none)
          have k6 := (hx3.block _ (lt_of H6.out)).trans H6.out
          have k5 := (hx3.block _ (lt_of H5.out)).trans H5.out
          exact ⟨k6, rfl, (H1.out.ext hx3).but hb2 (by omega), (H2.out.ext hx3).but hb2 (by omega), (H3.out.ext hx3).but hb2 (by omega), (H4.out.ext hx3).but hb2 (by omega), (hb2.block _ (lt_of k5) (by intro e; injection e; omega)).trans k5, World.putObj_heap_same (lt_of k6), (H7.out.trans hx3).trans_but hb2 (by omega)⟩
        | false =>
          rw [hp] at HPA
          have HP := Lib.hid hp
          clear hp
          gi_wp2_with (refine ⟨trivial, ?_⟩; gi_at_call 39; refine (CallsIn.inRound _ (callsIn_wide.2 HPA.out)).mono ?_; rintro e w' ⟨rfl, hx3⟩; have q1 : w'.cell? ⟨w.heap.size, 0, none⟩ = some (.bool false) := (H1.out.ext hx3).cell 0; have q2 : w'.frozen? ⟨w.heap.size, 0, none⟩ = false := (H1.out.ext hx3).frozen 0; have HX3 := Lib.hid hx3; clear hx3)
          have hx3 := HX3.out
          have hs4 := But.set_ w.heap.size w' 0 (.bool false)
          have k1 := (H1.out.ext hx3).set_ 0 (.bool false)
          have k6 := (hx3.block _ (lt_of H6.out)).trans H6.out
          have k5 := (hx3.block _ (lt_of H5.out)).trans H5.out
          have j6 := (hs4.block _ (lt_of k6) (by intro e; injection e; omega)).trans k6
          have j5 := (hs4.block _ (lt_of k5) (by intro e; injection e; omega)).trans k5
          have j7 := (H7.out.trans hx3).trans_but hs4 (by omega)
          have hb2 := put_but (w'.setCell ⟨w.heap.size, 0, none⟩ (.bool false)) (w.heap.size + 5) (rec .done (some .ret))
          exact ⟨j6, rfl, k1.but hb2 (by omega), (hb2.block _ (lt_of j5) (by intro e; injection e; omega)).trans j5, World.putObj_heap_same (lt_of j6), j7.trans_but hb2 (by omega)⟩
    refine (iter_any (w.heap.size + 5) (w.heap.size + 1) partP s hs u5 (St w rec) (StX w rec) HST.out ?_ ?_ hround).mono ?_
    · intro R W h
      exact ⟨⟨h.str.cell 0, h.str.frozen 0⟩, h.sep.cell 0, h.sav.cell 0⟩
    · intro R R' W h
      exact h.set R'
    · have HREC := Lib.hid hrec
      clear hround HST hrec
      rintro e W' ⟨⟨v, rfl⟩, ⟨hall, R, h⟩ | ⟨hall, h⟩⟩
      · have hb := put_but W' (w.heap.size + 5) (rec .exhausted none)
        have k1 := h.res.but hb (by omega)
        have k5 := (hb.block _ (lt_of h.col) (by intro e; injection e; omega)).trans h.col
        have k7 := h.ext.trans_but hb (by omega)
        refine ⟨none, _, rf_end HREC.out h.lp (by decide), ?_⟩
        generalize W'.putObj (w.heap.size + 5) (rec .exhausted none) = W4 at *
        have q1 : W4.cell? ⟨w.heap.size, 0, none⟩ = some (.bool false) := k1.cell 0
        have q2 : W4.frozen? ⟨w.heap.size, 0, none⟩ = false := k1.frozen 0
        have HV2 := Lib.hid (HV.out.trans hall)
        have K1 := Lib.hid k1
        have K5 := Lib.hid k5
        have K7 := Lib.hid k7
        clear k1 k5 k7 hall h hb
        gi_wp2
        have hs4 := But.set_ w.heap.size W4 0 (.bool true)
        have j5 := (hs4.block _ (lt_of K5.out) (by intro e; injection e; omega)).trans K5.out
        have j1 := K1.out.set_ 0 (.bool true)
        have j7 := K7.out.trans_but hs4 (by omega)
        refine ⟨by simp, .inl ⟨_, _, rfl, run_takeDeferred j5, ?_⟩⟩
        have hb5 := put_but (W4.setCell ⟨w.heap.size, 0, none⟩ (.bool true)) (w.heap.size + 4) (.deferred none)
        exact ⟨_, res_cell rfl (j1.but hb5 (by omega)), by rw [HV2.out], j7.trans_but hb5 (by omega)⟩
      · have hb := put_but W' (w.heap.size + 5) (rec .exhausted (some .ret))
        have k1 := h.res.but hb (by omega)
        have k5 := (hb.block _ (lt_of h.col) (by intro e; injection e; omega)).trans h.col
        have k7 := h.ext.trans_but hb (by omega)
        refine ⟨some .ret, _, rf_end HREC.out h.lp (by decide), ?_⟩
        generalize W'.putObj (w.heap.size + 5) (rec .exhausted (some .ret)) = W4 at *
        have HV2 := Lib.hid (HV.out.trans hall)
        have K1 := Lib.hid k1
        have K5 := Lib.hid k5
        have K7 := Lib.hid k7
        clear k1 k5 k7 hall h hb
        gi_wp2
        refine ⟨by simp, .inl ⟨_, _, rfl, run_takeDeferred K5.out, ?_⟩⟩
        have hb5 := put_but W4 (w.heap.size + 4) (.deferred none)
        exact ⟨_, res_cell rfl (K1.out.but hb5 (by omega)), by rw [HV2.out], K7.out.trans_but hb5 (by omega)⟩
end Pl
end Go.Proofs.YtcfdlfedmbmidaaDoor

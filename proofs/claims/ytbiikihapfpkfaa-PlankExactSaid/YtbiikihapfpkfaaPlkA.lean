/- An act: a struct of eight cells, loaded whole, stored whole; a slice of acts. -/
import Derived.Test.YtbiikihapfpkfaaPlkZ
import Derived.Test.YtbiikihapfpkfaaReg
import Derived.Deep.MidRow
set_option linter.unusedSimpArgs false
set_option linter.unusedVariables false
set_option linter.unusedSectionVars false
namespace Go.Proofs.Ytbiikihapfpkfaa
open Go Go.RowKit
theorem Try.actUnd : Try.prog.underlying 41 = some (.struct (Try.prog.fieldsOf 41)) := by kernel_rfl
theorem Try.actSize : (Try.prog.info? 41).map (·.size) = some 8 := by kernel_rfl
namespace Plk
structure A where
  k : Int
  nm : List UInt8
  to : List UInt8
  s : List UInt8
  x : Int
  n : Int
  b : Int
  ka : Option Addr
  kc : Nat
  ks : List Int
def A.cells (a : A) : List Value := [.int .i64 a.k, .string ⟨a.nm.toArray⟩, .string ⟨a.to.toArray⟩, .string ⟨a.s.toArray⟩, .int .i64 a.x, .int .i64 a.n, .int .i64 a.b, .slice a.ka a.ks.length a.kc]
def A.v (a : A) : Value := .agg a.cells.toArray
def A.keeps (a : A) (w : World) : Prop := Rd w a.ka (a.ks.map (Value.int .i64)) ∧ a.ks.length ≤ a.kc ∧ a.kc ≤ maxLen
def Acts (w : World) (p : Option Addr) (us : List A) : Prop := ∀ k (h : k < us.length), ∃ g o, p = some ⟨g, o, none⟩ ∧ g < w.heap.size ∧ (∀ i v, us[k].cells[i]? = some v → w.cell? ⟨g, o + k * 8 + i, none⟩ = some v) ∧ us[k].keeps w
theorem A.keeps.ext {a : A} {w w' : World} (h : a.keeps w) (hx : Reg.Ext w w') : a.keeps w' := ⟨h.1.below hx, h.2⟩
theorem Acts.ext {w w' : World} {p : Option Addr} {us : List A} (h : Acts w p us) (hx : Reg.Ext w w') : Acts w' p us := fun k hk => by
  obtain ⟨g, o, e, hg, h1, h2⟩ := h k hk
  exact ⟨g, o, e, Nat.lt_of_lt_of_le hg hx.size, fun i v hv => hx.at_ (h1 i v hv), h2.ext hx⟩
theorem A.len (a : A) : a.cells.length = 8 := rfl
section
variable {ops : Array Oper} {rest : List Oper} {o : Oper} {a : Act} {w : World} {Q : Exit → Act → World → Prop}
theorem wpList_act (hw : Region.wanted o (yielded ops a.tmps) = true) (x : Operand) (ho : o.op = .load 41 x)
    (g off : Nat) (hx : a.eval x = .pointer (some ⟨g, off, none⟩)) (u : A) (h0 : w.rangeAt g off u.cells)
    (hk : wpList Try.prog ops Q rest (a.put o.dst u.v) w) : wpList Try.prog ops Q (o :: rest) a w := by
  unfold wpList
  rw [if_pos hw]
  exact .inl (wp_load_mid _ x ho g off hx u.cells _ h0 Try.actUnd rfl Try.actSize hk)
theorem wpList_sta (hgd : o.guard = none) (x y : Operand) (ho : o.op = .store 41 x y)
    (g : Nat) (u : A) (hx : a.eval x = .pointer (some ⟨g, 0, none⟩)) (hy : a.eval y = u.v) (cs : List Value) (hl : cs.length = 8) (hb : Hid (Blk w g 41 cs))
    (h : wpList Try.prog ops Q rest (a.put o.dst undef) (w.setCells g 0 u.cells)) : wpList Try.prog ops Q (o :: rest) a w := by
  refine wpList_store_mid hgd 41 x y ho g 0 u.cells.toArray hx hy ?_ Try.actSize (by simp [A.cells, Value.oneCell']) h
  exact hb.out.there 8 (by omega)
end
theorem newa (w : World) (u : A) (cs : Array Value) (hl : cs.size = 8) : Blk ((w.alloc (Obj.cells cs 41)).setCells w.heap.size 0 u.cells) w.heap.size 41 u.cells ∧ Reg.Ext w ((w.alloc (Obj.cells cs 41)).setCells w.heap.size 0 u.cells) := by
  refine ⟨(Blk.new w _ cs).setAll _ (by simp [hl, A.cells]), ?_⟩
  exact (Reg.Ext.alloc w _).trans_but (But.setCells w.heap.size _ 0 _) (Nat.le_refl _)
theorem blk_range {w : World} {g : Nat} {t : TypeId} {cs : List Value} (h : Blk w g t cs) : w.rangeAt g 0 cs := by
  intro j v hv
  rw [Nat.zero_add]
  rw [h.cell j, hv]
/-- the numbers to keep are numbers of 64 bits -/
def Bounded (us : List A) : Prop := ∀ a ∈ us, ∀ x ∈ a.ks, -9223372036854775808 ≤ x ∧ x ≤ 9223372036854775807
def A.great (a : A) : Bool := decide (4096 < a.s.length) || decide (200 < a.nm.length) || decide (200 < a.to.length) || decide (100 < a.ks.length)
set_option maxRecDepth 100000 in
set_option maxHeartbeats 1000000 in
theorem great_any (a : A) (W : World) (hk : a.kc ≤ maxLen) : Calls Try.prog 19 #[a.v] W fun e w' => e = .returned (.bool a.great) ∧ Reg.Ext W w' := by
  have hx := Reg.Ext.alloc W (.cells a.cells.toArray 41)
  generalize hg : a.great = gr
  unfold A.great at hg
  obtain ⟨k, nm, to, s, x, n, b, ka, kc, ks⟩ := a
  unfold A.v A.cells at *
  dsimp only at *
  clear hk
  have z1 := ba_size s
  have z2 := ba_size nm
  have z3 := ba_size to
  go_enter Try.func19, Try.ntmps19
  by_cases h1 : 4096 < s.length
  · rw [decide_eq_true h1] at hg
    have hg : true = gr := hg
    subst hg
    go_wp2
    go_ret
    exact ⟨rfl, hx⟩
  · rw [decide_eq_false h1] at hg
    by_cases h2 : 200 < nm.length
    · rw [decide_eq_true h2] at hg
      have hg : true = gr := hg
      subst hg
      go_wp2
      go_ret
      exact ⟨rfl, hx⟩
    · rw [decide_eq_false h2] at hg
      by_cases h3 : 200 < to.length
      · rw [decide_eq_true h3] at hg
        have hg : true = gr := hg
        subst hg
        go_wp2
        go_ret
        exact ⟨rfl, hx⟩
      · rw [decide_eq_false h3] at hg
        have hg : decide (100 < ks.length) = gr := by simpa using hg
        subst hg
        by_cases h4 : 100 < ks.length
        · go_wp2
          go_ret
          exact ⟨by simp [h4]; omega, hx⟩
        · go_wp2
          go_ret
          exact ⟨by simp [h4]; omega, hx⟩
def P.done (p : P) (a : A) : Int × P := if a.k = 2 then p.append a.nm a.s else if a.k = 3 then ((p.read a.nm a.x a.n).2.1, (p.read a.nm a.x a.n).2.2) else if a.k = 4 then p.sync a.nm else if a.k = 5 then p.rename a.nm a.to else if a.k = 6 then p.delete a.nm else p.create a.nm
set_option maxRecDepth 100000 in
set_option maxHeartbeats 2000000 in
theorem done_any {W0 w : World} {d : Nat} {p : P} (h : Hold W0 w d p) (a : A) (h1 : p.h.ops < big) (ht : a.s.length ≤ 4294967296) :
    Calls Try.prog 23 #[.pointer (some ⟨d, 0, none⟩), a.v] w fun e w' => e = .returned (.int .i64 (p.done a).1) ∧ Hold W0 w' d (p.done a).2 := by
  have hx := Reg.Ext.alloc w (.cells a.cells.toArray 41)
  have H := Lib.hid (h.more hx)
  generalize hr : p.done a = r
  unfold P.done at hr
  obtain ⟨k, nm, to, s, x, n, b, ka, kc, ks⟩ := a
  unfold A.v A.cells at *
  dsimp only at *
  clear h hx
  have hrk := Lib.hid hr
  clear hr
  go_enter Try.func23, Try.ntmps23
  by_cases k2 : k = 2
  · have hr := hrk.out
    rw [if_pos k2] at hr
    subst hr k2
    have hc := H.out.append nm s h1 ht
    unfold str at hc
    go_wp2_with (go_at_call 11; refine hc.mono ?_; rintro e w' ⟨rfl, h2⟩)
    go_ret
    exact ⟨rfl, h2⟩
  · by_cases k3 : k = 3
    · have hr := hrk.out
      rw [if_neg k2, if_pos k3] at hr
      subst hr k3
      have hc := H.out.read nm x n h1
      unfold str at hc
      generalize p.read nm x n = q at hc ⊢
      clear k2
      go_wp2_with (go_at_call 18; refine hc.mono ?_; rintro e w' ⟨rfl, h2⟩)
      go_ret
      exact ⟨rfl, h2⟩
    · by_cases k4 : k = 4
      · have hr := hrk.out
        rw [if_neg k2, if_neg k3, if_pos k4] at hr
        subst hr k4
        have hc := H.out.sync nm h1
        unfold str at hc
        clear k2 k3
        go_wp2_with (go_at_call 12; refine hc.mono ?_; rintro e w' ⟨rfl, h2⟩)
        go_ret
        exact ⟨rfl, h2⟩
      · by_cases k5 : k = 5
        · have hr := hrk.out
          rw [if_neg k2, if_neg k3, if_neg k4, if_pos k5] at hr
          subst hr k5
          have hc := H.out.rename nm to h1
          unfold str at hc
          clear k2 k3 k4
          go_wp2_with (go_at_call 32; refine hc.mono ?_; rintro e w' ⟨rfl, h2⟩)
          go_ret
          exact ⟨rfl, h2⟩
        · by_cases k6 : k = 6
          · have hr := hrk.out
            rw [if_neg k2, if_neg k3, if_neg k4, if_neg k5, if_pos k6] at hr
            subst hr k6
            have hc := H.out.delete nm h1
            unfold str at hc
            clear k2 k3 k4 k5
            go_wp2_with (go_at_call 34; refine hc.mono ?_; rintro e w' ⟨rfl, h2⟩)
            go_ret
            exact ⟨rfl, h2⟩
          · have hr := hrk.out
            rw [if_neg k2, if_neg k3, if_neg k4, if_neg k5, if_neg k6] at hr
            subst hr
            have hc := H.out.create nm h1
            unfold str at hc
            have q2 : (k == 2) = false := beq_eq_false_iff_ne.2 k2
            have q3 : (k == 3) = false := beq_eq_false_iff_ne.2 k3
            have q4 : (k == 4) = false := beq_eq_false_iff_ne.2 k4
            have q5 : (k == 5) = false := beq_eq_false_iff_ne.2 k5
            have q6 : (k == 6) = false := beq_eq_false_iff_ne.2 k6
            clear k2 k3 k4 k5 k6
            go_wp2_with (go_at_call 9; refine hc.mono ?_; rintro e w' ⟨rfl, h2⟩)
            go_ret
            exact ⟨rfl, h2⟩
end Plk
end Go.Proofs.Ytbiikihapfpkfaa

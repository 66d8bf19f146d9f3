/- Made by merge.py from: PlkB PlkC PlkE PlkG. -/
import Derived.Test.YtafeealbdpmdkaaGreatDoorPkA
import Derived.Test.YtafeealbdpmdkaaGreatDoorLayCF
import Derived.BigQuiet
import Derived.BigRegion
import Derived.Lib.Hide
import Derived.StringKeys
set_option linter.unusedSimpArgs false
set_option linter.unusedVariables false
set_option linter.unusedSectionVars false
set_option maxRecDepth 100000
/- isName, begin. -/
open Go.Lib renaming hid → y_
-- squeezed
namespace Go.Proofs.YtafeealbdpmdkaaGreatDoor
open Go Go.RowKit
namespace Plk
def str (n : List UInt8) : Value := .string ⟨n.toArray⟩
theorem isName_any (n : List UInt8) (W : World) : Calls Tryz.prog 91 #[str n] W fun e w' => e = .returned (.bool (isName n)) ∧ w' = W := by
 have hs : (⟨n.toArray⟩ : ByteArray).size = n.length := by simp [ByteArray.size]
 unfold str isName
 go_enter Tryz.func91, Tryz.ntmps91
 by_cases h1 : 1 ≤ n.length
 ·by_cases h2 : n.length ≤ 80
  ·go_wp2
   go_ret
   exact ⟨by simp [h1, h2, hs] <;> omega, rfl⟩
  ·go_wp2
   go_ret
   exact ⟨by simp [h1, h2, hs] <;> omega, rfl⟩
 ·go_wp2
  go_ret
  exact ⟨by simp [h1, hs], rfl⟩
theorem pred (w : World) : PredAt Tryz.prog 90 #[] str (fun n => !isName n) w := fun W n _ => by
 show Calls Tryz.prog 90 #[str n] W _
 have hc := isName_any n
 go_enter Tryz.func90, Tryz.ntmps90
 generalize isName n = b at hc ⊢
 go_wp2_with (go_at_call 91; refine (hc _).mono ?_; rintro e w' ⟨rfl, rfl⟩)
 go_ret
 exact ⟨rfl, 0, rfl⟩
theorem Dk.c {w : World} {d mp : Nat} {es : List E} {s : H} (h : Dk w d mp es s) :
  w.cell? ⟨d, 0, none⟩ = some (.map (some mp)) ∧ w.cell? ⟨d, 1, none⟩ = some (.int .i64 s.room) ∧ w.cell? ⟨d, 2, none⟩ = some (.int .i64 s.used) ∧ w.cell? ⟨d, 3, none⟩ = some (.int .i64 s.ops) ∧
  w.cell? ⟨d, 4, none⟩ = some (.bool s.off) ∧ w.cell? ⟨d, 5, none⟩ = some (.int .i64 s.ak) ∧ w.cell? ⟨d, 6, none⟩ = some (.int .i64 s.af) ∧ w.cell? ⟨d, 7, none⟩ = some (.int .i64 s.al) :=
 ⟨h.blk.cell 0, h.blk.cell 1, h.blk.cell 2, h.blk.cell 3, h.blk.cell 4, h.blk.cell 5, h.blk.cell 6, h.blk.cell 7⟩
theorem cf_any (ns : List (List UInt8)) (b : Nat) (W : World) (hc : ∀ j, j < ns.length → W.cell? ⟨b, 0 + j, none⟩ = some (str ns[j]!)) (hl : ns.length ≤ 9) (c : Nat) :
  Calls Tryz.prog 89 #[.slice (some ⟨b, 0, none⟩) ns.length c, .func (.func 90) #[] #[]] W fun e w' => e = .returned (.bool (ns.any fun n => !isName n)) ∧ Reg.Ext W w' := by
 have h := AnyE.slices_ContainsFunc Tryz.layCF str (fun n => !isName n) 90 #[] (enters_of Tryz.func90 (by kernel_rfl) rfl) b 0 ns.length c ns W (pred W) (Nat.le_refl _) (by omega) hc
 rw [List.take_length] at h
 refine h.mono ?_
 rintro e w' ⟨rfl, q, rfl⟩
 exact ⟨rfl, Reg.Ext.drewN W q⟩
theorem Dk.setH {w : World} {d mp : Nat} {es : List E} {s s' : H} (h : Dk w d mp es s) (i : Nat) (u : Value) (hs : (s.head mp).set i u = s'.head mp) : Dk (w.setCell ⟨d, i, none⟩ u) d mp es s' :=
 h.turn (fun j _ hne => Below.heap_setCell w ⟨d, i, none⟩ u j hne) (by rw [← hs]; exact h.blk.set_ i u)
theorem Turn.of_but {w w' : World} {d mp : Nat} {es : List E} (h : But d w w') : Turn d mp w es w' es :=
 ⟨h.os, h.tape, h.output, h.size, fun i hi hn => h.block i hi fun e => hn (.inl (by injection e)), fun _ h => .inl h⟩
set_option maxHeartbeats 4000000 in
/-- Off -/
theorem off_any (W : World) (d mp : Nat) (es : List E) (s : H) (hD : Dk W d mp es s) : Calls Tryz.prog 13 #[.pointer (some ⟨d, 0, none⟩)] W fun e w' => e = .returned (.tuple #[]) ∧ Dk w' d mp es { s with off := true, ak := 0, af := 0, al := 0 } ∧ But d W w' := by
 have fz := hD.blk.frozen
 have f4 := fz 4
 have f5 := fz 5
 have f6 := fz 6
 have f7 := fz 7
 obtain ⟨c0, c1, c2, c3, c4, c5, c6, c7⟩ := hD.c
 clear fz
 go_enter Tryz.func13, Tryz.ntmps13
 go_wp2
 go_end0
 refine ⟨rfl, ?_, (((But.set_ d W 4 _).trans (But.set_ d _ 5 _)).trans (But.set_ d _ 6 _)).trans (But.set_ d _ 7 _)⟩
 exact (((hD.setH (s' := { s with off := true }) 4 (.bool true) rfl).setH (s' := { s with off := true, ak := 0 }) 5 (.int .i64 0) rfl).setH (s' := { s with off := true, ak := 0, af := 0 }) 6 (.int .i64 0) rfl).setH 7 (.int .i64 0) rfl
set_option maxHeartbeats 1000000 in
/-- begin -/
theorem begin_any (W : World) (d mp : Nat) (es : List E) (s : H) (hD : Dk W d mp es s) (ns : List (List UInt8)) (b : Nat) (hc : ∀ j, j < ns.length → W.cell? ⟨b, 0 + j, none⟩ = some (str ns[j]!)) (hl : ns.length ≤ 9) (c : Nat)
  (h0 : 0 ≤ s.ops) (h1 : s.ops < 4611686018427387904) : Calls Tryz.prog 68 #[.pointer (some ⟨d, 0, none⟩), .slice (some ⟨b, 0, none⟩) ns.length c] W fun e w' =>
    e = .returned (.int .i64 (s.begin ns).1) ∧ Dk w' d mp es (s.begin ns).2 ∧ But d W w' := by
 have hcf := cf_any ns b W hc hl c
 generalize hr : s.begin ns = r
 unfold H.begin at hr
 generalize (ns.any fun n => !isName n) = bad at hcf hr
 clear hc hl
 obtain ⟨room, used, ops, off, ak, af, al⟩ := s
 dsimp only at hr h0 h1
 have hof := off_any
 go_enter Tryz.func68, Tryz.ntmps68
 cases bad with
 | true =>
   rw [if_pos rfl] at hr
   subst hr
   go_wp2_with (go_at_call 89; refine hcf.mono ?_; rintro e w1 ⟨rfl, hx⟩)
   go_ret
   exact ⟨rfl, hD.ext hx, But.of_ext hx⟩
 | false =>
   cases off with
   | true =>
     rw [if_neg Bool.false_ne_true, if_pos rfl] at hr
     subst hr
     go_wp2_with (go_at_call 89; refine hcf.mono ?_; rintro e w1 ⟨rfl, hx⟩; have hD1 := hD.ext hx; obtain ⟨c0, c1, c2, c3, c4, c5, c6, c7⟩ := hD1.c; have f3 := hD1.blk.frozen 3; dsimp only at c1 c2 c3 c4 c5 c6 c7)
     go_ret
     exact ⟨rfl, hD.ext hx, But.of_ext hx⟩
   | false =>
     rw [if_neg Bool.false_ne_true, if_neg Bool.false_ne_true] at hr
     have hrk := y_ hr
     clear hr
     go_wp2_with (go_at_call 89; refine hcf.mono ?_; rintro e w1 ⟨rfl, hx⟩; have hD1 := hD.ext hx; obtain ⟨c0, c1, c2, c3, c4, c5, c6, c7⟩ := hD1.c; have f3 := hD1.blk.frozen 3; dsimp only at c1 c2 c3 c4 c5 c6 c7)
     have hb2 : But d W (w1.setCell ⟨d, 3, none⟩ (.int .i64 (ops + 1))) := (But.of_ext hx).trans (But.set_ d _ 3 _)
     have hD2 : Dk (w1.setCell ⟨d, 3, none⟩ (.int .i64 (ops + 1))) d mp es ⟨room, used, ops + 1, false, ak, af, al⟩ := hD1.setH 3 _ rfl
     generalize w1.setCell ⟨d, 3, none⟩ (.int .i64 (ops + 1)) = w2 at hb2 hD2 ⊢
     generalize ops + 1 = o1 at hD2 hrk
     clear c0 c1 c2 c3 c4 c5 c6 c7 f3 hD hD1 hcf hx h0 h1
     obtain ⟨c0, c1, c2, c3, c4, c5, c6, c7⟩ := hD2.c
     dsimp only at c1 c2 c3 c4 c5 c6 c7
     by_cases k1 : ak = 0
     ·have hr := hrk.out
      rw [if_pos (.inl k1)] at hr
      subst hr
      subst k1
      go_quiet (fail)
      go_wp2
      go_ret
      exact ⟨rfl, hD2.ext (Reg.Ext.drewN _ _), hb2.trans (But.of_ext (Reg.Ext.drewN _ _))⟩
     ·have q1 : (ak == 0) = false := beq_eq_false_iff_ne.2 k1
      by_cases k2 : o1 < af
      ·have q2 : decide (o1 < af) = true := decide_eq_true k2
       have hr := hrk.out
       rw [if_pos (.inr (.inl k2))] at hr
       subst hr
       clear k1 k2
       go_quiet (fail)
       go_wp2
       go_ret
       exact ⟨rfl, hD2.ext (Reg.Ext.drewN _ _), hb2.trans (But.of_ext (Reg.Ext.drewN _ _))⟩
      ·have q2 : decide (o1 < af) = false := decide_eq_false k2
       by_cases k3 : al < o1
       ·have q3 : decide (al < o1) = true := decide_eq_true k3
        have hr := hrk.out
        rw [if_pos (.inr (.inr k3))] at hr
        subst hr
        clear k1 k2 k3
        go_quiet (fail)
        go_wp2
        go_ret
        exact ⟨rfl, hD2.ext (Reg.Ext.drewN _ _), hb2.trans (But.of_ext (Reg.Ext.drewN _ _))⟩
       ·have q3 : decide (al < o1) = false := decide_eq_false k3
        have hr := hrk.out
        rw [if_neg (by rintro (h | h | h); exact k1 h; exact k2 h; exact k3 h)] at hr
        by_cases k4 : ak = 2
        ·rw [if_pos k4] at hr
         subst hr
         clear k1 k2 k3
         go_quiet (fail)
         go_wp2_with (go_at_call 13; refine (hof _ d mp es _ (hD2.ext (Reg.Ext.drewN _ _))).mono ?_; rintro e w3 ⟨rfl, hD3, hb3⟩)
         go_ret
         exact ⟨rfl, hD3, (hb2.trans (But.of_ext (Reg.Ext.drewN _ _))).trans hb3⟩
        ·rw [if_neg k4] at hr
         subst hr
         clear k1 k2 k3
         go_quiet (fail)
         go_wp2
         go_ret
         exact ⟨rfl, hD2.ext (Reg.Ext.drewN _ _), hb2.trans (But.of_ext (Reg.Ext.drewN _ _))⟩
end Plk
end Go.Proofs.YtafeealbdpmdkaaGreatDoor
/- find, Create. -/
namespace Go.Proofs.YtafeealbdpmdkaaGreatDoor
open Go Go.RowKit
namespace Plk
theorem str_key (n : List UInt8) (hn : n.length ≤ maxLen) : keyOf Tryz.prog 9 (str n) = some (.string n) := by
 have h := WideMaps.keyOf_string_mk (P := Tryz.prog) (s := ⟨n.toArray⟩) Tryz.underlying9 (by simpa [ByteArray.size] using hn)
 simpa [str] using h
theorem Dk.look {w : World} {d mp : Nat} {es : List E} {s : H} (h : Dk w d mp es s) (n : List UInt8) (hn : n.length ≤ maxLen) : (Instr.lookup 70 (.map (some mp)) (str n) false).run Tryz.prog w = .ok (ptrV (Nmd.get E.nm n es)) w := by
 obtain ⟨D, hm, hD⟩ := h.map
 obtain ⟨v, ps, hr, hv⟩ := hm.lookup (Maps.string_keyed Tryz.underlying9) Tryz.underlying70 (Tryz.zeroValue83 w) (zd := zeroP) (zp := []) rfl (str_key n hn)
 rw [(hD.2 n).1] at hv
 rw [ptrR_of hv] at hr
 exact hr
def H.find (s : H) (es : List E) (n : List UInt8) : Int × H × Option E :=
 if (s.begin [n]).1 ≠ 0 then ((s.begin [n]).1, (s.begin [n]).2, none) else match Nmd.get E.nm n es with
  | none => (7, (s.begin [n]).2, none)
  | some e => (0, (s.begin [n]).2, some e)
theorem begin_ok {s : H} {ns : List (List UInt8)} (h : (s.begin ns).1 = 0) : ∀ n ∈ ns, n.length ≤ 80 := by
 unfold H.begin at h
 intro n hn
 by_cases hb : (ns.any fun n => !isName n) = true
 ·rw [if_pos hb] at h; cases h
 ·rcases Nat.lt_or_ge 80 n.length with hl | hl
  ·exfalso
   refine hb (List.any_eq_true.2 ⟨n, hn, ?_⟩)
   unfold isName
   simp
   omega
  ·exact hl
theorem one_cells (W : World) (n : List UInt8) : ∀ j, j < [n].length → (W.alloc (.cells #[str n] 9)).cell? ⟨W.heap.size, 0 + j, none⟩ = some (str [n][j]!) := by
 intro j hj
 have : j = 0 := by simpa using hj
 subst this
 simp
set_option maxHeartbeats 1000000 in
theorem find_any (W : World) (d mp : Nat) (es : List E) (s : H) (hD : Dk W d mp es s) (n : List UInt8) (h0 : 0 ≤ s.ops) (h1 : s.ops < 4611686018427387904) :
  Calls Tryz.prog 47 #[.pointer (some ⟨d, 0, none⟩), str n] W fun e w' =>
   e = .returned (.tuple #[ptrV (s.find es n).2.2, .int .i64 (s.find es n).1]) ∧ Dk w' d mp es (s.find es n).2.1 ∧ But d W w' := by
 have hxa := Reg.Ext.alloc W (.cells #[str n] 9)
 have hb := begin_any _ d mp es s (hD.ext hxa) [n] W.heap.size (one_cells W n) (show 1 ≤ 9 by decide) 1 h0 h1
 have hok := begin_ok (s := s) (ns := [n])
 unfold H.find
 generalize s.begin [n] = r at hb hok ⊢
 obtain ⟨er, s'⟩ := r
 dsimp only at hb hok ⊢
 by_cases he : er = 0
 ·have hn := hok he n (List.mem_singleton.2 rfl)
  clear hok
  subst he
  rw [if_neg (fun h => h rfl)]
  cases hg : Nmd.get E.nm n es with
  | none =>
    dsimp only [ptrV]
    unfold str at hb ⊢
    change Calls _ _ #[_, .slice _ 1 1] _ _ at hb
    go_enter Tryz.func47, Tryz.ntmps47
    go_wp2_with (go_at_call 68; refine hb.mono ?_; rintro e w1 ⟨rfl, hD1, hb1⟩; have c0 := hD1.c.1; have hl := hD1.look n (by unfold maxLen; omega); rw [hg] at hl; unfold str ptrV at hl)
    go_ret2
    exact ⟨rfl, hD1, (But.of_ext hxa).trans hb1⟩
  | some e0 =>
    dsimp only [ptrV]
    unfold str at hb ⊢
    change Calls _ _ #[_, .slice _ 1 1] _ _ at hb
    go_enter Tryz.func47, Tryz.ntmps47
    go_wp2_with (go_at_call 68; refine hb.mono ?_; rintro e w1 ⟨rfl, hD1, hb1⟩; have c0 := hD1.c.1; have hl := hD1.look n (by unfold maxLen; omega); rw [hg] at hl; unfold str ptrV at hl)
    go_ret2
    exact ⟨rfl, hD1, (But.of_ext hxa).trans hb1⟩
 ·rw [if_pos he]
  have he' : (er == 0) = false := beq_eq_false_iff_ne.2 he
  clear hok
  dsimp only [ptrV]
  unfold str at hb ⊢
  change Calls _ _ #[_, .slice _ 1 1] _ _ at hb
  go_enter Tryz.func47, Tryz.ntmps47
  go_wp2_with (go_at_call 68; refine hb.mono ?_; rintro e w1 ⟨rfl, hD1, hb1⟩)
  go_ret2
  exact ⟨rfl, hD1, (But.of_ext hxa).trans hb1⟩
end Plk
end Go.Proofs.YtafeealbdpmdkaaGreatDoor
/- Create. -/
namespace Go.Proofs.YtafeealbdpmdkaaGreatDoor
open Go Go.RowKit
namespace Plk
def pl (es : List E) (s : H) : P := ⟨es.map E.f, s⟩
def P.create (p : P) (n : List UInt8) : Int × P :=
 if (p.h.begin [n]).1 ≠ 0 then ((p.h.begin [n]).1, ⟨p.fs, (p.h.begin [n]).2⟩) else if (Nmd.get F.name n p.fs).isSome = true then (9, ⟨p.fs, (p.h.begin [n]).2⟩)
 else if 200 ≤ p.fs.length then (6, ⟨p.fs, (p.h.begin [n]).2⟩) else (0, ⟨Nmd.ins F.name ⟨n, [], 0⟩ p.fs, (p.h.begin [n]).2⟩)
theorem get_pl (es : List E) (n : List UInt8) : Nmd.get F.name n (es.map E.f) = (Nmd.get E.nm n es).map E.f := Nmd.get_map F.name E.f n es
theorem ptrR_some (g : Nat) : ptrR (.pointer (some ⟨g, 0, none⟩)) = some (.lit (.int .i64 ((g : Int) + 1)), []) := rfl
/-- a file more, by the map's store -/
theorem Dk.added {w w1 : World} {d mp : Nat} {es : List E} {s : H} {D : DataW Unit} (h : Dk w d mp es s) (n : List UInt8) (hg : Nmd.get E.nm n es = none) (hD : MapD D es) (g : Nat) (v : Value) (l : List UInt8) (k : Nat)
  (hf : Blk w g 86 [v, .int .i64 (k : Int)]) (hr : PRow w v l) (hs : v.ownBlock ≠ some g) (hb : ¬ Own d mp es g ∧ ∀ x, v.ownBlock = some x → ¬ Own d mp es x)
  (hm0 : w.ownsMap Tryz.prog 9 ptrR mp es.length D)
  (hm : w1.ownsMap Tryz.prog 9 ptrR mp (es.length + 1) (D.put (.string n) (.lit (.int .i64 ((g : Int) + 1))))) (ht : w.mapTurned w1 mp) : Dk w1 d mp (Nmd.ins E.nm ⟨⟨n, l, k⟩, g, v⟩ es) s ∧ w.grownBy w1 (some mp) := by
 have hgr := ht.grown
 have hk : ∀ i, i < w.heap.size → i ≠ mp → w1.heap[i]? = w.heap[i]? := fun i hi hne => hgr.block i hi fun e => hne (by injection e)
 have hgm : g ≠ mp := fun e => hb.1 (.inr (.inl e))
 refine ⟨h.add (e := ⟨⟨n, l, k⟩, g, v⟩) (Nmd.get_none hg) hD (hm0.tidy (Maps.string_keyed Tryz.underlying9)) hm hk ?_ ?_ hs ?_, hgr⟩
 ·exact (hk g hf.lt hgm).trans hf
 ·exact hr.same fun x hx => hk x (hr.lt hx) fun e => hb.2 x hx (.inr (.inl e))
 ·intro x hx
  rcases mem_blocks.1 hx with rfl | hx
  ·exact hb.1
  ·exact hb.2 x hx
theorem Turn.add {w w0 w1 : World} {d mp : Nat} {es es0 : List E} (h : Turn d mp w es w0 es0) (hg : w0.grownBy w1 (some mp)) (e : E) (hb : ∀ x ∈ e.blocks, Own d mp es x ∨ w.heap.size ≤ x) : Turn d mp w es w1 (Nmd.ins E.nm e es0) := by
 refine ⟨hg.os.trans h.os, hg.tape.trans h.tape, hg.output.trans h.output, Nat.le_trans h.size hg.size, fun i hi hn => ?_, fun i hi => ?_⟩
 ·exact (hg.block i (Nat.lt_of_lt_of_le hi h.size) fun e => hn (.inr (.inl (by injection e)))).trans (h.kept i hi hn)
 ·rcases own_add hi with hi | hi
  ·exact hb i hi
  ·exact h.own i hi
theorem wpList_len_dk {P : Program} (w : World) {ops : Array Oper} {rest : List Oper} {o : Oper} {a : Act} {Q : Exit → Act → World → Prop} (hg : o.guard = none) (m : Operand) (t : TypeId) (hop : o.op = Op.call { callee := Callee.builtin Builtin.len, args := #[m], argTypes := #[t] })
  (k e : TypeId) (ht : P.underlying t = some (.map k e)) (R : Value → Option (DataW Unit × List MemPlace)) (b n0 n : Nat) (D : DataW Unit) (hm : a.eval m = .map (some b)) (hown : w.ownsMap P k R b n0 D) (hs : Maps.size D = n)
  (hK : wpList P ops Q rest (a.put o.dst (.int .i64 n)) w) : wpList P ops Q (o :: rest) a w :=
 wpList_len_own w hg m t hop k e ht R b n0 D hm hown (by rw [hs]; exact hK)
set_option maxHeartbeats 1000000 in
set_option maxRecDepth 100000 in
theorem create_any (W : World) (d mp : Nat) (es : List E) (s : H) (hD : Dk W d mp es s) (n : List UInt8) (h0 : 0 ≤ s.ops) (h1 : s.ops < 4611686018427387904) (hc : es.length ≤ 200) :
  Calls Tryz.prog 62 #[.pointer (some ⟨d, 0, none⟩), str n] W fun e w' => ∃ es' s',
   e = .returned (.int .i64 ((pl es s).create n).1) ∧ Dk w' d mp es' s' ∧ Turn d mp W es w' es' ∧ pl es' s' = ((pl es s).create n).2 := by
 have hxa := Reg.Ext.alloc W (.cells #[str n] 9)
 have hb := begin_any _ d mp es s (hD.ext hxa) [n] W.heap.size (one_cells W n) (show 1 ≤ 9 by decide) 1 h0 h1
 have hok := begin_ok (s := s) (ns := [n])
 generalize hr : (pl es s).create n = r
 unfold P.create pl at hr
 dsimp only at hr
 generalize s.begin [n] = b at hb hok hr
 obtain ⟨er, s1⟩ := b
 dsimp only at hb hok hr
 rw [get_pl, Option.isSome_map, List.length_map] at hr
 have kun := Maps.string_keyed Tryz.underlying9
 by_cases he : er = 0
 ·have hn := hok he n (List.mem_singleton.2 rfl)
  clear hok
  subst he
  rw [if_neg (fun h => h rfl)] at hr
  cases hg : Nmd.get E.nm n es with
  | some e0 =>
    rw [hg, if_pos (show (some e0).isSome = true from rfl)] at hr
    subst hr
    unfold str at hb ⊢
    change Calls _ _ #[_, .slice _ 1 1] _ _ at hb
    go_enter Tryz.func62, Tryz.ntmps62
    go_wp2_with (go_at_call 68; refine hb.mono ?_; rintro e w1 ⟨rfl, hD1, hb1⟩; have c0 := hD1.c.1; have hl := hD1.look n (by unfold maxLen; omega); rw [hg] at hl; unfold str ptrV at hl)
    go_ret
    exact ⟨es, s1, rfl, hD1, (Turn.ext hxa).trans (Turn.of_but hb1), rfl⟩
  | none =>
    rw [hg, if_neg (by decide)] at hr
    obtain ⟨kk, hkk0⟩ : ∃ kk, kk = es.length := ⟨_, rfl⟩
    have hkk := y_ hkk0
    rw [← hkk0] at hr
    have hcm := y_ (show es.length < maxLen by unfold maxLen; omega)
    clear hkk0 hc h0 h1
    by_cases h2 : 200 ≤ kk
    ·rw [if_pos h2] at hr
     subst hr
     unfold str at hb ⊢
     change Calls _ _ #[_, .slice _ 1 1] _ _ at hb
     go_enter Tryz.func62, Tryz.ntmps62
     go_wp2_with (first | (go_at_call 68; refine hb.mono ?_; rintro e w1 ⟨rfl, hD1, hb1⟩; have c0 := hD1.c.1; have hl := hD1.look n (by unfold maxLen; omega); rw [hg] at hl; unfold str ptrV at hl; obtain ⟨D, hm0, hMD0⟩ := hD1.map; have hm := y_ hm0; have hMD := y_ hMD0; clear hm0 hMD0) | (at_len; refine wpList_len_dk _ rfl _ _ rfl _ _ Tryz.underlying70 ptrR mp _ _ _ rfl hm.out (hMD.out.1.trans hkk.out.symm) ?_))
     go_ret
     exact ⟨es, s1, rfl, hD1, (Turn.ext hxa).trans (Turn.of_but hb1), rfl⟩
    ·rw [if_neg h2] at hr
     subst hr
     unfold str at hb ⊢
     change Calls _ _ #[_, .slice _ 1 1] _ _ at hb
     go_enter Tryz.func62, Tryz.ntmps62
     go_wp2_with (first | (go_at_call 68; refine hb.mono ?_; rintro e w1 ⟨rfl, hD1, hb1⟩; have c0 := hD1.c.1; have hl := hD1.look n (by unfold maxLen; omega); rw [hg] at hl; unfold str ptrV at hl; obtain ⟨D, hm0, hMD0⟩ := hD1.map; have hm := y_ hm0; have hMD := y_ hMD0; clear hm0 hMD0) | (at_len; refine wpList_len_dk _ rfl _ _ rfl _ _ Tryz.underlying70 ptrR mp _ _ _ rfl hm.out (hMD.out.1.trans hkk.out.symm) ?_) | (at_mapUpdate; refine wpList_mapUpdate_in _ rfl _ _ _ _ rfl _ _ kun Tryz.underlying70 ptrR mp _ _ rfl (hm.out.alloc _) hcm.out _ _ _ rfl rfl (str_key n (by unfold maxLen; omega)) _ [] (ptrR_some _) ?_; intro w2 hm2 ht2))
     go_ret
     have hal := Reg.Ext.alloc w1 (.cells #[.slice none 0 0, .int .i64 0] 86)
     obtain ⟨hD2, hg2⟩ := (hD1.ext hal).added n hg hMD.out w1.heap.size (.slice none 0 0) [] 0 (Blk.new w1 _ _) (PRow.nil_ _) (by simp [Value.ownBlock]) ⟨fun ho => absurd (hD1.own_lt ho) (Nat.lt_irrefl _), fun x hx => by cases hx⟩ (hm.out.alloc _) hm2 ht2
     refine ⟨_, s1, rfl, hD2, ?_, ?_⟩
     ·refine ((Turn.ext hxa).trans (Turn.of_but hb1)).trans ((Turn.ext hal).add hg2 _ fun x hx => ?_)
      rcases mem_blocks.1 hx with rfl | hx
      ·exact .inr (Nat.le_refl _)
      ·cases hx
     ·unfold pl
      rw [← Nmd.ins_map F.name E.f]
 ·rw [if_pos he] at hr
  subst hr
  have he' : (er == 0) = false := beq_eq_false_iff_ne.2 he
  clear hok
  unfold str at hb ⊢
  change Calls _ _ #[_, .slice _ 1 1] _ _ at hb
  go_enter Tryz.func62, Tryz.ntmps62
  go_wp2_with (go_at_call 68; refine hb.mono ?_; rintro e w1 ⟨rfl, hD1, hb1⟩)
  go_ret
  exact ⟨es, s1, rfl, hD1, (Turn.ext hxa).trans (Turn.of_but hb1), rfl⟩
end Plk
end Go.Proofs.YtafeealbdpmdkaaGreatDoor
/- Size, Safe, Bytes, Used, Ops, Down, Arm, Sync. -/
namespace Go.Proofs.YtafeealbdpmdkaaGreatDoor
open Go Go.RowKit
namespace Plk
def szO : Option E → Int
 | none => -1
 | some e => (e.f.l.length : Int)
def sfO : Option E → Int
 | none => 0
 | some e => (e.f.safe : Int)
def btO : Option E → List UInt8
 | none => []
 | some e => e.f.l
section
variable (W : World) (d mp : Nat) (es : List E) (s : H) (hD : Dk W d mp es s)
include hD
theorem size_any (n : List UInt8) (hn : n.length ≤ maxLen) : Calls Tryz.prog 45 #[.pointer (some ⟨d, 0, none⟩), str n] W fun e w' => e = .returned (.int .i64 (szO (Nmd.get E.nm n es))) ∧ w' = W := by
 have c0 := hD.c.1
 have hl := hD.look n hn
 cases hg : Nmd.get E.nm n es with
 | none =>
   rw [hg] at hl
   unfold str at hl ⊢
   unfold ptrV at hl
   go_enter Tryz.func45, Tryz.ntmps45
   go_wp2
   go_ret
   exact ⟨rfl, rfl⟩
 | some e0 =>
   rw [hg] at hl
   have hm := (Nmd.get_mem hg).1
   have hb := hD.file e0 hm
   have k0 := hb.cell 0
   have k1 := hb.cell 1
   have hr := hD.row e0 hm
   obtain ⟨A, cap, hv⟩ := hr.form
   have hst := hr.str
   dsimp only [List.getElem?_cons_zero, List.getElem?_cons_succ] at k0 k1
   rw [hv] at k0 hst
   clear hr hb hv hm hg
   unfold str at hl ⊢
   unfold ptrV at hl
   go_enter Tryz.func45, Tryz.ntmps45
   go_wp2
   go_ret
   exact ⟨rfl, rfl⟩
theorem safe_any (n : List UInt8) (hn : n.length ≤ maxLen) : Calls Tryz.prog 34 #[.pointer (some ⟨d, 0, none⟩), str n] W fun e w' => e = .returned (.int .i64 (sfO (Nmd.get E.nm n es))) ∧ w' = W := by
 have c0 := hD.c.1
 have hl := hD.look n hn
 cases hg : Nmd.get E.nm n es with
 | none =>
   rw [hg] at hl
   unfold str at hl ⊢
   unfold ptrV at hl
   go_enter Tryz.func34, Tryz.ntmps34
   go_wp2
   go_ret
   exact ⟨rfl, rfl⟩
 | some e0 =>
   rw [hg] at hl
   have hm := (Nmd.get_mem hg).1
   have hb := hD.file e0 hm
   have k0 := hb.cell 0
   have k1 := hb.cell 1
   have hr := hD.row e0 hm
   obtain ⟨A, cap, hv⟩ := hr.form
   have hst := hr.str
   dsimp only [List.getElem?_cons_zero, List.getElem?_cons_succ] at k0 k1
   rw [hv] at k0 hst
   clear hr hb hv hm hg
   unfold str at hl ⊢
   unfold ptrV at hl
   go_enter Tryz.func34, Tryz.ntmps34
   go_wp2
   go_ret
   exact ⟨rfl, rfl⟩
theorem bytes_any (n : List UInt8) (hn : n.length ≤ maxLen) : Calls Tryz.prog 33 #[.pointer (some ⟨d, 0, none⟩), str n] W fun e w' => e = .returned (str (btO (Nmd.get E.nm n es))) ∧ w' = W := by
 have c0 := hD.c.1
 have hl := hD.look n hn
 cases hg : Nmd.get E.nm n es with
 | none =>
   rw [hg] at hl
   unfold str at hl ⊢
   unfold ptrV at hl
   go_enter Tryz.func33, Tryz.ntmps33
   go_wp2
   go_ret
   exact ⟨rfl, rfl⟩
 | some e0 =>
   rw [hg] at hl
   have hm := (Nmd.get_mem hg).1
   have hb := hD.file e0 hm
   have k0 := hb.cell 0
   have k1 := hb.cell 1
   have hr := hD.row e0 hm
   obtain ⟨A, cap, hv⟩ := hr.form
   have hst := hr.str
   dsimp only [List.getElem?_cons_zero, List.getElem?_cons_succ] at k0 k1
   rw [hv] at k0 hst
   clear hr hb hv hm hg
   unfold str at hl ⊢
   unfold ptrV at hl
   go_enter Tryz.func33, Tryz.ntmps33
   go_wp2
   go_ret
   exact ⟨rfl, rfl⟩
theorem ops_any : Calls Tryz.prog 32 #[.pointer (some ⟨d, 0, none⟩)] W fun e w' => e = .returned (.int .i64 s.ops) ∧ w' = W := by
 obtain ⟨c0, c1, c2, c3, c4, c5, c6, c7⟩ := hD.c
 go_enter Tryz.func32, Tryz.ntmps32
 go_wp2
 go_ret
 exact ⟨rfl, rfl⟩
end
def H.arm (s : H) (at_ kind more : Int) : H :=
 if at_ < 1 ∨ 1099511627776 < at_ ∨ (kind ≠ 1 ∧ kind ≠ 2) then { s with ak := 0, af := 0, al := 0 }
 else { s with ak := kind, af := s.ops + at_, al := s.ops + at_ + min (max more 0) 1099511627776 }
theorem Dk.setArm {w : World} {d mp : Nat} {es : List E} {s : H} (h : Dk w d mp es s) (k f l : Int) : Dk (((w.setCell ⟨d, 5, none⟩ (.int .i64 k)).setCell ⟨d, 6, none⟩ (.int .i64 f)).setCell ⟨d, 7, none⟩ (.int .i64 l)) d mp es { s with ak := k, af := f, al := l } :=
 ((h.setH (s' := { s with ak := k }) 5 (.int .i64 k) rfl).setH (s' := { s with ak := k, af := f }) 6 (.int .i64 f) rfl).setH 7 (.int .i64 l) rfl
theorem But.setArm {w : World} (d : Nat) (k f l : Int) : But d w (((w.setCell ⟨d, 5, none⟩ (.int .i64 k)).setCell ⟨d, 6, none⟩ (.int .i64 f)).setCell ⟨d, 7, none⟩ (.int .i64 l)) :=
 ((But.set_ d w 5 _).trans (But.set_ d _ 6 _)).trans (But.set_ d _ 7 _)
end Plk
end Go.Proofs.YtafeealbdpmdkaaGreatDoor

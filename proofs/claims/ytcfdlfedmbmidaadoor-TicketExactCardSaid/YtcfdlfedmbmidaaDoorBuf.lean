/- A slice of bytes that a call makes and appends to; a text made to bytes. -/
import Derived.Test.YtcfdlfedmbmidaaDoorBlk
import Derived.Test.YtcfdlfedmbmidaaDoorRows
import Derived.Lib.BufSteps
import Derived.Laws.IdiomStrings
import Derived.Laws.MakeOwn
set_option linter.unusedSimpArgs false
set_option linter.unusedVariables false
set_option linter.unusedSectionVars false
namespace Go.Proofs.YtcfdlfedmbmidaaDoor
open Go Go.RowKit
/-- v owns just these bytes, in a block made since W0; all that there was in W0 is as it was -/
def Buf (W0 w : World) (v : Value) (l : List UInt8) : Prop := Lib.OwnBuf W0.heap.size 5 v l.length (l.map byteV) W0 w
theorem Tryd.byteInfo : (Tryd.prog.info? 5).map (fun i => (i.zero, i.size, i.bytes)) = some (some (.int .u8 0), 1, 1) := by kernel_rfl
theorem byteInfo_of : ∃ i, Tryd.prog.info? 5 = some i ∧ i.zero = some (.int .u8 0) ∧ i.size = 1 ∧ i.bytes = 1 := by
  obtain ⟨i, hi, h⟩ := Option.map_eq_some_iff.1 Tryd.byteInfo
  simp only [Prod.mk.injEq] at h
  exact ⟨i, hi, h.1, h.2.1, h.2.2⟩
theorem Buf.ext {W0 w : World} {v : Value} {l : List UInt8} (h : Buf W0 w v l) : Reg.Ext W0 w := h.2.1
theorem Buf.alloc {W0 w : World} {v : Value} {l : List UInt8} (h : Buf W0 w v l) (o : Obj) : Buf W0 (w.alloc o) v l := Lib.OwnBuf.alloc h o
theorem Buf.drewN {W0 w : World} {v : Value} {l : List UInt8} (h : Buf W0 w v l) (n : Nat) : Buf W0 (w.drewN n) v l := Lib.OwnBuf.drewN h n
theorem Buf.drew {W0 w : World} {v : Value} {l : List UInt8} (h : Buf W0 w v l) : Buf W0 w.drew v l := Lib.OwnBuf.drewN h 1
theorem Buf.later {W0 w w' : World} {v : Value} {l : List UInt8} (h : Buf W0 w v l) (hx : Reg.Ext w w') : Buf W0 w' v l := by
  refine ⟨h.1.kept (row := none) ⟨hx.os, hx.tape, hx.output, hx.size, fun i hi _ => hx.block i hi⟩ ?_, (show Reg.Ext W0 w from h.2.1).trans hx, Nat.le_trans h.2.2 hx.size⟩
  cases hv : v.ownBlock with
  | none => exact .inl rfl
  | some k => exact .inr (by simp)
/-- make([]byte, 0, n) -/
theorem make_cap (n : Nat) (hn : n ≤ 281474976710656) (W : World) :
    (Instr.makeSlice 73 (.int .i64 0) (.int .i64 (n : Int))).run Tryd.prog W = .ok (.slice (some ⟨W.heap.size, 0, none⟩) 0 n) (W.alloc (.cells (madeCells #[.int .u8 0] n) 5)) := by
  obtain ⟨i, hi, hz, hs, hb⟩ := byteInfo_of
  have hr := run_make (P := Tryd.prog) W 73 5 i (.int .u8 0) Tryd.underlying73 hi hz .i64 .i64 0 (n : Int) (by omega) (by omega) (by rw [hb]; omega) (by omega)
  simp only [Int.toNat_natCast, hs, Nat.mul_one, Int.toNat_zero] at hr
  exact hr
theorem Buf.made (W0 W : World) (hx : Reg.Ext W0 W) (n : Nat) (hn : n ≤ 281474976710656) : Buf W0 (W.alloc (.cells (madeCells #[.int .u8 0] n) 5)) (.slice (some ⟨W.heap.size, 0, none⟩) 0 n) [] := by
  refine ⟨⟨rfl, .inr ⟨W.heap.size, n, madeCells #[.int .u8 0] n, (0, 0), rfl, hx.size, heap_alloc_new W _, by simp, Nat.zero_le _, by unfold maxLen; omega, by simp [madeCells], by simp⟩⟩, hx.trans (Reg.Ext.alloc _ _), ?_⟩
  exact Nat.le_trans hx.size (Reg.Ext.alloc W _).size
theorem Buf.nil_ (W0 w : World) (hx : Reg.Ext W0 w) : Buf W0 w (.slice none 0 0) [] := ⟨World.ownsRowF_nil _ _ _ _, hx, hx.size⟩
/-- []byte{} -/
theorem Buf.empty (W0 W : World) (hx : Reg.Ext W0 W) : Buf W0 (W.alloc (.cells #[] 5)) (.slice (some ⟨W.heap.size, 0, none⟩) 0 0) [] := by
  refine ⟨⟨rfl, .inr ⟨W.heap.size, 0, #[], (0, 0), rfl, hx.size, heap_alloc_new W _, by simp, Nat.zero_le _, by unfold maxLen; omega, by simp, by simp⟩⟩, hx.trans (Reg.Ext.alloc _ _), ?_⟩
  exact Nat.le_trans hx.size (Reg.Ext.alloc W _).size
theorem grown_alloc {w0 w' : World} {o : Obj} {r : Option Nat} (h : (w0.alloc o).grownBy w' r) : w0.grownBy w' r := by
  have hx := Reg.Ext.alloc w0 o
  exact ⟨h.os.trans hx.os, h.tape.trans hx.tape, h.output.trans hx.output, Nat.le_trans hx.size h.size, fun i hi hn => (h.block i (Nat.lt_of_lt_of_le hi hx.size) hn).trans (hx.block i hi)⟩
theorem grown_drew {w0 w' : World} {r : Option Nat} (h : w0.drew.grownBy w' r) : w0.grownBy w' r := ⟨h.os, h.tape, h.output, h.size, h.block⟩
section
variable {ops : Array Oper} {rest : List Oper} {o : Oper} {a : Act} {Q : Exit → Act → World → Prop}
/-- append(v, ..); the new bytes lie in block g -/
theorem Buf.push (hgd : o.guard = none) (s x : Operand) (ho : o.op = .call { callee := .builtin .append, args := #[s, x], argTypes := #[73, 73] })
    (v : Value) (l new : List UInt8) (hs : a.eval s = v) (W0 W : World) (g n : Nat) (hb : Buf W0 W v l) (hx : a.eval x = .slice (some ⟨g, 0, none⟩) n n) (hn : new.length = n) (hnew : ∀ j (h : j < new.length), W.cell? ⟨g, j, none⟩ = some (byteV new[j])) (hl : l.length + new.length ≤ 1099511627776)
    (h : ∀ v' w', Buf W0 w' v' (l ++ new) → W.grownBy w' v.ownBlock → wpList Tryd.prog ops Q rest (a.put o.dst v') w') : wpList Tryd.prog ops Q (o :: rest) a W := by
  obtain ⟨i, hi, hz, hsz, hby⟩ := byteInfo_of
  refine Go.wpList_append_ownF _ hgd s x 73 ho W0.heap.size 5 i (.int .u8 0) 1 1 Tryd.underlying73 hi hz hsz hby rfl (by decide) v l.length (l.map byteV) hs hb.1 ⟨g, 0, none⟩ n n (new.map byteV) hx (by simp [hn]) ?_ ?_ (by unfold maxLen; omega) (by omega) hb.2.2 ?_
  · intro j u hj
    rw [List.getElem?_map] at hj
    obtain ⟨c, hc, rfl⟩ := Option.map_eq_some_iff.1 hj
    obtain ⟨hjl, rfl⟩ := List.getElem?_eq_some_iff.1 hc
    rw [add_plain, Nat.zero_add]
    exact hnew j hjl
  · intro u hu
    obtain ⟨c, _, rfl⟩ := List.mem_map.1 hu
    rfl
  · intro v' w' ho' hg _
    refine h v' w' ?_ hg
    have := Lib.OwnBuf.grown hb ho' hg
    unfold Buf
    rw [List.length_append, List.map_append, hn]
    exact this
theorem Buf.push1 (hgd : o.guard = none) (s x : Operand) (ho : o.op = .call { callee := .builtin .append, args := #[s, x], argTypes := #[73, 73] })
    (v : Value) (l : List UInt8) (hs : a.eval s = v) (W0 w0 : World) (n : Int) (c : UInt8) (hn : n = (c.toNat : Int)) (hb : Buf W0 w0 v l) (hx : a.eval x = .slice (some ⟨w0.heap.size, 0, none⟩) 1 1) (hl : l.length + 1 ≤ 1099511627776)
    (h : ∀ v' w', Buf W0 w' v' (l ++ [c]) → w0.grownBy w' v.ownBlock → wpList Tryd.prog ops Q rest (a.put o.dst v') w') : wpList Tryd.prog ops Q (o :: rest) a (w0.alloc (.cells #[.int .u8 n] 5)) := by
  subst hn
  refine Buf.push hgd s x ho v l [c] hs W0 _ w0.heap.size 1 (hb.alloc _) hx rfl ?_ hl fun v' w' h1 h2 => h v' w' h1 (grown_alloc h2)
  have hk := Blk.new w0 5 #[.int .u8 (c.toNat : Int)]
  intro j hj
  match j, hj with
  | 0, _ => exact hk.cell 0
end
/-- append(v, ..) at a step of a region that draws; the new bytes lie in block g -/
theorem Buf.step {ops : Array Oper} {o : Oper} {a : Act} {K : Act → World → Prop} {Q : Exit → Act → World → Prop} {E : Prop} (W0 W : World) (v : Value) (l new : List UInt8) (g n : Nat) (hb : Buf W0 W v l)
    (s x : Operand) (hgd : o.guard = none) (ho : o.op = .call { callee := .builtin .append, args := #[s, x], argTypes := #[73, 73] })
    (hs : a.eval s = v) (hx : a.eval x = .slice (some ⟨g, 0, none⟩) n n) (hn : new.length = n) (hnew : ∀ j (h : j < new.length), W.cell? ⟨g, j, none⟩ = some (byteV new[j])) (hl : l.length + new.length ≤ 1099511627776)
    (h : ∀ v' w', Buf W0 w' v' (l ++ new) → W.grownBy w' v.ownBlock → K (a.put o.dst v') w') : if Region.wanted o (yielded ops a.tmps) = true then Oper.wp Tryd.prog o a W K Q else E := by
  have hw : Region.wanted o (yielded ops a.tmps) = true := by simp [Region.wanted, hgd]
  rw [if_pos hw]
  obtain ⟨i, hi, hz, hsz, hby⟩ := byteInfo_of
  obtain ⟨v', w', hr, h2, h3, _⟩ := run_append_ownF (P := Tryd.prog) W W0.heap.size 73 o.type 5 i (.int .u8 0) 1 1 Tryd.underlying73 hi hz hsz hby rfl (by decide) v l.length (l.map byteV) hb.1 ⟨g, 0, none⟩ n n (new.map byteV) (by simp [hn]) (by
    intro j u hj
    rw [List.getElem?_map] at hj
    obtain ⟨c, hc, rfl⟩ := Option.map_eq_some_iff.1 hj
    obtain ⟨hjl, rfl⟩ := List.getElem?_eq_some_iff.1 hc
    rw [add_plain, Nat.zero_add]
    exact hnew j hjl) (by
    intro u hu
    obtain ⟨c, _, rfl⟩ := List.mem_map.1 hu
    rfl) (by unfold maxLen; omega) (by omega) hb.2.2
  unfold Oper.wp execOp
  simp only [ho, resolve, invoke, builtin, Sem.run_bind, Sem.run_pure, Result.andThen_ok, List.map_toArray, List.map_cons, List.map_nil, hs, hx, hr]
  refine h v' w' ?_ h3
  unfold Buf
  rw [List.length_append, List.map_append, hn]
  exact Lib.OwnBuf.grown hb h2 h3
theorem Buf.step2 {ops : Array Oper} {o : Oper} {a : Act} {K : Act → World → Prop} {Q : Exit → Act → World → Prop} {E : Prop} (W0 wr : World) (v : Value) (l : List UInt8) (c d : UInt8) (m1 m2 : Int) (e1 : m1 = (c.toNat : Int)) (e2 : m2 = (d.toNat : Int)) (hb : Buf W0 wr v l)
    (s x : Operand) (hgd : o.guard = none) (ho : o.op = .call { callee := .builtin .append, args := #[s, x], argTypes := #[73, 73] })
    (hs : a.eval s = v) (hx : a.eval x = .slice (some ⟨wr.heap.size, 0, none⟩) 2 2) (hl : l.length + 2 ≤ 1099511627776)
    (h : ∀ v' w', Buf W0 w' v' (l ++ [c, d]) → wr.grownBy w' v.ownBlock → K (a.put o.dst v') w') : if Region.wanted o (yielded ops a.tmps) = true then Oper.wp Tryd.prog o a ((wr.alloc (.cells #[.int .u8 m1, .int .u8 m2] 5)).drew) K Q else E := by
  subst e1 e2
  refine Buf.step W0 _ v l [c, d] wr.heap.size 2 (hb.alloc _).drew s x hgd ho hs hx rfl ?_ hl fun v' w' h1 h2 => h v' w' h1 (grown_alloc (grown_drew h2))
  have hk := Blk.new wr 5 #[.int .u8 (c.toNat : Int), .int .u8 (d.toNat : Int)]
  intro j hj
  match j, hj with
  | 0, _ => exact hk.drew.cell 0
  | 1, _ => exact hk.drew.cell 1
theorem Buf.step1 {ops : Array Oper} {o : Oper} {a : Act} {K : Act → World → Prop} {Q : Exit → Act → World → Prop} {E : Prop} (W0 wr : World) (v : Value) (l : List UInt8) (c : UInt8) (m1 : Int) (e1 : m1 = (c.toNat : Int)) (hb : Buf W0 wr v l)
    (s x : Operand) (hgd : o.guard = none) (ho : o.op = .call { callee := .builtin .append, args := #[s, x], argTypes := #[73, 73] })
    (hs : a.eval s = v) (hx : a.eval x = .slice (some ⟨wr.heap.size, 0, none⟩) 1 1) (hl : l.length + 1 ≤ 1099511627776)
    (h : ∀ v' w', Buf W0 w' v' (l ++ [c]) → wr.grownBy w' v.ownBlock → K (a.put o.dst v') w') : if Region.wanted o (yielded ops a.tmps) = true then Oper.wp Tryd.prog o a ((wr.alloc (.cells #[.int .u8 m1] 5)).drew) K Q else E := by
  subst e1
  refine Buf.step W0 _ v l [c] wr.heap.size 1 (hb.alloc _).drew s x hgd ho hs hx rfl ?_ hl fun v' w' h1 h2 => h v' w' h1 (grown_alloc (grown_drew h2))
  have hk := Blk.new wr 5 #[.int .u8 (c.toNat : Int)]
  intro j hj
  match j, hj with
  | 0, _ => exact hk.drew.cell 0
/-- string(v) -/
theorem Buf.str {W0 w : World} {v : Value} {l : List UInt8} (h : Buf W0 w v l) : (convert 73 9 v).run Tryd.prog w = .ok (.string ⟨l.toArray⟩) w := by
  rcases h.1.2 with ⟨rfl, hn⟩ | ⟨g, cap, cur, fz, rfl, hg, hc, -, -, -, hsz, ht⟩
  · have : l = [] := List.eq_nil_of_length_eq_zero hn
    subst this
    rw [run_convert_bytes_string w _ _ 5 none 0 0 Tryd.underlying73 Tryd.underlying5 Tryd.underlying9]
    simp [Conv.bytesToString]
    rfl
  · refine conv_bytes w _ _ 5 Tryd.underlying73 Tryd.underlying5 Tryd.underlying9 g 0 l.length cap l rfl ?_
    intro j hj
    have hcl := h.1.cells (g := g) rfl j (byteV l[j]) (by simp [hj])
    rw [add_plain] at hcl
    exact hcl
/-- []byte(s) -/
theorem bytes_of (s : ByteArray) (W : World) : (convert 9 73 (.string s)).run Tryd.prog W = .ok (.slice (some ⟨W.heap.size, 0, none⟩) s.size (grownCap W s.size 0 5))
      (W.drew.alloc (.cells (bytesRow s (grownCap W s.size 0 5)) 5 ((bytesRow s (grownCap W s.size 0 5)).size, (bytesRow s (grownCap W s.size 0 5)).size + 1))) :=
  run_bytes_of_string W 9 73 5 s Tryd.underlying9 Tryd.underlying73 Tryd.underlying5
/-- the bytes of a text lie from here on: in a block that []byte(s) has made -/
def BytesAt (w : World) (g : Nat) (s : ByteArray) : Prop := ∃ row : Array Value, w.heap[g]? = some (.cells row 5 (row.size, row.size + 1)) ∧ ∀ j (h : j < s.size), row[j]? = some (.int .u8 ((s.data.toList[j]'(by rw [len_data]; exact h)).toNat : Int))
theorem BytesAt.lt {w : World} {g : Nat} {s : ByteArray} (h : BytesAt w g s) : g < w.heap.size := by
  obtain ⟨row, hr, -⟩ := h
  rcases Nat.lt_or_ge g w.heap.size with hlt | hge
  · exact hlt
  · rw [Array.getElem?_eq_none hge] at hr; cases hr
theorem BytesAt.cell {w : World} {g : Nat} {s : ByteArray} (h : BytesAt w g s) (j : Nat) (hj : j < s.size) : w.cell? ⟨g, j, none⟩ = some (.int .u8 ((s.data.toList[j]'(by rw [len_data]; exact hj)).toNat : Int)) := by
  obtain ⟨row, hr, hc⟩ := h
  rw [← hc j hj]
  unfold World.cell?
  rw [hr]
  rfl
theorem BytesAt.new (W : World) (s : ByteArray) (cap : Nat) : BytesAt (W.drew.alloc (.cells (bytesRow s cap) 5 ((bytesRow s cap).size, (bytesRow s cap).size + 1))) W.heap.size s := by
  refine ⟨bytesRow s cap, heap_alloc_new W.drew _, fun j hj => ?_⟩
  rw [bytesRow_at s cap j hj]
  simp
theorem BytesAt.ext {w w' : World} {g : Nat} {s : ByteArray} (h : BytesAt w g s) (hx : Reg.Ext w w') : BytesAt w' g s := by
  have hlt := h.lt
  obtain ⟨row, hr, hc⟩ := h
  exact ⟨row, (hx.block g hlt).trans hr, hc⟩
/-- a slice that is appended to lies elsewhere -/
theorem BytesAt.ne {W0 w : World} {v : Value} {l : List UInt8} {g : Nat} {s : ByteArray} (h : BytesAt w g s) (hb : Buf W0 w v l) : v.ownBlock ≠ some g := by
  obtain ⟨row, hr, hc⟩ := h
  rcases hb.1.2 with ⟨rfl, -⟩ | ⟨g', cap, cur, fz, rfl, -, hg, hfz, hn, -, hsz, -⟩
  · intro e; cases e
  · intro e
    have e' : g' = g := by injection e
    subst e'
    rw [hr] at hg
    injection hg with hg
    injection hg with h1 h2 h3
    subst h1
    rw [← h3] at hfz
    simp only at hfz
    omega
theorem BytesAt.grown {w w' : World} {g : Nat} {s : ByteArray} {r : Option Nat} (h : BytesAt w g s) (hg : w.grownBy w' r) (hne : r ≠ some g) : BytesAt w' g s := by
  have hlt := h.lt
  obtain ⟨row, hr, hc⟩ := h
  exact ⟨row, (hg.block g hlt (Ne.symm hne)).trans hr, hc⟩
theorem Buf.make (W0 W : World) (hx : Reg.Ext W0 W) (n : Nat) (hn : n ≤ 281474976710656) : ∃ w1, (Instr.makeSlice 73 (.int .i64 0) (.int .i64 (n : Int))).run Tryd.prog W = .ok (.slice (some ⟨W.heap.size, 0, none⟩) 0 n) w1 ∧
    Buf W0 w1 (.slice (some ⟨W.heap.size, 0, none⟩) 0 n) [] := ⟨_, make_cap n hn W, Buf.made W0 W hx n hn⟩
theorem BytesAt.of (s : ByteArray) (W : World) : ∃ cap w1, (convert 9 73 (.string s)).run Tryd.prog W = .ok (.slice (some ⟨W.heap.size, 0, none⟩) s.size cap) w1 ∧ BytesAt w1 W.heap.size s ∧ Reg.Ext W w1 :=
  ⟨_, _, bytes_of s W, BytesAt.new W s _, (Reg.Ext.drew W).trans (Reg.Ext.alloc _ _)⟩
end Go.Proofs.YtcfdlfedmbmidaaDoor

/- Made by merge.py from: SlipScan SlipParsed CopyStr Drawn SlipParse SlipLaws SlipRead SlipRows SlipAll. -/
import Derived.Test.YtafeealbdpmdkaaGreatDoorSpB
import Derived.Test.YtafeealbdpmdkaaGreatDoorBlk
import Derived.Lib.LazyBuf
import Derived.Lib.BufferWrite
import Derived.Deep.RegionLaw
import Derived.Deep.RegionHeld
import Derived.Great.Walk
import Derived.Test.YtafeealbdpmdkaaGreatDoorSpA
import Derived.Laws.AppendOwn
import Derived.Deep.MidRow
set_option linter.unusedSimpArgs false
set_option linter.unusedVariables false
set_option linter.unusedSectionVars false
set_option maxRecDepth 100000
/- The walks of slip.scan: take, byte, text, number. -/
open Go.Act renaming put → z_1, eval → z_2
open List renaming setIfInBounds_toArray → z_3, set_cons_zero → z_4, set_cons_succ → z_5, getElem?_toArray → z_7, getElem?_cons_succ → z_8, getElem?_cons_zero → z_9
open Array renaming getD_eq_getD_getElem? → z_6
open Option renaming getD_some → z_0
open Go.Lib renaming hid → y_
open List renaming size_toArray → z_a
open Nat renaming reduceAdd → z_b
open List renaming toList_toArray → z_c
-- squeezed
namespace Go.Proofs.YtafeealbdpmdkaaGreatDoor
open Go.RowKit
namespace Slp
/-- the scan in block b has this still to be read -/
def At (b : Nat) (s : Sc) (w : World) : Prop := ∃ r bad, Blk w b 151 [.string r, .bool bad] ∧ r.size ≤ 1048576 ∧ s = if bad = true then none else some r.data.toList
theorem At.ext {b : Nat} {s : Sc} {w w' : World} (h : At b s w) (hx : Reg.Ext w w') : At b s w' := by
 obtain ⟨r, bad, h1, h2, h3⟩ := h
 exact ⟨r, bad, h1.ext hx, h2, h3⟩
set_option maxHeartbeats 1000000 in
theorem take_any (b : Nat) (s : Sc) (n : Nat) (w : World) (h : At b s w) (hn : n ≤ 1048576) :
  Calls Tryz.prog 103 #[.pointer (some ⟨b, 0, none⟩), .int .i64 (n : Int)] w fun e w' => e = .returned (.string ⟨(take n s).1.toArray⟩) ∧ At b (take n s).2 w' ∧ But b w w' := by
 obtain ⟨r, bad, hb, hr, hs⟩ := h
 have c0 : w.cell? ⟨b, 0, none⟩ = some (.string r) := hb.cell 0
 have c1 : w.cell? ⟨b, 1, none⟩ = some (.bool bad) := hb.cell 1
 have f0 := hb.frozen 0
 have f1 := hb.frozen 1
 have HB := y_ hb
 clear hb
 go_enter Tryz.func103, Tryz.ntmps103
 cases bad with
 | true =>
   have HT := y_ (show take n s = ([], none) by rw [hs]; rfl)
   clear hs
   go_wp2_with fail
   go_ret
   exact ⟨by rw [HT.out]; rfl, ⟨r, true, HB.out.set_ 1 _, hr, by rw [HT.out]; rfl⟩, But.set_ _ _ _ _⟩
 | false =>
   by_cases hle : n ≤ r.size
   ·have HT := y_ (show take n s = ((r.extract 0 n).data.toList, some (r.extract n r.size).data.toList) by rw [hs]; simp only [Bool.false_eq_true, if_false]; rw [take_ok (by rw [len_data]; exact hle), ext_to, ext_from])
    have d1 : decide ((r.size : Int) < (n : Int)) = false := by rw [decide_eq_false_iff_not]; omega
    clear hs
    go_wp2_with fail
    go_ret
    exact ⟨by rw [HT.out]; rfl, ⟨r.extract n r.size, false, HB.out.set_ 0 _, ext_le _ _ _ hr, by rw [HT.out]; rfl⟩, But.set_ _ _ _ _⟩
   ·have HT := y_ (show take n s = ([], none) by rw [hs]; simp only [Bool.false_eq_true, if_false]; rw [take_no (by rw [len_data]; exact hle)])
    have d1 : decide ((r.size : Int) < (n : Int)) = true := by rw [decide_eq_true_iff]; omega
    clear hs
    go_wp2_with fail
    go_ret
    exact ⟨by rw [HT.out]; rfl, ⟨r, true, HB.out.set_ 1 _, hr, by rw [HT.out]; rfl⟩, But.set_ _ _ _ _⟩
theorem one_of {l : List UInt8} (h : l.length = 1 ∨ l = []) : l = [] ∨ ∃ c, l = [c] := by
 match l, h with
 | [], _ => exact .inl rfl
 | [c], _ => exact .inr ⟨c, rfl⟩
 | a :: b :: r, h => simp at h
set_option maxHeartbeats 1000000 in
theorem byte_any (b : Nat) (s : Sc) (w : World) (h : At b s w) :
  Calls Tryz.prog 101 #[.pointer (some ⟨b, 0, none⟩)] w fun e w' => e = .returned (.int .i64 ((nextB s).1 : Int)) ∧ At b (nextB s).2 w' ∧ But b w w' := by
 have C := y_ (take_any b s 1 w h (by decide))
 have h1 := one_of (take_len 1 s)
 have HN : Hid (nextB s = (((take 1 s).1.headD 0).toNat, (take 1 s).2)) := rfl
 generalize take 1 s = p at *
 obtain ⟨l, s2⟩ := p
 simp only at h1
 go_enter Tryz.func101, Tryz.ntmps101
 rcases h1 with rfl | ⟨c, rfl⟩
 ·go_wp2_with fail
  refine (C.out).mono ?_
  rintro e w1 ⟨rfl, h2, x2⟩
  have H2 := y_ h2
  have X2 := y_ x2
  clear h2 x2 C
  go_wp2_with fail
  go_ret
  exact ⟨by rw [HN.out]; rfl, by rw [HN.out]; exact H2.out, X2.out⟩
 ·go_wp2_with fail
  refine (C.out).mono ?_
  rintro e w1 ⟨rfl, h2, x2⟩
  have H2 := y_ h2
  have X2 := y_ x2
  clear h2 x2 C
  go_wp2_with fail
  go_ret
  have hc := c.toNat_lt
  exact ⟨by rw [HN.out]; exact ret_int (k := .i64) (IntWalk.wrap64_in (c.toNat : Int) ⟨by omega, by omega⟩), by rw [HN.out]; exact H2.out, X2.out⟩
set_option maxHeartbeats 1000000 in
theorem text_any (b : Nat) (s : Sc) (w : World) (h : At b s w) :
  Calls Tryz.prog 102 #[.pointer (some ⟨b, 0, none⟩)] w fun e w' => e = .returned (.string ⟨(textS s).1.toArray⟩) ∧ At b (textS s).2 w' ∧ But b w w' := by
 have H := y_ h
 clear h
 go_enter Tryz.func102, Tryz.ntmps102
 go_wp2_with fail
 refine (byte_any b s w H.out).mono ?_
 rintro e w1 ⟨rfl, h1, x1⟩
 have H1 := y_ h1
 have X1 := y_ x1
 clear h1 x1 H
 go_wp2_with fail
 refine (take_any b _ (nextB s).1 w1 H1.out (by have := nextB_lt s; omega)).mono ?_
 rintro e w2 ⟨rfl, h2, x2⟩
 have H2 := y_ h2
 have X2 := y_ (X1.out.trans x2)
 clear h2 x2 H1
 go_wp2_with fail
 go_ret
 exact ⟨rfl, H2.out, X2.out⟩
set_option maxHeartbeats 2000000 in
theorem number_any (b : Nat) (s : Sc) (w : World) (h : At b s w) :
  Calls Tryz.prog 104 #[.pointer (some ⟨b, 0, none⟩)] w fun e w' => e = .returned (.int .i64 ((numS s).1 : Int)) ∧ At b (numS s).2 w' ∧ But b w w' := by
 have C := y_ (take_any b s 8 w h (by decide))
 have h1 := take_len 8 s
 have HN : Hid (numS s = if fromB (take 8 s).1 ≤ 1099511627776 then (fromB (take 8 s).1, (take 8 s).2) else (0, none)) := rfl
 generalize take 8 s = p at *
 obtain ⟨m, s2⟩ := p
 simp only at h1
 have hm8 : m.length ≤ 8 := by rcases h1 with h | h <;> simp [h]
 clear h1
 go_enter Tryz.func104, Tryz.ntmps104
 go_wp2_with fail
 refine (C.out).mono ?_
 rintro e w1 ⟨rfl, h1, x1⟩
 obtain ⟨t, ht⟩ : ∃ t : ByteArray, t = ⟨m.toArray⟩ := ⟨_, rfl⟩
 have htl : t.data.toList = m := by rw [ht]
 have hts : t.size = m.length := by rw [← htl, len_data]
 rw [show (⟨((m, s2) : List UInt8 × Sc).1.toArray⟩ : ByteArray) = t from ht.symm]
 have HTL := y_ htl
 have HTS := y_ hts
 obtain ⟨cap, w2, hcv, hby, hx2⟩ := BytesAt.of t w1
 have HBY := y_ hby
 have H1 : Hid (At b s2 w2) := h1.ext hx2
 have X2 : Hid (But b w w2) := x1.trans (But.of_ext hx2)
 clear ht htl hby hx2 h1 x1 C
 rw [hts] at hcv
 clear hts
 go_wp2_with fail
 clear hcv
 go_loopw [3, 5, 10] (fun n _ i wr => ∃ k : Nat, k ≤ m.length ∧ i = .int .i64 k ∧ n = .int .u64 (fromB (m.take k) : Nat) ∧ Hid (Reg.Ext w2 wr)) (fun _ _ i _ => m.length - (intOf i).toNat)
 case atStart => exact ⟨0, by omega, rfl, rfl, Reg.Ext.refl w2⟩
 case round =>
  obtain ⟨k, hk, rfl, rfl, HXR⟩ := hrel
  by_cases hkl : k < m.length
  ·have cb := HXR.out.at_ (HBY.out.cell k (by rw [HTS.out]; exact hkl))
   have hbyte : (t.data.toList[k]'(by rw [len_data, HTS.out]; exact hkl)) = m[k] := by
    have := HTL.out
    simp only [this]
   rw [hbyte] at cb
   have hsn : fromB (m.take (k + 1)) = fromB (m.take k) * 256 + (m[k]).toNat := by
    rw [List.take_succ_eq_append_getElem hkl, fromB_snoc]
   have hlt : fromB (m.take k) < 72057594037927936 := by
    have h1 := fromB_lt (m.take k)
    rw [List.length_take, Nat.min_eq_left (by omega)] at h1
    have h2 : 256 ^ k ≤ 256 ^ 7 := Nat.pow_le_pow_right (by omega) (by omega)
    have h3 : (256 : Nat) ^ 7 = 72057594037927936 := rfl
    omega
   have hcl := (m[k]).toNat_lt
   have hor := or_low (fromB (m.take k)) (m[k]).toNat hlt hcl
   have hd9 : decide ((k : Int) < (m.length : Int)) = true := by rw [decide_eq_true_iff]; omega
   generalize m[k] = c at *
   have HS := y_ hsn
   clear hsn hbyte
   generalize fromB (m.take k) = n at *
   go_wp2_with fail
   go_roundw
   case rel => exact ⟨k + 1, by omega, by go_num, by rw [HS.out]; go_num, HXR⟩
   case measure => simp [intOf]; omega
  ·have hke : k = m.length := by omega
   subst hke
   rw [List.take_length]
   have hlt : fromB m < 18446744073709551616 := by
    have h1 := fromB_lt m
    have h2 : 256 ^ m.length ≤ 256 ^ 8 := Nat.pow_le_pow_right (by omega) hm8
    have h3 : (256 : Nat) ^ 8 = 18446744073709551616 := rfl
    omega
   have hd9 : decide ((m.length : Int) < (m.length : Int)) = false := by rw [decide_eq_false_iff_not]; omega
   have X3 : Hid (But b w wr) := X2.out.trans (But.of_ext HXR.out)
   have HA : Hid (At b s2 wr) := H1.out.ext HXR.out
   generalize fromB m = x at *
   clear X2 H1 HXR HBY
   by_cases hx : x ≤ 1099511627776
   ·have dx : decide ((1099511627776 : Int) < (x : Int)) = false := by rw [decide_eq_false_iff_not]; omega
    have HV := y_ (show numS s = (x, s2) by rw [HN.out, if_pos hx])
    have hwr : IntKind.i64.wrap (x : Int) = (x : Int) := by rw [IntKind.wrap_i64]; omega
    clear HN
    go_wp2_with fail
    go_ret
    exact ⟨by rw [HV.out]; rfl, by rw [HV.out]; exact HA.out, X3.out⟩
   ·have dx : decide ((1099511627776 : Int) < (x : Int)) = true := by rw [decide_eq_true_iff]; omega
    have HV := y_ (show numS s = (0, none) by rw [HN.out, if_neg hx])
    obtain ⟨r, bad, hb, hr, hs⟩ := HA.out
    have c1 : wr.cell? ⟨b, 1, none⟩ = some (.bool bad) := hb.cell 1
    have f1 := hb.frozen 1
    have HB := y_ hb
    clear HN hb hs HA
    go_wp2_with fail
    go_ret
    exact ⟨by rw [HV.out]; rfl, ⟨r, true, HB.out.set_ 1 _, hr, by rw [HV.out]; rfl⟩, X3.out.trans (But.set_ _ _ _ _)⟩
end Slp
end Go.Proofs.YtafeealbdpmdkaaGreatDoor
/- What slip.parse gives, as plain Lean. -/
namespace Go.Proofs.YtafeealbdpmdkaaGreatDoor
open Go.RowKit
namespace Slp
def pNames (p : S × Sc) : S × Sc := ({ p.1 with repo := ⟨(textS p.2).1.toArray⟩, tag := ⟨(textS (textS p.2).2).1.toArray⟩ }, (textS (textS p.2).2).2)
def pDig (p : S × Sc) : S × Sc := (if (take 32 p.2).1 = [] then p.1 else { p.1 with dig := (take 32 p.2).1 }, (take 32 p.2).2)
def pThing (p : S × Sc) : S × Sc := ({ p.1 with typ := ⟨(textS p.2).1.toArray⟩, size := ((numS (textS p.2).2).1 : Int) }, (numS (textS p.2).2).2)
def pAt (p : S × Sc) : S × Sc := ({ p.1 with at_ := ((numS p.2).1 : Int) }, (numS p.2).2)
def parseF (f : F) (p : S × Sc) : S × Sc :=
 let p := if f.names then pNames p else p
 let p := if f.digest then pDig p else p
 let p := if f.thing then pThing p else p
 if f.at_ then pAt p else p
def first (l : List UInt8) : S × Sc := ({ S.none with k := ((nextB (some l)).1 : Int) }, (nextB (some l)).2)
def parsed (l : List UInt8) : S × Sc := parseF (flds (nextB (some l)).1) (first l)
def parse (l : List UInt8) : Option S := if (parsed l).2 = some [] ∧ good (parsed l).1 = true then some (parsed l).1 else none
def parseV (l : List UInt8) : Value := match parse l with
 | some x => .tuple #[.agg x.cells.toArray, .bool true]
 | none => .tuple #[.agg S.none.cells.toArray, .bool false]
theorem pDig_len (p : S × Sc) (h : p.1.dig.length = 32) : (pDig p).1.dig.length = 32 := by
 unfold pDig
 rcases take_len 32 p.2 with h1 | h1
 ·simp only
  split
  ·exact h
  ·exact h1
 ·rw [h1]; simpa using h
def known6 (f : F) : Prop := f = ⟨true, true, true, true⟩ ∨ f = ⟨true, false, false, true⟩ ∨ f = ⟨true, false, false, false⟩ ∨ f = ⟨false, true, true, false⟩ ∨ f = ⟨false, true, false, false⟩ ∨ f = ⟨false, false, false, false⟩
theorem flds_any (k : Int) : known6 (flds k) := by
 unfold flds known6
 by_cases h1 : k = 1
 ·simp [h1]
 by_cases h2 : k = 2
 ·simp [h2]
 by_cases h3 : k = 3
 ·simp [h3]
 by_cases h4 : k = 4
 ·simp [h4]
 by_cases h5 : k = 5
 ·simp [h5]
 by_cases h6 : k = 6
 ·simp [h6]
 simp [h1, h2, h3, h4, h5, h6]
end Slp
end Go.Proofs.YtafeealbdpmdkaaGreatDoor
/- copy(dst, s), s a string: as many bytes as fit. No program in sight. -/
namespace Go.Proofs.YtafeealbdpmdkaaGreatDoor
open Go Go.RowKit
theorem run_copy_str {P : Program} (w : World) (dT sT ty elem : TypeId) (b o dLen dCap : Nat) (t : ByteArray)
  (hu : P.underlying dT = some (.slice elem)) (hz : ∀ w, (Go.sizeOf elem).run P w = .ok 1 w)
  (hc : ∀ j, j < min t.size dLen → (w.cell? ⟨b, o + j, none⟩).isSome = true) (hf : ∀ j, j < min t.size dLen → w.frozen? ⟨b, o + j, none⟩ = false) :
  (Builtin.copy_ #[dT, sT] ty #[.slice (some ⟨b, o, none⟩) dLen dCap, .string t]).run P w = .ok (.int .i64 ((min t.size dLen : Nat) : Int)) (w.setCells b o ((t.data.toList.take (min t.size dLen)).map byteV)) := by
 have hl : ((t.data.toList.take (min t.size dLen)).map byteV).length = min t.size dLen := by rw [List.length_map, List.length_take, len_data]; omega
 have hst := run_storeCells_cells (P := P) b o ((t.data.toList.take (min t.size dLen)).map byteV) 0 w (by rw [hl]; simpa using hc) (by rw [hl]; simpa using hf) (by
  intro v hv
  obtain ⟨x, _, rfl⟩ := List.mem_map.1 hv
  rfl)
 have hmin : Nat.min t.size dLen = min t.size dLen := rfl
 have hmap : List.take (min t.size dLen) (List.map (fun b : UInt8 => Value.int IntKind.u8 (b.toNat : Int)) t.data.toList) = (t.data.toList.take (min t.size dLen)).map byteV := by rw [List.map_take]; rfl
 simp [Builtin.copy_, run_underlying hu, Builtin.lenOf, Builtin.firstCells, hz, hmin]
 rw [hmap, hst, ← List.map_take]
 rfl
theorem wpList_copy_str {P : Program} {ops : Array Oper} {rest : List Oper} {o : Oper} {a : Act} {w : World} {Q : Exit → Act → World → Prop}
  (hg : o.guard = none) (d x : Operand) (dT sT : TypeId) (hop : o.op = Op.call { callee := Callee.builtin Builtin.copy, args := #[d, x], argTypes := #[dT, sT] })
  (elem : TypeId) (hu : P.underlying dT = some (.slice elem)) (hz : ∀ w, (Go.sizeOf elem).run P w = .ok 1 w)
  (b off dLen dCap : Nat) (hd : a.eval d = .slice (some ⟨b, off, none⟩) dLen dCap) (t : ByteArray) (hx : a.eval x = .string t)
  (hc : ∀ j, j < min t.size dLen → (w.cell? ⟨b, off + j, none⟩).isSome = true) (hf : ∀ j, j < min t.size dLen → w.frozen? ⟨b, off + j, none⟩ = false)
  (hK : wpList P ops Q rest (a.put o.dst (.int .i64 ((min t.size dLen : Nat) : Int))) (w.setCells b off ((t.data.toList.take (min t.size dLen)).map byteV))) : wpList P ops Q (o :: rest) a w := by
 refine wpList_plain hg fun K hK' => ?_
 have hrun := run_copy_str (P := P) w dT sT o.type elem b off dLen dCap t hu hz hc hf
 unfold Oper.wp
 simp [execOp, hop, resolve, invoke, builtin, hd, hx, hrun, Result.andThen]
 rw [← List.map_take]
 exact hK' _ _ hK
end Go.Proofs.YtafeealbdpmdkaaGreatDoor
/- A region that draws its order: operations that yield are taken first; behind them one order is left. -/
namespace Go.Proofs.YtafeealbdpmdkaaGreatDoor
open Go Go.RowKit
namespace Drawn
variable {P : Program} {md : Region.Mode} {ops : Array Oper} {Q : Exit → Act → World → Prop}
def One (_ : World) : Prop := True
def chain (md : Region.Mode) (ops : Array Oper) : List Nat → Array Bool → Bool
 | [], listed => (Region.ready md ops listed).isEmpty
 | i :: r, listed => (Region.ready md ops listed == [i]) && chain md ops r (listed.setIfInBounds i true)
theorem of_list (is : List Nat) (l : List Oper) : ∀ (listed : Array Bool) (a : Act) (w : World) (fuel : Nat), is.map (fun i => ops[i]?) = l.map some → chain md ops is listed = true → is.length ≤ fuel → wpList P ops Q l a w → wpAnyH P md ops Q One fuel listed a w := by
 induction is generalizing l with
 | nil =>
   intro listed a w fuel hl hc _ h
   cases l with
   | cons o l => cases hl
   | nil => exact wpAnyH_done (by simpa [chain] using hc) h fuel
 | cons i is ih =>
   intro listed a w fuel hl hc hf h
   cases l with
   | nil => cases hl
   | cons o l =>
     simp only [List.map_cons, List.cons.injEq] at hl
     simp only [chain, Bool.and_eq_true, beq_iff_eq] at hc
     cases fuel with
     | zero => simp at hf
     | succ fuel =>
       refine wpAnyH_all hc.1 (by simp) fun j hj => ?_
       rw [List.mem_singleton.1 hj]
       unfold wpList at h
       have hk : ∀ a' w', wpList P ops Q l a' w' → One w' ∧ wpAnyH P md ops Q One fuel (listed.setIfInBounds i true) a' w' := fun a' w' h' => ⟨trivial, ih l _ a' w' fuel hl.2 hc.2 (by simpa using hf) h'⟩
       unfold wpOp
       rw [hl.1]
       simp only
       split at h
       ·rename_i hw
        rw [if_pos hw]
        rcases h with h | h
        ·exact .inl (Oper.wp_mono hk h)
        ·exact .inr h
       ·rename_i hw
        rw [if_neg hw]
        exact hk _ _ h
end Drawn
end Go.Proofs.YtafeealbdpmdkaaGreatDoor
/- The walk of slip.parse. -/
namespace Go.Proofs.YtafeealbdpmdkaaGreatDoor
open Go.RowKit
namespace Slp
theorem At.but {b g : Nat} {s : Sc} {w w' : World} (h : At b s w) (hx : But g w w') (hne : b ≠ g) : At b s w' := by
 obtain ⟨r, bad, h1, h2, h3⟩ := h
 exact ⟨r, bad, h1.but hx hne, h2, h3⟩
set_option maxRecDepth 100000 in
set_option maxHeartbeats 4000000 in
theorem parse_any (s : ByteArray) (w : World) (hs : s.size ≤ 1048576) :
  Calls Tryz.prog 87 #[.string s] w fun e w' => e = .returned (parseV s.data.toList) ∧ Reg.Ext w w' := by
 go_enter Tryz.func87, Tryz.ntmps87
 go_upto_region 1 with (fail)
 rw [z38]
 have hb2 := boxS w S.none
 have hx2 := Reg.Ext.alloc w (Obj.cells S.none.cells.toArray 39)
 have hs2 : (w.alloc (Obj.cells S.none.cells.toArray 39)).heap.size = w.heap.size + 1 := Array.size_push _
 generalize w.alloc (Obj.cells S.none.cells.toArray 39) = w2 at *
 generalize hg2 : w.heap.size = g2 at *
 go_wp2_with fail
 have hb3 : Blk (w2.alloc (Obj.cells #[Value.string s, Value.bool false] 151)) w2.heap.size 151 [.string s, .bool false] := Blk.new w2 151 #[Value.string s, Value.bool false]
 have hx3 := Reg.Ext.alloc w2 (Obj.cells #[Value.string s, Value.bool false] 151)
 have hs3 : (w2.alloc (Obj.cells #[Value.string s, Value.bool false] 151)).heap.size = w2.heap.size + 1 := Array.size_push _
 generalize w2.alloc (Obj.cells #[Value.string s, Value.bool false] 151) = w3 at *
 generalize hg4 : w2.heap.size = g4 at *
 have H2 := y_ (hb2.ext hx3)
 have X := y_ (hx2.trans hx3)
 have hA : At g4 (some s.data.toList) w3 := ⟨s, false, hb3, hs, rfl⟩
 clear hb2 hx2 hx3 hb3 hg4
 have l2 : w.heap.size ≤ g2 := by omega
 have l4 : w.heap.size ≤ g4 := by omega
 have l24 : g2 < g4 := by omega
 clear hg2
 rw [← hs2]
 refine (byte_any g4 _ w3 hA).mono ?_
 rintro e w4 ⟨rfl, h4, x4⟩
 rename_i hK
 have H2 := y_ (H2.out.but x4 (by omega))
 have X := y_ (X.out.trans_but x4 l4)
 have HS := y_ h4
 have hs4 := x4.size
 obtain ⟨n, hn⟩ : ∃ n, n = (nextB (some s.data.toList)).1 := ⟨_, rfl⟩
 have HN := y_ hn
 rw [← hn]
 clear h4 x4 hA hn
 refine hK _ _ ?_
 refine wpList_val rfl (.agg ({ S.none with k := (n : Int) } : S).cells.toArray) (by as_aux_lemma => kernel_rfl) ?_
 simp only [z_1, z_2, z_3, z_4, z_5, z_b, z_6, z_7, z_8, z_9, z_0]
 iterate 3 go_step
 rw [z38]
 have hb5 := boxS w4 S.none
 have hx5 := Reg.Ext.alloc w4 (Obj.cells S.none.cells.toArray 39)
 generalize w4.alloc (Obj.cells S.none.cells.toArray 39) = w5 at *
 have l45 : g4 < w4.heap.size := by omega
 generalize w4.heap.size = g5 at *
 clear hs4 hs3 hs2
 have hyl : ({ S.none with k := (n : Int) } : S).dig.length = 32 := none_dig
 refine wpList_store_mid rfl 39 _ _ rfl g5 0 ((({ S.none with k := (n : Int) } : S)).cells).toArray rfl ?_ (hb5.there _ (by have e1 := cells_length _ hyl; have e2 := cells_length _ none_dig; rw [z_a]; omega)) (by rw [z_a, cells_length _ hyl]; exact size38) (all_oneCell_toArray (oneS _)) ?_
 ·rfl
 simp only [z_c]
 simp only [z_1, z_2, z_3, z_4, z_5, z_b, z_6, z_7, z_8, z_9, z_0]
 have l5 : w.heap.size ≤ g5 := by omega
 have hbx := But.setCells g5 ({ S.none with k := (n : Int) } : S).cells 0 w5
 have HY := y_ (hb5.setAll ({ S.none with k := (n : Int) } : S).cells (by rw [cells_length _ hyl, cells_length _ none_dig]))
 have H2 := y_ ((H2.out.ext hx5).but hbx (by omega))
 have HS := y_ (At.but (HS.out.ext hx5) hbx (by omega))
 have X := y_ ((X.out.trans hx5).trans_but hbx l5)
 generalize w5.setCells g5 0 ({ S.none with k := (n : Int) } : S).cells = wi at *
 have c0 : wi.cell? ⟨g5, 0, none⟩ = some (.int .i64 n) := HY.out.cell 0
 clear hb5 hx5 hbx
 go_wp2_with fail
 refine (of_any (n : Int) wi).mono ?_
 rintro e w6 ⟨rfl, x6⟩
 have HYn := y_ (HY.out.ext x6)
 have H2n := y_ (H2.out.ext x6)
 have HSn := y_ (HS.out.ext x6)
 have Xn := y_ (X.out.trans x6)
 clear x6 c0 HY H2 HS X
 have HY := HYn
 have H2 := H2n
 have HS := HSn
 have X := Xn
 clear HYn H2n HSn Xn
 obtain ⟨f, hf⟩ : ∃ f, f = flds (n : Int) := ⟨_, rfl⟩
 have hfk := flds_any (n : Int)
 obtain ⟨p, hp⟩ : ∃ p, p = first s.data.toList := ⟨_, rfl⟩
 have HR : Hid (parsed s.data.toList = parseF f p) := by
  show parsed _ = _
  unfold parsed
  rw [← hp, ← HN.out, ← hf]
 have hp1 : ({ S.none with k := (n : Int) } : S) = p.1 := by rw [hp, HN.out]; rfl
 have hp2 : (nextB (some s.data.toList)).2 = p.2 := by rw [hp]; rfl
 rw [hp1] at HY
 have HD : p.1.dig.length = 32 := by rw [← hp1]; exact none_dig
 rw [hp2] at HS
 rw [← hf] at hfk ⊢
 clear hp hp1 hp2 hf HN hyl
 rcases hfk with rfl | rfl | rfl | rfl | rfl | rfl
 ·
  -- {A
  have HR : Hid (parsed s.data.toList = pAt (pThing (pDig (pNames p)))) := HR
  rw [show (F.cells ⟨true, true, true, true⟩) = [.bool true, .bool true, .bool true, .bool true] from rfl]
  go_upto_region 4 with (fail)
  have hb6 : Blk (w6.alloc (Obj.cells #[Value.bool true, Value.bool true, Value.bool true, Value.bool true] 114)) w6.heap.size 114 [.bool true, .bool true, .bool true, .bool true] := Blk.new w6 114 #[Value.bool true, Value.bool true, Value.bool true, Value.bool true]
  have hx6 := Reg.Ext.alloc w6 (Obj.cells #[Value.bool true, Value.bool true, Value.bool true, Value.bool true] 114)
  have lt5 := HY.out.lt
  have ltx := X.out.size
  have HYn := y_ (HY.out.ext hx6)
  have H2n := y_ (H2.out.ext hx6)
  have HSn := y_ (HS.out.ext hx6)
  have Xn := y_ (X.out.trans hx6)
  clear HY H2 HS X hx6
  have HY := HYn
  have H2 := H2n
  have HS := HSn
  have X := Xn
  clear HYn H2n HSn Xn
  generalize w6.alloc (Obj.cells #[Value.bool true, Value.bool true, Value.bool true, Value.bool true] 114) = wi at *
  generalize hg6 : w6.heap.size = g6 at *
  have H6 := y_ hb6
  clear hb6
  have l6 : g5 < g6 := lt5
  clear lt5 ltx hg6
  have p0 : wi.cell? ⟨g6, 0, none⟩ = some (.bool true) := H6.out.cell 0
  have p1 : wi.cell? ⟨g6, 1, none⟩ = some (.bool true) := H6.out.cell 1
  have p2 : wi.cell? ⟨g6, 2, none⟩ = some (.bool true) := H6.out.cell 2
  have p3 : wi.cell? ⟨g6, 3, none⟩ = some (.bool true) := H6.out.cell 3
  go_wp2_with fail
  refine (text_any g4 _ wi HS.out).mono ?_
  rintro e wj ⟨rfl, hj, xj⟩
  clear p0 p1 p2 p3
  have HYn := y_ (HY.out.but xj (by omega))
  have H6n := y_ (H6.out.but xj (by omega))
  have H2n := y_ (H2.out.but xj (by omega))
  have Xn := y_ (X.out.trans_but xj l4)
  have HSn := y_ hj
  clear hj xj HS HY H6 H2 X
  clear wi
  have HS := HSn
  have HY := HYn
  have H6 := H6n
  have H2 := H2n
  have X := Xn
  clear HSn HYn H6n H2n Xn
  generalize wj = wi at *
  go_wp2_with fail
  refine (text_any g4 _ wi HS.out).mono ?_
  rintro e wj ⟨rfl, hj, xj⟩
  skip
  have HYn := y_ (HY.out.but xj (by omega))
  have H6n := y_ (H6.out.but xj (by omega))
  have H2n := y_ (H2.out.but xj (by omega))
  have Xn := y_ (X.out.trans_but xj l4)
  have HSn := y_ hj
  clear hj xj HS HY H6 H2 X
  clear wi
  have HS := HSn
  have HY := HYn
  have H6 := H6n
  have H2 := H2n
  have X := Xn
  clear HSn HYn H6n H2n Xn
  generalize wj = wi at *
  have r1 : wi.cell? ⟨g5, 1, none⟩ = some (.string p.1.repo) := HY.out.cell 1
  have r2 : wi.cell? ⟨g5, 2, none⟩ = some (.string p.1.tag) := HY.out.cell 2
  have f1 := HY.out.frozen 1
  have f2 := HY.out.frozen 2
  have hs := (HY.out.set_ 1 (.string ⟨(textS p.2).1.toArray⟩)).set_ 2 (.string ⟨(textS (textS p.2).2).1.toArray⟩)
  rw [set1, set2] at hs
  have hbx := (But.set_ g5 wi 1 (.string ⟨(textS p.2).1.toArray⟩)).trans (But.set_ g5 _ 2 (.string ⟨(textS (textS p.2).2).1.toArray⟩))
  have HSn : Hid (At g4 (pNames p).2 wi) := HS.out
  have HYn : Hid (Blk ((wi.setCell ⟨g5, 1, none⟩ (.string ⟨(textS p.2).1.toArray⟩)).setCell ⟨g5, 2, none⟩ (.string ⟨(textS (textS p.2).2).1.toArray⟩)) g5 39 (pNames p).1.cells) := hs
  have HDn : (pNames p).1.dig.length = 32 := HD
  have HSn := y_ (At.but HSn.out hbx (by omega))
  have H6n := y_ (H6.out.but hbx (by omega))
  have H2n := y_ (H2.out.but hbx (by omega))
  have Xn := y_ (X.out.trans_but hbx l5)
  go_upto_region 6 with (fail)
  clear r1 r2 f1 f2
  clear hs hbx HS HY HD H6 H2 X
  generalize ((wi.setCell ⟨g5, 1, none⟩ (.string ⟨(textS p.2).1.toArray⟩)).setCell ⟨g5, 2, none⟩ (.string ⟨(textS (textS p.2).2).1.toArray⟩)) = wi at *
  generalize pNames p = p at *
  have HS := HSn
  have HY := HYn
  have HD := HDn
  have H6 := H6n
  have H2 := H2n
  have X := Xn
  clear HSn HYn HDn H6n H2n Xn
  have p0 : wi.cell? ⟨g6, 0, none⟩ = some (.bool true) := H6.out.cell 0
  have p1 : wi.cell? ⟨g6, 1, none⟩ = some (.bool true) := H6.out.cell 1
  have p2 : wi.cell? ⟨g6, 2, none⟩ = some (.bool true) := H6.out.cell 2
  have p3 : wi.cell? ⟨g6, 3, none⟩ = some (.bool true) := H6.out.cell 3
  go_wp2_with fail
  refine wp_region_held (S := Drawn.One) (by kernel_rfl) ?_
  refine wpAnyH_take (i := 0) rfl (by kernel_rfl) (by kernel_rfl) (by kernel_rfl) (fun _ _ _ h => h) (v := .pointer (some ⟨g5, 3, none⟩)) (.inl ⟨rfl, fun w _ => by as_aux_lemma => kernel_rfl⟩) trivial ?_
  simp only [z_1, z_2, z_3, z_4, z_5, z_b, z_6, z_7, z_8, z_9, z_0]
  refine wpAnyH_take (i := 1) rfl (by kernel_rfl) (by kernel_rfl) (by kernel_rfl) (fun _ _ _ h => h) (v := .slice (some ⟨g5, 3, none⟩) 32 32) (.inl ⟨rfl, fun w _ => by as_aux_lemma => kernel_rfl⟩) trivial ?_
  simp only [z_1, z_2, z_3, z_4, z_5, z_b, z_6, z_7, z_8, z_9, z_0]
  refine wpAnyH_take (i := 2) rfl (by kernel_rfl) (by kernel_rfl) (by kernel_rfl) (fun _ _ _ h => h) (v := .pointer (some ⟨g4, 0, none⟩)) (.inl ⟨rfl, fun w _ => by as_aux_lemma => kernel_rfl⟩) trivial ?_
  simp only [z_1, z_2, z_3, z_4, z_5, z_b, z_6, z_7, z_8, z_9, z_0]
  refine Drawn.of_list [3, 4] [_, _] _ _ _ _ rfl (by kernel_rfl) (by decide) ?_
  change wpList _ _ _ _ _ wi.drew
  repeat go_step
  have HTL := y_ (take_len 32 p.2)
  refine (take_any g4 p.2 32 wi.drew (HS.out.ext (Reg.Ext.drew _)) (by decide)).mono ?_
  rintro e wj ⟨rfl, hj, xj'⟩
  rename_i hK
  refine hK _ _ ?_
  have xj := (But.of_ext (g := g4) (Reg.Ext.drew wi)).trans xj'
  clear xj' p0 p1 p2 p3
  have HYn := y_ (HY.out.but xj (by omega))
  have H6n := y_ (H6.out.but xj (by omega))
  have H2n := y_ (H2.out.but xj (by omega))
  have Xn := y_ (X.out.trans_but xj l4)
  have HSn := y_ hj
  clear hj xj HS HY H6 H2 X
  clear wi
  have HS := HSn
  have HY := HYn
  have H6 := H6n
  have H2 := H2n
  have X := Xn
  clear HSn HYn H6n H2n Xn
  generalize wj = wi at *
  have hyo := HY.out
  obtain ⟨t, ht⟩ : ∃ t : ByteArray, t = ⟨(take 32 p.2).1.toArray⟩ := ⟨_, rfl⟩
  have htl : t.data.toList = (take 32 p.2).1 := by rw [ht]
  have hts : t.size = (take 32 p.2).1.length := by rw [← htl, len_data]
  rw [← ht]
  refine wpList_copy_str rfl _ _ 84 9 rfl 5 Tryz.underlying84 (fun _ => by as_aux_lemma => kernel_rfl) g5 3 32 32 rfl t rfl (fun j hj => (there_dig hyo HD j (by omega)).1) (fun j hj => hyo.frozen _) ?_
  have hs : Blk (wi.setCells g5 3 ((t.data.toList.take (min t.size 32)).map byteV)) g5 39 (pDig p).1.cells := by
   rw [htl, hts]
   unfold pDig
   rcases HTL.out with h1 | h1
   ·rw [h1, List.take_of_length_le (by rw [h1]; decide), if_neg (by intro e; rw [e] at h1; cases h1)]
    exact put_dig hyo _ (h1.trans HD.symm)
   ·rw [h1, if_pos rfl]
    exact hyo
  have hbx := But.setCells g5 ((t.data.toList.take (min t.size 32)).map byteV) 3 wi
  clear htl hts ht hyo
  have HSn : Hid (At g4 (pDig p).2 wi) := HS.out
  have HYn : Hid (Blk (wi.setCells g5 3 ((t.data.toList.take (min t.size 32)).map byteV)) g5 39 (pDig p).1.cells) := hs
  have HDn : (pDig p).1.dig.length = 32 := pDig_len p HD
  have HSn := y_ (At.but HSn.out hbx (by omega))
  have H6n := y_ (H6.out.but hbx (by omega))
  have H2n := y_ (H2.out.but hbx (by omega))
  have Xn := y_ (X.out.trans_but hbx l5)
  simp only [z_1, z_2, z_3, z_4, z_5, z_b, z_6, z_7, z_8, z_9, z_0]
  clear hs hbx HS HY HD H6 H2 X
  generalize (wi.setCells g5 3 ((t.data.toList.take (min t.size 32)).map byteV)) = wi at *
  generalize pDig p = p at *
  have HS := HSn
  have HY := HYn
  have HD := HDn
  have H6 := H6n
  have H2 := H2n
  have X := Xn
  clear HSn HYn HDn H6n H2n Xn
  clear HTL
  have p0 : wi.cell? ⟨g6, 0, none⟩ = some (.bool true) := H6.out.cell 0
  have p1 : wi.cell? ⟨g6, 1, none⟩ = some (.bool true) := H6.out.cell 1
  have p2 : wi.cell? ⟨g6, 2, none⟩ = some (.bool true) := H6.out.cell 2
  have p3 : wi.cell? ⟨g6, 3, none⟩ = some (.bool true) := H6.out.cell 3
  go_wp2_with fail
  refine (text_any g4 _ wi HS.out).mono ?_
  rintro e wj ⟨rfl, hj, xj⟩
  clear p0 p1 p2 p3
  have HYn := y_ (HY.out.but xj (by omega))
  have H6n := y_ (H6.out.but xj (by omega))
  have H2n := y_ (H2.out.but xj (by omega))
  have Xn := y_ (X.out.trans_but xj l4)
  have HSn := y_ hj
  clear hj xj HS HY H6 H2 X
  clear wi
  have HS := HSn
  have HY := HYn
  have H6 := H6n
  have H2 := H2n
  have X := Xn
  clear HSn HYn H6n H2n Xn
  generalize wj = wi at *
  go_wp2_with fail
  refine (number_any g4 _ wi HS.out).mono ?_
  rintro e wj ⟨rfl, hj, xj⟩
  skip
  have HYn := y_ (HY.out.but xj (by omega))
  have H6n := y_ (H6.out.but xj (by omega))
  have H2n := y_ (H2.out.but xj (by omega))
  have Xn := y_ (X.out.trans_but xj l4)
  have HSn := y_ hj
  clear hj xj HS HY H6 H2 X
  clear wi
  have HS := HSn
  have HY := HYn
  have H6 := H6n
  have H2 := H2n
  have X := Xn
  clear HSn HYn H6n H2n Xn
  generalize wj = wi at *
  have r1 : wi.cell? ⟨g5, 35, none⟩ = some (.string p.1.typ) := by rw [HY.out.cell, at35 p.1 HD]
  have r2 : wi.cell? ⟨g5, 36, none⟩ = some (.int .i64 p.1.size) := by rw [HY.out.cell, at36 p.1 HD]
  have f1 := HY.out.frozen 35
  have f2 := HY.out.frozen 36
  have hs0 := HY.out.set_ 35 (.string ⟨(textS p.2).1.toArray⟩)
  rw [set35 p.1 HD] at hs0
  have hs := hs0.set_ 36 (.int .i64 ((numS (textS p.2).2).1 : Int))
  rw [set36 ({ p.1 with typ := ⟨(textS p.2).1.toArray⟩ } : S) HD] at hs
  clear hs0
  have hbx := (But.set_ g5 wi 35 (.string ⟨(textS p.2).1.toArray⟩)).trans (But.set_ g5 _ 36 (.int .i64 ((numS (textS p.2).2).1 : Int)))
  have HSn : Hid (At g4 (pThing p).2 wi) := HS.out
  have HYn : Hid (Blk ((wi.setCell ⟨g5, 35, none⟩ (.string ⟨(textS p.2).1.toArray⟩)).setCell ⟨g5, 36, none⟩ (.int .i64 ((numS (textS p.2).2).1 : Int))) g5 39 (pThing p).1.cells) := hs
  have HDn : (pThing p).1.dig.length = 32 := HD
  have HSn := y_ (At.but HSn.out hbx (by omega))
  have H6n := y_ (H6.out.but hbx (by omega))
  have H2n := y_ (H2.out.but hbx (by omega))
  have Xn := y_ (X.out.trans_but hbx l5)
  go_upto_region 10 with (fail)
  clear r1 r2 f1 f2
  clear hs hbx HS HY HD H6 H2 X
  generalize ((wi.setCell ⟨g5, 35, none⟩ (.string ⟨(textS p.2).1.toArray⟩)).setCell ⟨g5, 36, none⟩ (.int .i64 ((numS (textS p.2).2).1 : Int))) = wi at *
  generalize pThing p = p at *
  have HS := HSn
  have HY := HYn
  have HD := HDn
  have H6 := H6n
  have H2 := H2n
  have X := Xn
  clear HSn HYn HDn H6n H2n Xn
  have p0 : wi.cell? ⟨g6, 0, none⟩ = some (.bool true) := H6.out.cell 0
  have p1 : wi.cell? ⟨g6, 1, none⟩ = some (.bool true) := H6.out.cell 1
  have p2 : wi.cell? ⟨g6, 2, none⟩ = some (.bool true) := H6.out.cell 2
  have p3 : wi.cell? ⟨g6, 3, none⟩ = some (.bool true) := H6.out.cell 3
  go_wp2_with fail
  refine (number_any g4 _ wi HS.out).mono ?_
  rintro e wj ⟨rfl, hj, xj⟩
  clear p0 p1 p2 p3
  have HYn := y_ (HY.out.but xj (by omega))
  have H6n := y_ (H6.out.but xj (by omega))
  have H2n := y_ (H2.out.but xj (by omega))
  have Xn := y_ (X.out.trans_but xj l4)
  have HSn := y_ hj
  clear hj xj HS HY H6 H2 X
  clear wi
  have HS := HSn
  have HY := HYn
  have H6 := H6n
  have H2 := H2n
  have X := Xn
  clear HSn HYn H6n H2n Xn
  generalize wj = wi at *
  have r1 : wi.cell? ⟨g5, 37, none⟩ = some (.int .i64 p.1.at_) := by rw [HY.out.cell, at37 p.1 HD]
  have f1 := HY.out.frozen 37
  have hs := HY.out.set_ 37 (.int .i64 ((numS p.2).1 : Int))
  rw [set37 p.1 HD] at hs
  have hbx := But.set_ g5 wi 37 (.int .i64 ((numS p.2).1 : Int))
  have HSn : Hid (At g4 (pAt p).2 wi) := HS.out
  have HYn : Hid (Blk (wi.setCell ⟨g5, 37, none⟩ (.int .i64 ((numS p.2).1 : Int))) g5 39 (pAt p).1.cells) := hs
  have HDn : (pAt p).1.dig.length = 32 := HD
  have HSn := y_ (At.but HSn.out hbx (by omega))
  have H6n := y_ (H6.out.but hbx (by omega))
  have H2n := y_ (H2.out.but hbx (by omega))
  have Xn := y_ (X.out.trans_but hbx l5)
  go_upto_region 12 with (fail)
  clear r1 f1
  clear hs hbx HS HY HD H6 H2 X
  generalize (wi.setCell ⟨g5, 37, none⟩ (.int .i64 ((numS p.2).1 : Int))) = wi at *
  generalize pAt p = p at *
  have HS := HSn
  have HY := HYn
  have HD := HDn
  have H6 := H6n
  have H2 := H2n
  have X := Xn
  clear HSn HYn HDn H6n H2n Xn
  have p0 : wi.cell? ⟨g6, 0, none⟩ = some (.bool true) := H6.out.cell 0
  have p1 : wi.cell? ⟨g6, 1, none⟩ = some (.bool true) := H6.out.cell 1
  have p2 : wi.cell? ⟨g6, 2, none⟩ = some (.bool true) := H6.out.cell 2
  have p3 : wi.cell? ⟨g6, 3, none⟩ = some (.bool true) := H6.out.cell 3
  obtain ⟨r, bad, hb, hr, hst⟩ := HS.out
  have c0 : wi.cell? ⟨g4, 0, none⟩ = some (.string r) := hb.cell 0
  have c1 : wi.cell? ⟨g4, 1, none⟩ = some (.bool bad) := hb.cell 1
  have HST := y_ hst
  clear hb hr hst
  cases bad with
  | true =>
    have HV : Hid (parseV s.data.toList = .tuple #[.agg S.none.cells.toArray, .bool false]) := by
     show parseV _ = _
     unfold parseV parse
     rw [HR.out, if_neg (by rw [HST.out]; simp)]
    clear HR HST HS
    go_upto_region 13 with (fail)
    refine wp_region_lit ?_
    refine wpList_val rfl (.agg S.none.cells.toArray) (by as_aux_lemma => kernel_rfl) ?_
    simp only [z_1, z_2, z_3, z_4, z_5, z_b, z_6, z_7, z_8, z_9, z_0]
    have h2 := H2.out
    refine wpList_store_mid rfl 39 _ _ rfl g2 0 ((S.none).cells).toArray rfl ?_ (h2.there _ (by have e1 := cells_length _ none_dig; have e2 := cells_length _ none_dig; rw [z_a]; omega)) (by rw [z_a, cells_length _ none_dig]; exact size38) (all_oneCell_toArray (oneS _)) ?_
    ·rfl
    simp only [z_c]
    simp only [z_1, z_2, z_3, z_4, z_5, z_b, z_6, z_7, z_8, z_9, z_0]
    have HN := y_ (h2.setAll S.none.cells rfl)
    have XN := y_ (X.out.trans_but (But.setCells g2 S.none.cells 0 wi) l2)
    generalize wi.setCells g2 0 S.none.cells = wn at *
    clear h2 H2 X
    go_wp2_with fail
    exact bodyPost_ret (results_row2 rfl _ _ g2 39 (S.none.cells).toArray (0, 0) _ rfl HN.out undS rfl (by rw [z_a, cells_length _ none_dig]; exact size38)) rfl ⟨by rw [HV.out]; rfl, XN.out⟩
  | false =>
    by_cases hr0 : r = ⟨#[]⟩
    ·subst hr0
     have CG := y_ (good_any p.1 HD wi)
     cases hg : good p.1 with
     | true =>
       have HV : Hid (parseV s.data.toList = .tuple #[.agg p.1.cells.toArray, .bool true]) := by
        show parseV _ = _
        unfold parseV parse
        rw [HR.out, if_pos ⟨by rw [HST.out]; simp, hg⟩]
       rw [hg] at CG
       clear HR HST HS hg
       go_upto_region 12 with (fail)
       refine wp_region_lit ?_
       repeat (first | refine wpList_ldr rfl _ _ rfl g5 rfl _ _ _ HY undS (by rw [cells_length p.1 HD]; exact size38) ?_ | go_step)
       refine (CG.out).mono ?_
       rintro e wj ⟨rfl, xg⟩
       have xj := But.of_ext (g := g4) xg
       have hj : True := trivial
       clear xg c0 c1 p0 p1 p2 p3 CG
       have HYn := y_ (HY.out.but xj (by omega))
       have H6n := y_ (H6.out.but xj (by omega))
       have H2n := y_ (H2.out.but xj (by omega))
       have Xn := y_ (X.out.trans_but xj l4)
       have HSn := y_ hj
       clear hj xj HS HY H6 H2 X
       clear wi
       have HS := HSn
       have HY := HYn
       have H6 := H6n
       have H2 := H2n
       have X := Xn
       clear HSn HYn H6n H2n Xn
       generalize wj = wi at *
       clear HS
       rename_i hK
       refine hK _ _ ?_
       go_upto_region 14 with (fail)
       refine wp_region_lit ?_
       have hyo := HY.out
       have h2 := H2.out
       refine wpList_load_row rfl 39 _ rfl g5 rfl 39 (p.1.cells).toArray (0, 0) _ hyo undS rfl (by rw [z_a, cells_length p.1 HD]; exact size38) ?_
       simp only [z_1, z_2, z_3, z_4, z_5, z_b, z_6, z_7, z_8, z_9, z_0]
       refine wpList_store_mid rfl 39 _ _ rfl g2 0 ((p.1).cells).toArray rfl ?_ (h2.there _ (by have e1 := cells_length _ HD; have e2 := cells_length _ none_dig; rw [z_a]; omega)) (by rw [z_a, cells_length _ HD]; exact size38) (all_oneCell_toArray (oneS _)) ?_
       ·rfl
       simp only [z_c]
       simp only [z_1, z_2, z_3, z_4, z_5, z_b, z_6, z_7, z_8, z_9, z_0]
       have HN := y_ (h2.setAll p.1.cells (by rw [cells_length p.1 HD, cells_length _ none_dig]))
       have XN := y_ (X.out.trans_but (But.setCells g2 p.1.cells 0 wi) l2)
       generalize wi.setCells g2 0 p.1.cells = wn at *
       clear h2 hyo H2 X HY
       go_wp2_with fail
       exact bodyPost_ret (results_row2 rfl _ _ g2 39 (p.1.cells).toArray (0, 0) _ rfl HN.out undS rfl (by rw [z_a, cells_length _ HD]; exact size38)) rfl ⟨by rw [HV.out]; rfl, XN.out⟩
     | false =>
       have HV : Hid (parseV s.data.toList = .tuple #[.agg S.none.cells.toArray, .bool false]) := by
        show parseV _ = _
        unfold parseV parse
        rw [HR.out, if_neg (by rw [hg]; simp)]
       rw [hg] at CG
       clear HR HST HS hg
       go_upto_region 12 with (fail)
       refine wp_region_lit ?_
       repeat (first | refine wpList_ldr rfl _ _ rfl g5 rfl _ _ _ HY undS (by rw [cells_length p.1 HD]; exact size38) ?_ | go_step)
       refine (CG.out).mono ?_
       rintro e wj ⟨rfl, xg⟩
       have xj := But.of_ext (g := g4) xg
       have hj : True := trivial
       clear xg c0 c1 p0 p1 p2 p3 CG
       have HYn := y_ (HY.out.but xj (by omega))
       have H6n := y_ (H6.out.but xj (by omega))
       have H2n := y_ (H2.out.but xj (by omega))
       have Xn := y_ (X.out.trans_but xj l4)
       have HSn := y_ hj
       clear hj xj HS HY H6 H2 X
       clear wi
       have HS := HSn
       have HY := HYn
       have H6 := H6n
       have H2 := H2n
       have X := Xn
       clear HSn HYn H6n H2n Xn
       generalize wj = wi at *
       clear HS
       rename_i hK
       refine hK _ _ ?_
       go_upto_region 13 with (fail)
       refine wp_region_lit ?_
       refine wpList_val rfl (.agg S.none.cells.toArray) (by as_aux_lemma => kernel_rfl) ?_
       simp only [z_1, z_2, z_3, z_4, z_5, z_b, z_6, z_7, z_8, z_9, z_0]
       have h2 := H2.out
       refine wpList_store_mid rfl 39 _ _ rfl g2 0 ((S.none).cells).toArray rfl ?_ (h2.there _ (by have e1 := cells_length _ none_dig; have e2 := cells_length _ none_dig; rw [z_a]; omega)) (by rw [z_a, cells_length _ none_dig]; exact size38) (all_oneCell_toArray (oneS _)) ?_
       ·rfl
       simp only [z_c]
       simp only [z_1, z_2, z_3, z_4, z_5, z_b, z_6, z_7, z_8, z_9, z_0]
       have HN := y_ (h2.setAll S.none.cells rfl)
       have XN := y_ (X.out.trans_but (But.setCells g2 S.none.cells 0 wi) l2)
       generalize wi.setCells g2 0 S.none.cells = wn at *
       clear h2 H2 X
       go_wp2_with fail
       exact bodyPost_ret (results_row2 rfl _ _ g2 39 (S.none.cells).toArray (0, 0) _ rfl HN.out undS rfl (by rw [z_a, cells_length _ none_dig]; exact size38)) rfl ⟨by rw [HV.out]; rfl, XN.out⟩
    ·have HV : Hid (parseV s.data.toList = .tuple #[.agg S.none.cells.toArray, .bool false]) := by
      show parseV _ = _
      unfold parseV parse
      rw [HR.out, if_neg (by
       rw [HST.out]
       simp only [Bool.false_eq_true, if_false, Option.some.injEq]
       intro hh
       exact hr0 (ba_ext (by rw [hh.1])))]
     have dne : (r.toList == []) = false := by
      rw [ByteArray.toList_eq, Bool.eq_false_iff, ne_eq, beq_iff_eq]
      intro e
      exact hr0 (ba_ext e)
     clear HR HST HS hr0
     go_upto_region 13 with (fail)
     refine wp_region_lit ?_
     refine wpList_val rfl (.agg S.none.cells.toArray) (by as_aux_lemma => kernel_rfl) ?_
     simp only [z_1, z_2, z_3, z_4, z_5, z_b, z_6, z_7, z_8, z_9, z_0]
     have h2 := H2.out
     refine wpList_store_mid rfl 39 _ _ rfl g2 0 ((S.none).cells).toArray rfl ?_ (h2.there _ (by have e1 := cells_length _ none_dig; have e2 := cells_length _ none_dig; rw [z_a]; omega)) (by rw [z_a, cells_length _ none_dig]; exact size38) (all_oneCell_toArray (oneS _)) ?_
     ·rfl
     simp only [z_c]
     simp only [z_1, z_2, z_3, z_4, z_5, z_b, z_6, z_7, z_8, z_9, z_0]
     have HN := y_ (h2.setAll S.none.cells rfl)
     have XN := y_ (X.out.trans_but (But.setCells g2 S.none.cells 0 wi) l2)
     generalize wi.setCells g2 0 S.none.cells = wn at *
     clear h2 H2 X
     go_wp2_with fail
     exact bodyPost_ret (results_row2 rfl _ _ g2 39 (S.none.cells).toArray (0, 0) _ rfl HN.out undS rfl (by rw [z_a, cells_length _ none_dig]; exact size38)) rfl ⟨by rw [HV.out]; rfl, XN.out⟩
  -- A}
 ·
  -- {B
  have HR : Hid (parsed s.data.toList = pAt (pNames p)) := HR
  rw [show (F.cells ⟨true, false, false, true⟩) = [.bool true, .bool false, .bool false, .bool true] from rfl]
  go_upto_region 4 with (fail)
  have hb6 : Blk (w6.alloc (Obj.cells #[Value.bool true, Value.bool false, Value.bool false, Value.bool true] 114)) w6.heap.size 114 [.bool true, .bool false, .bool false, .bool true] := Blk.new w6 114 #[Value.bool true, Value.bool false, Value.bool false, Value.bool true]
  have hx6 := Reg.Ext.alloc w6 (Obj.cells #[Value.bool true, Value.bool false, Value.bool false, Value.bool true] 114)
  have lt5 := HY.out.lt
  have ltx := X.out.size
  have HYn := y_ (HY.out.ext hx6)
  have H2n := y_ (H2.out.ext hx6)
  have HSn := y_ (HS.out.ext hx6)
  have Xn := y_ (X.out.trans hx6)
  clear HY H2 HS X hx6
  have HY := HYn
  have H2 := H2n
  have HS := HSn
  have X := Xn
  clear HYn H2n HSn Xn
  generalize w6.alloc (Obj.cells #[Value.bool true, Value.bool false, Value.bool false, Value.bool true] 114) = wi at *
  generalize hg6 : w6.heap.size = g6 at *
  have H6 := y_ hb6
  clear hb6
  have l6 : g5 < g6 := lt5
  clear lt5 ltx hg6
  have p0 : wi.cell? ⟨g6, 0, none⟩ = some (.bool true) := H6.out.cell 0
  have p1 : wi.cell? ⟨g6, 1, none⟩ = some (.bool false) := H6.out.cell 1
  have p2 : wi.cell? ⟨g6, 2, none⟩ = some (.bool false) := H6.out.cell 2
  have p3 : wi.cell? ⟨g6, 3, none⟩ = some (.bool true) := H6.out.cell 3
  go_wp2_with fail
  refine (text_any g4 _ wi HS.out).mono ?_
  rintro e wj ⟨rfl, hj, xj⟩
  clear p0 p1 p2 p3
  have HYn := y_ (HY.out.but xj (by omega))
  have H6n := y_ (H6.out.but xj (by omega))
  have H2n := y_ (H2.out.but xj (by omega))
  have Xn := y_ (X.out.trans_but xj l4)
  have HSn := y_ hj
  clear hj xj HS HY H6 H2 X
  clear wi
  have HS := HSn
  have HY := HYn
  have H6 := H6n
  have H2 := H2n
  have X := Xn
  clear HSn HYn H6n H2n Xn
  generalize wj = wi at *
  go_wp2_with fail
  refine (text_any g4 _ wi HS.out).mono ?_
  rintro e wj ⟨rfl, hj, xj⟩
  skip
  have HYn := y_ (HY.out.but xj (by omega))
  have H6n := y_ (H6.out.but xj (by omega))
  have H2n := y_ (H2.out.but xj (by omega))
  have Xn := y_ (X.out.trans_but xj l4)
  have HSn := y_ hj
  clear hj xj HS HY H6 H2 X
  clear wi
  have HS := HSn
  have HY := HYn
  have H6 := H6n
  have H2 := H2n
  have X := Xn
  clear HSn HYn H6n H2n Xn
  generalize wj = wi at *
  have r1 : wi.cell? ⟨g5, 1, none⟩ = some (.string p.1.repo) := HY.out.cell 1
  have r2 : wi.cell? ⟨g5, 2, none⟩ = some (.string p.1.tag) := HY.out.cell 2
  have f1 := HY.out.frozen 1
  have f2 := HY.out.frozen 2
  have hs := (HY.out.set_ 1 (.string ⟨(textS p.2).1.toArray⟩)).set_ 2 (.string ⟨(textS (textS p.2).2).1.toArray⟩)
  rw [set1, set2] at hs
  have hbx := (But.set_ g5 wi 1 (.string ⟨(textS p.2).1.toArray⟩)).trans (But.set_ g5 _ 2 (.string ⟨(textS (textS p.2).2).1.toArray⟩))
  have HSn : Hid (At g4 (pNames p).2 wi) := HS.out
  have HYn : Hid (Blk ((wi.setCell ⟨g5, 1, none⟩ (.string ⟨(textS p.2).1.toArray⟩)).setCell ⟨g5, 2, none⟩ (.string ⟨(textS (textS p.2).2).1.toArray⟩)) g5 39 (pNames p).1.cells) := hs
  have HDn : (pNames p).1.dig.length = 32 := HD
  have HSn := y_ (At.but HSn.out hbx (by omega))
  have H6n := y_ (H6.out.but hbx (by omega))
  have H2n := y_ (H2.out.but hbx (by omega))
  have Xn := y_ (X.out.trans_but hbx l5)
  go_upto_region 6 with (fail)
  clear r1 r2 f1 f2
  clear hs hbx HS HY HD H6 H2 X
  generalize ((wi.setCell ⟨g5, 1, none⟩ (.string ⟨(textS p.2).1.toArray⟩)).setCell ⟨g5, 2, none⟩ (.string ⟨(textS (textS p.2).2).1.toArray⟩)) = wi at *
  generalize pNames p = p at *
  have HS := HSn
  have HY := HYn
  have HD := HDn
  have H6 := H6n
  have H2 := H2n
  have X := Xn
  clear HSn HYn HDn H6n H2n Xn
  have p0 : wi.cell? ⟨g6, 0, none⟩ = some (.bool true) := H6.out.cell 0
  have p1 : wi.cell? ⟨g6, 1, none⟩ = some (.bool false) := H6.out.cell 1
  have p2 : wi.cell? ⟨g6, 2, none⟩ = some (.bool false) := H6.out.cell 2
  have p3 : wi.cell? ⟨g6, 3, none⟩ = some (.bool true) := H6.out.cell 3
  go_wp2_with fail
  refine (number_any g4 _ wi HS.out).mono ?_
  rintro e wj ⟨rfl, hj, xj⟩
  clear p0 p1 p2 p3
  have HYn := y_ (HY.out.but xj (by omega))
  have H6n := y_ (H6.out.but xj (by omega))
  have H2n := y_ (H2.out.but xj (by omega))
  have Xn := y_ (X.out.trans_but xj l4)
  have HSn := y_ hj
  clear hj xj HS HY H6 H2 X
  clear wi
  have HS := HSn
  have HY := HYn
  have H6 := H6n
  have H2 := H2n
  have X := Xn
  clear HSn HYn H6n H2n Xn
  generalize wj = wi at *
  have r1 : wi.cell? ⟨g5, 37, none⟩ = some (.int .i64 p.1.at_) := by rw [HY.out.cell, at37 p.1 HD]
  have f1 := HY.out.frozen 37
  have hs := HY.out.set_ 37 (.int .i64 ((numS p.2).1 : Int))
  rw [set37 p.1 HD] at hs
  have hbx := But.set_ g5 wi 37 (.int .i64 ((numS p.2).1 : Int))
  have HSn : Hid (At g4 (pAt p).2 wi) := HS.out
  have HYn : Hid (Blk (wi.setCell ⟨g5, 37, none⟩ (.int .i64 ((numS p.2).1 : Int))) g5 39 (pAt p).1.cells) := hs
  have HDn : (pAt p).1.dig.length = 32 := HD
  have HSn := y_ (At.but HSn.out hbx (by omega))
  have H6n := y_ (H6.out.but hbx (by omega))
  have H2n := y_ (H2.out.but hbx (by omega))
  have Xn := y_ (X.out.trans_but hbx l5)
  go_upto_region 12 with (fail)
  clear r1 f1
  clear hs hbx HS HY HD H6 H2 X
  generalize (wi.setCell ⟨g5, 37, none⟩ (.int .i64 ((numS p.2).1 : Int))) = wi at *
  generalize pAt p = p at *
  have HS := HSn
  have HY := HYn
  have HD := HDn
  have H6 := H6n
  have H2 := H2n
  have X := Xn
  clear HSn HYn HDn H6n H2n Xn
  have p0 : wi.cell? ⟨g6, 0, none⟩ = some (.bool true) := H6.out.cell 0
  have p1 : wi.cell? ⟨g6, 1, none⟩ = some (.bool false) := H6.out.cell 1
  have p2 : wi.cell? ⟨g6, 2, none⟩ = some (.bool false) := H6.out.cell 2
  have p3 : wi.cell? ⟨g6, 3, none⟩ = some (.bool true) := H6.out.cell 3
  obtain ⟨r, bad, hb, hr, hst⟩ := HS.out
  have c0 : wi.cell? ⟨g4, 0, none⟩ = some (.string r) := hb.cell 0
  have c1 : wi.cell? ⟨g4, 1, none⟩ = some (.bool bad) := hb.cell 1
  have HST := y_ hst
  clear hb hr hst
  cases bad with
  | true =>
    have HV : Hid (parseV s.data.toList = .tuple #[.agg S.none.cells.toArray, .bool false]) := by
     show parseV _ = _
     unfold parseV parse
     rw [HR.out, if_neg (by rw [HST.out]; simp)]
    clear HR HST HS
    go_upto_region 13 with (fail)
    refine wp_region_lit ?_
    refine wpList_val rfl (.agg S.none.cells.toArray) (by as_aux_lemma => kernel_rfl) ?_
    simp only [z_1, z_2, z_3, z_4, z_5, z_b, z_6, z_7, z_8, z_9, z_0]
    have h2 := H2.out
    refine wpList_store_mid rfl 39 _ _ rfl g2 0 ((S.none).cells).toArray rfl ?_ (h2.there _ (by have e1 := cells_length _ none_dig; have e2 := cells_length _ none_dig; rw [z_a]; omega)) (by rw [z_a, cells_length _ none_dig]; exact size38) (all_oneCell_toArray (oneS _)) ?_
    ·rfl
    simp only [z_c]
    simp only [z_1, z_2, z_3, z_4, z_5, z_b, z_6, z_7, z_8, z_9, z_0]
    have HN := y_ (h2.setAll S.none.cells rfl)
    have XN := y_ (X.out.trans_but (But.setCells g2 S.none.cells 0 wi) l2)
    generalize wi.setCells g2 0 S.none.cells = wn at *
    clear h2 H2 X
    go_wp2_with fail
    exact bodyPost_ret (results_row2 rfl _ _ g2 39 (S.none.cells).toArray (0, 0) _ rfl HN.out undS rfl (by rw [z_a, cells_length _ none_dig]; exact size38)) rfl ⟨by rw [HV.out]; rfl, XN.out⟩
  | false =>
    by_cases hr0 : r = ⟨#[]⟩
    ·subst hr0
     have CG := y_ (good_any p.1 HD wi)
     cases hg : good p.1 with
     | true =>
       have HV : Hid (parseV s.data.toList = .tuple #[.agg p.1.cells.toArray, .bool true]) := by
        show parseV _ = _
        unfold parseV parse
        rw [HR.out, if_pos ⟨by rw [HST.out]; simp, hg⟩]
       rw [hg] at CG
       clear HR HST HS hg
       go_upto_region 12 with (fail)
       refine wp_region_lit ?_
       repeat (first | refine wpList_ldr rfl _ _ rfl g5 rfl _ _ _ HY undS (by rw [cells_length p.1 HD]; exact size38) ?_ | go_step)
       refine (CG.out).mono ?_
       rintro e wj ⟨rfl, xg⟩
       have xj := But.of_ext (g := g4) xg
       have hj : True := trivial
       clear xg c0 c1 p0 p1 p2 p3 CG
       have HYn := y_ (HY.out.but xj (by omega))
       have H6n := y_ (H6.out.but xj (by omega))
       have H2n := y_ (H2.out.but xj (by omega))
       have Xn := y_ (X.out.trans_but xj l4)
       have HSn := y_ hj
       clear hj xj HS HY H6 H2 X
       clear wi
       have HS := HSn
       have HY := HYn
       have H6 := H6n
       have H2 := H2n
       have X := Xn
       clear HSn HYn H6n H2n Xn
       generalize wj = wi at *
       clear HS
       rename_i hK
       refine hK _ _ ?_
       go_upto_region 14 with (fail)
       refine wp_region_lit ?_
       have hyo := HY.out
       have h2 := H2.out
       refine wpList_load_row rfl 39 _ rfl g5 rfl 39 (p.1.cells).toArray (0, 0) _ hyo undS rfl (by rw [z_a, cells_length p.1 HD]; exact size38) ?_
       simp only [z_1, z_2, z_3, z_4, z_5, z_b, z_6, z_7, z_8, z_9, z_0]
       refine wpList_store_mid rfl 39 _ _ rfl g2 0 ((p.1).cells).toArray rfl ?_ (h2.there _ (by have e1 := cells_length _ HD; have e2 := cells_length _ none_dig; rw [z_a]; omega)) (by rw [z_a, cells_length _ HD]; exact size38) (all_oneCell_toArray (oneS _)) ?_
       ·rfl
       simp only [z_c]
       simp only [z_1, z_2, z_3, z_4, z_5, z_b, z_6, z_7, z_8, z_9, z_0]
       have HN := y_ (h2.setAll p.1.cells (by rw [cells_length p.1 HD, cells_length _ none_dig]))
       have XN := y_ (X.out.trans_but (But.setCells g2 p.1.cells 0 wi) l2)
       generalize wi.setCells g2 0 p.1.cells = wn at *
       clear h2 hyo H2 X HY
       go_wp2_with fail
       exact bodyPost_ret (results_row2 rfl _ _ g2 39 (p.1.cells).toArray (0, 0) _ rfl HN.out undS rfl (by rw [z_a, cells_length _ HD]; exact size38)) rfl ⟨by rw [HV.out]; rfl, XN.out⟩
     | false =>
       have HV : Hid (parseV s.data.toList = .tuple #[.agg S.none.cells.toArray, .bool false]) := by
        show parseV _ = _
        unfold parseV parse
        rw [HR.out, if_neg (by rw [hg]; simp)]
       rw [hg] at CG
       clear HR HST HS hg
       go_upto_region 12 with (fail)
       refine wp_region_lit ?_
       repeat (first | refine wpList_ldr rfl _ _ rfl g5 rfl _ _ _ HY undS (by rw [cells_length p.1 HD]; exact size38) ?_ | go_step)
       refine (CG.out).mono ?_
       rintro e wj ⟨rfl, xg⟩
       have xj := But.of_ext (g := g4) xg
       have hj : True := trivial
       clear xg c0 c1 p0 p1 p2 p3 CG
       have HYn := y_ (HY.out.but xj (by omega))
       have H6n := y_ (H6.out.but xj (by omega))
       have H2n := y_ (H2.out.but xj (by omega))
       have Xn := y_ (X.out.trans_but xj l4)
       have HSn := y_ hj
       clear hj xj HS HY H6 H2 X
       clear wi
       have HS := HSn
       have HY := HYn
       have H6 := H6n
       have H2 := H2n
       have X := Xn
       clear HSn HYn H6n H2n Xn
       generalize wj = wi at *
       clear HS
       rename_i hK
       refine hK _ _ ?_
       go_upto_region 13 with (fail)
       refine wp_region_lit ?_
       refine wpList_val rfl (.agg S.none.cells.toArray) (by as_aux_lemma => kernel_rfl) ?_
       simp only [z_1, z_2, z_3, z_4, z_5, z_b, z_6, z_7, z_8, z_9, z_0]
       have h2 := H2.out
       refine wpList_store_mid rfl 39 _ _ rfl g2 0 ((S.none).cells).toArray rfl ?_ (h2.there _ (by have e1 := cells_length _ none_dig; have e2 := cells_length _ none_dig; rw [z_a]; omega)) (by rw [z_a, cells_length _ none_dig]; exact size38) (all_oneCell_toArray (oneS _)) ?_
       ·rfl
       simp only [z_c]
       simp only [z_1, z_2, z_3, z_4, z_5, z_b, z_6, z_7, z_8, z_9, z_0]
       have HN := y_ (h2.setAll S.none.cells rfl)
       have XN := y_ (X.out.trans_but (But.setCells g2 S.none.cells 0 wi) l2)
       generalize wi.setCells g2 0 S.none.cells = wn at *
       clear h2 H2 X
       go_wp2_with fail
       exact bodyPost_ret (results_row2 rfl _ _ g2 39 (S.none.cells).toArray (0, 0) _ rfl HN.out undS rfl (by rw [z_a, cells_length _ none_dig]; exact size38)) rfl ⟨by rw [HV.out]; rfl, XN.out⟩
    ·have HV : Hid (parseV s.data.toList = .tuple #[.agg S.none.cells.toArray, .bool false]) := by
      show parseV _ = _
      unfold parseV parse
      rw [HR.out, if_neg (by
       rw [HST.out]
       simp only [Bool.false_eq_true, if_false, Option.some.injEq]
       intro hh
       exact hr0 (ba_ext (by rw [hh.1])))]
     have dne : (r.toList == []) = false := by
      rw [ByteArray.toList_eq, Bool.eq_false_iff, ne_eq, beq_iff_eq]
      intro e
      exact hr0 (ba_ext e)
     clear HR HST HS hr0
     go_upto_region 13 with (fail)
     refine wp_region_lit ?_
     refine wpList_val rfl (.agg S.none.cells.toArray) (by as_aux_lemma => kernel_rfl) ?_
     simp only [z_1, z_2, z_3, z_4, z_5, z_b, z_6, z_7, z_8, z_9, z_0]
     have h2 := H2.out
     refine wpList_store_mid rfl 39 _ _ rfl g2 0 ((S.none).cells).toArray rfl ?_ (h2.there _ (by have e1 := cells_length _ none_dig; have e2 := cells_length _ none_dig; rw [z_a]; omega)) (by rw [z_a, cells_length _ none_dig]; exact size38) (all_oneCell_toArray (oneS _)) ?_
     ·rfl
     simp only [z_c]
     simp only [z_1, z_2, z_3, z_4, z_5, z_b, z_6, z_7, z_8, z_9, z_0]
     have HN := y_ (h2.setAll S.none.cells rfl)
     have XN := y_ (X.out.trans_but (But.setCells g2 S.none.cells 0 wi) l2)
     generalize wi.setCells g2 0 S.none.cells = wn at *
     clear h2 H2 X
     go_wp2_with fail
     exact bodyPost_ret (results_row2 rfl _ _ g2 39 (S.none.cells).toArray (0, 0) _ rfl HN.out undS rfl (by rw [z_a, cells_length _ none_dig]; exact size38)) rfl ⟨by rw [HV.out]; rfl, XN.out⟩
  -- B}
 ·
  -- {C
  have HR : Hid (parsed s.data.toList = pNames p) := HR
  rw [show (F.cells ⟨true, false, false, false⟩) = [.bool true, .bool false, .bool false, .bool false] from rfl]
  go_upto_region 4 with (fail)
  have hb6 : Blk (w6.alloc (Obj.cells #[Value.bool true, Value.bool false, Value.bool false, Value.bool false] 114)) w6.heap.size 114 [.bool true, .bool false, .bool false, .bool false] := Blk.new w6 114 #[Value.bool true, Value.bool false, Value.bool false, Value.bool false]
  have hx6 := Reg.Ext.alloc w6 (Obj.cells #[Value.bool true, Value.bool false, Value.bool false, Value.bool false] 114)
  have lt5 := HY.out.lt
  have ltx := X.out.size
  have HYn := y_ (HY.out.ext hx6)
  have H2n := y_ (H2.out.ext hx6)
  have HSn := y_ (HS.out.ext hx6)
  have Xn := y_ (X.out.trans hx6)
  clear HY H2 HS X hx6
  have HY := HYn
  have H2 := H2n
  have HS := HSn
  have X := Xn
  clear HYn H2n HSn Xn
  generalize w6.alloc (Obj.cells #[Value.bool true, Value.bool false, Value.bool false, Value.bool false] 114) = wi at *
  generalize hg6 : w6.heap.size = g6 at *
  have H6 := y_ hb6
  clear hb6
  have l6 : g5 < g6 := lt5
  clear lt5 ltx hg6
  have p0 : wi.cell? ⟨g6, 0, none⟩ = some (.bool true) := H6.out.cell 0
  have p1 : wi.cell? ⟨g6, 1, none⟩ = some (.bool false) := H6.out.cell 1
  have p2 : wi.cell? ⟨g6, 2, none⟩ = some (.bool false) := H6.out.cell 2
  have p3 : wi.cell? ⟨g6, 3, none⟩ = some (.bool false) := H6.out.cell 3
  go_wp2_with fail
  refine (text_any g4 _ wi HS.out).mono ?_
  rintro e wj ⟨rfl, hj, xj⟩
  clear p0 p1 p2 p3
  have HYn := y_ (HY.out.but xj (by omega))
  have H6n := y_ (H6.out.but xj (by omega))
  have H2n := y_ (H2.out.but xj (by omega))
  have Xn := y_ (X.out.trans_but xj l4)
  have HSn := y_ hj
  clear hj xj HS HY H6 H2 X
  clear wi
  have HS := HSn
  have HY := HYn
  have H6 := H6n
  have H2 := H2n
  have X := Xn
  clear HSn HYn H6n H2n Xn
  generalize wj = wi at *
  go_wp2_with fail
  refine (text_any g4 _ wi HS.out).mono ?_
  rintro e wj ⟨rfl, hj, xj⟩
  skip
  have HYn := y_ (HY.out.but xj (by omega))
  have H6n := y_ (H6.out.but xj (by omega))
  have H2n := y_ (H2.out.but xj (by omega))
  have Xn := y_ (X.out.trans_but xj l4)
  have HSn := y_ hj
  clear hj xj HS HY H6 H2 X
  clear wi
  have HS := HSn
  have HY := HYn
  have H6 := H6n
  have H2 := H2n
  have X := Xn
  clear HSn HYn H6n H2n Xn
  generalize wj = wi at *
  have r1 : wi.cell? ⟨g5, 1, none⟩ = some (.string p.1.repo) := HY.out.cell 1
  have r2 : wi.cell? ⟨g5, 2, none⟩ = some (.string p.1.tag) := HY.out.cell 2
  have f1 := HY.out.frozen 1
  have f2 := HY.out.frozen 2
  have hs := (HY.out.set_ 1 (.string ⟨(textS p.2).1.toArray⟩)).set_ 2 (.string ⟨(textS (textS p.2).2).1.toArray⟩)
  rw [set1, set2] at hs
  have hbx := (But.set_ g5 wi 1 (.string ⟨(textS p.2).1.toArray⟩)).trans (But.set_ g5 _ 2 (.string ⟨(textS (textS p.2).2).1.toArray⟩))
  have HSn : Hid (At g4 (pNames p).2 wi) := HS.out
  have HYn : Hid (Blk ((wi.setCell ⟨g5, 1, none⟩ (.string ⟨(textS p.2).1.toArray⟩)).setCell ⟨g5, 2, none⟩ (.string ⟨(textS (textS p.2).2).1.toArray⟩)) g5 39 (pNames p).1.cells) := hs
  have HDn : (pNames p).1.dig.length = 32 := HD
  have HSn := y_ (At.but HSn.out hbx (by omega))
  have H6n := y_ (H6.out.but hbx (by omega))
  have H2n := y_ (H2.out.but hbx (by omega))
  have Xn := y_ (X.out.trans_but hbx l5)
  go_upto_region 6 with (fail)
  clear r1 r2 f1 f2
  clear hs hbx HS HY HD H6 H2 X
  generalize ((wi.setCell ⟨g5, 1, none⟩ (.string ⟨(textS p.2).1.toArray⟩)).setCell ⟨g5, 2, none⟩ (.string ⟨(textS (textS p.2).2).1.toArray⟩)) = wi at *
  generalize pNames p = p at *
  have HS := HSn
  have HY := HYn
  have HD := HDn
  have H6 := H6n
  have H2 := H2n
  have X := Xn
  clear HSn HYn HDn H6n H2n Xn
  have p0 : wi.cell? ⟨g6, 0, none⟩ = some (.bool true) := H6.out.cell 0
  have p1 : wi.cell? ⟨g6, 1, none⟩ = some (.bool false) := H6.out.cell 1
  have p2 : wi.cell? ⟨g6, 2, none⟩ = some (.bool false) := H6.out.cell 2
  have p3 : wi.cell? ⟨g6, 3, none⟩ = some (.bool false) := H6.out.cell 3
  obtain ⟨r, bad, hb, hr, hst⟩ := HS.out
  have c0 : wi.cell? ⟨g4, 0, none⟩ = some (.string r) := hb.cell 0
  have c1 : wi.cell? ⟨g4, 1, none⟩ = some (.bool bad) := hb.cell 1
  have HST := y_ hst
  clear hb hr hst
  cases bad with
  | true =>
    have HV : Hid (parseV s.data.toList = .tuple #[.agg S.none.cells.toArray, .bool false]) := by
     show parseV _ = _
     unfold parseV parse
     rw [HR.out, if_neg (by rw [HST.out]; simp)]
    clear HR HST HS
    go_upto_region 13 with (fail)
    refine wp_region_lit ?_
    refine wpList_val rfl (.agg S.none.cells.toArray) (by as_aux_lemma => kernel_rfl) ?_
    simp only [z_1, z_2, z_3, z_4, z_5, z_b, z_6, z_7, z_8, z_9, z_0]
    have h2 := H2.out
    refine wpList_store_mid rfl 39 _ _ rfl g2 0 ((S.none).cells).toArray rfl ?_ (h2.there _ (by have e1 := cells_length _ none_dig; have e2 := cells_length _ none_dig; rw [z_a]; omega)) (by rw [z_a, cells_length _ none_dig]; exact size38) (all_oneCell_toArray (oneS _)) ?_
    ·rfl
    simp only [z_c]
    simp only [z_1, z_2, z_3, z_4, z_5, z_b, z_6, z_7, z_8, z_9, z_0]
    have HN := y_ (h2.setAll S.none.cells rfl)
    have XN := y_ (X.out.trans_but (But.setCells g2 S.none.cells 0 wi) l2)
    generalize wi.setCells g2 0 S.none.cells = wn at *
    clear h2 H2 X
    go_wp2_with fail
    exact bodyPost_ret (results_row2 rfl _ _ g2 39 (S.none.cells).toArray (0, 0) _ rfl HN.out undS rfl (by rw [z_a, cells_length _ none_dig]; exact size38)) rfl ⟨by rw [HV.out]; rfl, XN.out⟩
  | false =>
    by_cases hr0 : r = ⟨#[]⟩
    ·subst hr0
     have CG := y_ (good_any p.1 HD wi)
     cases hg : good p.1 with
     | true =>
       have HV : Hid (parseV s.data.toList = .tuple #[.agg p.1.cells.toArray, .bool true]) := by
        show parseV _ = _
        unfold parseV parse
        rw [HR.out, if_pos ⟨by rw [HST.out]; simp, hg⟩]
       rw [hg] at CG
       clear HR HST HS hg
       go_upto_region 12 with (fail)
       refine wp_region_lit ?_
       repeat (first | refine wpList_ldr rfl _ _ rfl g5 rfl _ _ _ HY undS (by rw [cells_length p.1 HD]; exact size38) ?_ | go_step)
       refine (CG.out).mono ?_
       rintro e wj ⟨rfl, xg⟩
       have xj := But.of_ext (g := g4) xg
       have hj : True := trivial
       clear xg c0 c1 p0 p1 p2 p3 CG
       have HYn := y_ (HY.out.but xj (by omega))
       have H6n := y_ (H6.out.but xj (by omega))
       have H2n := y_ (H2.out.but xj (by omega))
       have Xn := y_ (X.out.trans_but xj l4)
       have HSn := y_ hj
       clear hj xj HS HY H6 H2 X
       clear wi
       have HS := HSn
       have HY := HYn
       have H6 := H6n
       have H2 := H2n
       have X := Xn
       clear HSn HYn H6n H2n Xn
       generalize wj = wi at *
       clear HS
       rename_i hK
       refine hK _ _ ?_
       go_upto_region 14 with (fail)
       refine wp_region_lit ?_
       have hyo := HY.out
       have h2 := H2.out
       refine wpList_load_row rfl 39 _ rfl g5 rfl 39 (p.1.cells).toArray (0, 0) _ hyo undS rfl (by rw [z_a, cells_length p.1 HD]; exact size38) ?_
       simp only [z_1, z_2, z_3, z_4, z_5, z_b, z_6, z_7, z_8, z_9, z_0]
       refine wpList_store_mid rfl 39 _ _ rfl g2 0 ((p.1).cells).toArray rfl ?_ (h2.there _ (by have e1 := cells_length _ HD; have e2 := cells_length _ none_dig; rw [z_a]; omega)) (by rw [z_a, cells_length _ HD]; exact size38) (all_oneCell_toArray (oneS _)) ?_
       ·rfl
       simp only [z_c]
       simp only [z_1, z_2, z_3, z_4, z_5, z_b, z_6, z_7, z_8, z_9, z_0]
       have HN := y_ (h2.setAll p.1.cells (by rw [cells_length p.1 HD, cells_length _ none_dig]))
       have XN := y_ (X.out.trans_but (But.setCells g2 p.1.cells 0 wi) l2)
       generalize wi.setCells g2 0 p.1.cells = wn at *
       clear h2 hyo H2 X HY
       go_wp2_with fail
       exact bodyPost_ret (results_row2 rfl _ _ g2 39 (p.1.cells).toArray (0, 0) _ rfl HN.out undS rfl (by rw [z_a, cells_length _ HD]; exact size38)) rfl ⟨by rw [HV.out]; rfl, XN.out⟩
     | false =>
       have HV : Hid (parseV s.data.toList = .tuple #[.agg S.none.cells.toArray, .bool false]) := by
        show parseV _ = _
        unfold parseV parse
        rw [HR.out, if_neg (by rw [hg]; simp)]
       rw [hg] at CG
       clear HR HST HS hg
       go_upto_region 12 with (fail)
       refine wp_region_lit ?_
       repeat (first | refine wpList_ldr rfl _ _ rfl g5 rfl _ _ _ HY undS (by rw [cells_length p.1 HD]; exact size38) ?_ | go_step)
       refine (CG.out).mono ?_
       rintro e wj ⟨rfl, xg⟩
       have xj := But.of_ext (g := g4) xg
       have hj : True := trivial
       clear xg c0 c1 p0 p1 p2 p3 CG
       have HYn := y_ (HY.out.but xj (by omega))
       have H6n := y_ (H6.out.but xj (by omega))
       have H2n := y_ (H2.out.but xj (by omega))
       have Xn := y_ (X.out.trans_but xj l4)
       have HSn := y_ hj
       clear hj xj HS HY H6 H2 X
       clear wi
       have HS := HSn
       have HY := HYn
       have H6 := H6n
       have H2 := H2n
       have X := Xn
       clear HSn HYn H6n H2n Xn
       generalize wj = wi at *
       clear HS
       rename_i hK
       refine hK _ _ ?_
       go_upto_region 13 with (fail)
       refine wp_region_lit ?_
       refine wpList_val rfl (.agg S.none.cells.toArray) (by as_aux_lemma => kernel_rfl) ?_
       simp only [z_1, z_2, z_3, z_4, z_5, z_b, z_6, z_7, z_8, z_9, z_0]
       have h2 := H2.out
       refine wpList_store_mid rfl 39 _ _ rfl g2 0 ((S.none).cells).toArray rfl ?_ (h2.there _ (by have e1 := cells_length _ none_dig; have e2 := cells_length _ none_dig; rw [z_a]; omega)) (by rw [z_a, cells_length _ none_dig]; exact size38) (all_oneCell_toArray (oneS _)) ?_
       ·rfl
       simp only [z_c]
       simp only [z_1, z_2, z_3, z_4, z_5, z_b, z_6, z_7, z_8, z_9, z_0]
       have HN := y_ (h2.setAll S.none.cells rfl)
       have XN := y_ (X.out.trans_but (But.setCells g2 S.none.cells 0 wi) l2)
       generalize wi.setCells g2 0 S.none.cells = wn at *
       clear h2 H2 X
       go_wp2_with fail
       exact bodyPost_ret (results_row2 rfl _ _ g2 39 (S.none.cells).toArray (0, 0) _ rfl HN.out undS rfl (by rw [z_a, cells_length _ none_dig]; exact size38)) rfl ⟨by rw [HV.out]; rfl, XN.out⟩
    ·have HV : Hid (parseV s.data.toList = .tuple #[.agg S.none.cells.toArray, .bool false]) := by
      show parseV _ = _
      unfold parseV parse
      rw [HR.out, if_neg (by
       rw [HST.out]
       simp only [Bool.false_eq_true, if_false, Option.some.injEq]
       intro hh
       exact hr0 (ba_ext (by rw [hh.1])))]
     have dne : (r.toList == []) = false := by
      rw [ByteArray.toList_eq, Bool.eq_false_iff, ne_eq, beq_iff_eq]
      intro e
      exact hr0 (ba_ext e)
     clear HR HST HS hr0
     go_upto_region 13 with (fail)
     refine wp_region_lit ?_
     refine wpList_val rfl (.agg S.none.cells.toArray) (by as_aux_lemma => kernel_rfl) ?_
     simp only [z_1, z_2, z_3, z_4, z_5, z_b, z_6, z_7, z_8, z_9, z_0]
     have h2 := H2.out
     refine wpList_store_mid rfl 39 _ _ rfl g2 0 ((S.none).cells).toArray rfl ?_ (h2.there _ (by have e1 := cells_length _ none_dig; have e2 := cells_length _ none_dig; rw [z_a]; omega)) (by rw [z_a, cells_length _ none_dig]; exact size38) (all_oneCell_toArray (oneS _)) ?_
     ·rfl
     simp only [z_c]
     simp only [z_1, z_2, z_3, z_4, z_5, z_b, z_6, z_7, z_8, z_9, z_0]
     have HN := y_ (h2.setAll S.none.cells rfl)
     have XN := y_ (X.out.trans_but (But.setCells g2 S.none.cells 0 wi) l2)
     generalize wi.setCells g2 0 S.none.cells = wn at *
     clear h2 H2 X
     go_wp2_with fail
     exact bodyPost_ret (results_row2 rfl _ _ g2 39 (S.none.cells).toArray (0, 0) _ rfl HN.out undS rfl (by rw [z_a, cells_length _ none_dig]; exact size38)) rfl ⟨by rw [HV.out]; rfl, XN.out⟩
  -- C}
 ·
  -- {D
  have HR : Hid (parsed s.data.toList = pThing (pDig p)) := HR
  rw [show (F.cells ⟨false, true, true, false⟩) = [.bool false, .bool true, .bool true, .bool false] from rfl]
  go_upto_region 4 with (fail)
  have hb6 : Blk (w6.alloc (Obj.cells #[Value.bool false, Value.bool true, Value.bool true, Value.bool false] 114)) w6.heap.size 114 [.bool false, .bool true, .bool true, .bool false] := Blk.new w6 114 #[Value.bool false, Value.bool true, Value.bool true, Value.bool false]
  have hx6 := Reg.Ext.alloc w6 (Obj.cells #[Value.bool false, Value.bool true, Value.bool true, Value.bool false] 114)
  have lt5 := HY.out.lt
  have ltx := X.out.size
  have HYn := y_ (HY.out.ext hx6)
  have H2n := y_ (H2.out.ext hx6)
  have HSn := y_ (HS.out.ext hx6)
  have Xn := y_ (X.out.trans hx6)
  clear HY H2 HS X hx6
  have HY := HYn
  have H2 := H2n
  have HS := HSn
  have X := Xn
  clear HYn H2n HSn Xn
  generalize w6.alloc (Obj.cells #[Value.bool false, Value.bool true, Value.bool true, Value.bool false] 114) = wi at *
  generalize hg6 : w6.heap.size = g6 at *
  have H6 := y_ hb6
  clear hb6
  have l6 : g5 < g6 := lt5
  clear lt5 ltx hg6
  have p0 : wi.cell? ⟨g6, 0, none⟩ = some (.bool false) := H6.out.cell 0
  have p1 : wi.cell? ⟨g6, 1, none⟩ = some (.bool true) := H6.out.cell 1
  have p2 : wi.cell? ⟨g6, 2, none⟩ = some (.bool true) := H6.out.cell 2
  have p3 : wi.cell? ⟨g6, 3, none⟩ = some (.bool false) := H6.out.cell 3
  go_wp2_with fail
  refine wp_region_held (S := Drawn.One) (by kernel_rfl) ?_
  refine wpAnyH_take (i := 0) rfl (by kernel_rfl) (by kernel_rfl) (by kernel_rfl) (fun _ _ _ h => h) (v := .pointer (some ⟨g5, 3, none⟩)) (.inl ⟨rfl, fun w _ => by as_aux_lemma => kernel_rfl⟩) trivial ?_
  simp only [z_1, z_2, z_3, z_4, z_5, z_b, z_6, z_7, z_8, z_9, z_0]
  refine wpAnyH_take (i := 1) rfl (by kernel_rfl) (by kernel_rfl) (by kernel_rfl) (fun _ _ _ h => h) (v := .slice (some ⟨g5, 3, none⟩) 32 32) (.inl ⟨rfl, fun w _ => by as_aux_lemma => kernel_rfl⟩) trivial ?_
  simp only [z_1, z_2, z_3, z_4, z_5, z_b, z_6, z_7, z_8, z_9, z_0]
  refine wpAnyH_take (i := 2) rfl (by kernel_rfl) (by kernel_rfl) (by kernel_rfl) (fun _ _ _ h => h) (v := .pointer (some ⟨g4, 0, none⟩)) (.inl ⟨rfl, fun w _ => by as_aux_lemma => kernel_rfl⟩) trivial ?_
  simp only [z_1, z_2, z_3, z_4, z_5, z_b, z_6, z_7, z_8, z_9, z_0]
  refine Drawn.of_list [3, 4] [_, _] _ _ _ _ rfl (by kernel_rfl) (by decide) ?_
  change wpList _ _ _ _ _ wi.drew
  repeat go_step
  have HTL := y_ (take_len 32 p.2)
  refine (take_any g4 p.2 32 wi.drew (HS.out.ext (Reg.Ext.drew _)) (by decide)).mono ?_
  rintro e wj ⟨rfl, hj, xj'⟩
  rename_i hK
  refine hK _ _ ?_
  have xj := (But.of_ext (g := g4) (Reg.Ext.drew wi)).trans xj'
  clear xj' p0 p1 p2 p3
  have HYn := y_ (HY.out.but xj (by omega))
  have H6n := y_ (H6.out.but xj (by omega))
  have H2n := y_ (H2.out.but xj (by omega))
  have Xn := y_ (X.out.trans_but xj l4)
  have HSn := y_ hj
  clear hj xj HS HY H6 H2 X
  clear wi
  have HS := HSn
  have HY := HYn
  have H6 := H6n
  have H2 := H2n
  have X := Xn
  clear HSn HYn H6n H2n Xn
  generalize wj = wi at *
  have hyo := HY.out
  obtain ⟨t, ht⟩ : ∃ t : ByteArray, t = ⟨(take 32 p.2).1.toArray⟩ := ⟨_, rfl⟩
  have htl : t.data.toList = (take 32 p.2).1 := by rw [ht]
  have hts : t.size = (take 32 p.2).1.length := by rw [← htl, len_data]
  rw [← ht]
  refine wpList_copy_str rfl _ _ 84 9 rfl 5 Tryz.underlying84 (fun _ => by as_aux_lemma => kernel_rfl) g5 3 32 32 rfl t rfl (fun j hj => (there_dig hyo HD j (by omega)).1) (fun j hj => hyo.frozen _) ?_
  have hs : Blk (wi.setCells g5 3 ((t.data.toList.take (min t.size 32)).map byteV)) g5 39 (pDig p).1.cells := by
   rw [htl, hts]
   unfold pDig
   rcases HTL.out with h1 | h1
   ·rw [h1, List.take_of_length_le (by rw [h1]; decide), if_neg (by intro e; rw [e] at h1; cases h1)]
    exact put_dig hyo _ (h1.trans HD.symm)
   ·rw [h1, if_pos rfl]
    exact hyo
  have hbx := But.setCells g5 ((t.data.toList.take (min t.size 32)).map byteV) 3 wi
  clear htl hts ht hyo
  have HSn : Hid (At g4 (pDig p).2 wi) := HS.out
  have HYn : Hid (Blk (wi.setCells g5 3 ((t.data.toList.take (min t.size 32)).map byteV)) g5 39 (pDig p).1.cells) := hs
  have HDn : (pDig p).1.dig.length = 32 := pDig_len p HD
  have HSn := y_ (At.but HSn.out hbx (by omega))
  have H6n := y_ (H6.out.but hbx (by omega))
  have H2n := y_ (H2.out.but hbx (by omega))
  have Xn := y_ (X.out.trans_but hbx l5)
  simp only [z_1, z_2, z_3, z_4, z_5, z_b, z_6, z_7, z_8, z_9, z_0]
  clear hs hbx HS HY HD H6 H2 X
  generalize (wi.setCells g5 3 ((t.data.toList.take (min t.size 32)).map byteV)) = wi at *
  generalize pDig p = p at *
  have HS := HSn
  have HY := HYn
  have HD := HDn
  have H6 := H6n
  have H2 := H2n
  have X := Xn
  clear HSn HYn HDn H6n H2n Xn
  clear HTL
  have p0 : wi.cell? ⟨g6, 0, none⟩ = some (.bool false) := H6.out.cell 0
  have p1 : wi.cell? ⟨g6, 1, none⟩ = some (.bool true) := H6.out.cell 1
  have p2 : wi.cell? ⟨g6, 2, none⟩ = some (.bool true) := H6.out.cell 2
  have p3 : wi.cell? ⟨g6, 3, none⟩ = some (.bool false) := H6.out.cell 3
  go_wp2_with fail
  refine (text_any g4 _ wi HS.out).mono ?_
  rintro e wj ⟨rfl, hj, xj⟩
  clear p0 p1 p2 p3
  have HYn := y_ (HY.out.but xj (by omega))
  have H6n := y_ (H6.out.but xj (by omega))
  have H2n := y_ (H2.out.but xj (by omega))
  have Xn := y_ (X.out.trans_but xj l4)
  have HSn := y_ hj
  clear hj xj HS HY H6 H2 X
  clear wi
  have HS := HSn
  have HY := HYn
  have H6 := H6n
  have H2 := H2n
  have X := Xn
  clear HSn HYn H6n H2n Xn
  generalize wj = wi at *
  go_wp2_with fail
  refine (number_any g4 _ wi HS.out).mono ?_
  rintro e wj ⟨rfl, hj, xj⟩
  skip
  have HYn := y_ (HY.out.but xj (by omega))
  have H6n := y_ (H6.out.but xj (by omega))
  have H2n := y_ (H2.out.but xj (by omega))
  have Xn := y_ (X.out.trans_but xj l4)
  have HSn := y_ hj
  clear hj xj HS HY H6 H2 X
  clear wi
  have HS := HSn
  have HY := HYn
  have H6 := H6n
  have H2 := H2n
  have X := Xn
  clear HSn HYn H6n H2n Xn
  generalize wj = wi at *
  have r1 : wi.cell? ⟨g5, 35, none⟩ = some (.string p.1.typ) := by rw [HY.out.cell, at35 p.1 HD]
  have r2 : wi.cell? ⟨g5, 36, none⟩ = some (.int .i64 p.1.size) := by rw [HY.out.cell, at36 p.1 HD]
  have f1 := HY.out.frozen 35
  have f2 := HY.out.frozen 36
  have hs0 := HY.out.set_ 35 (.string ⟨(textS p.2).1.toArray⟩)
  rw [set35 p.1 HD] at hs0
  have hs := hs0.set_ 36 (.int .i64 ((numS (textS p.2).2).1 : Int))
  rw [set36 ({ p.1 with typ := ⟨(textS p.2).1.toArray⟩ } : S) HD] at hs
  clear hs0
  have hbx := (But.set_ g5 wi 35 (.string ⟨(textS p.2).1.toArray⟩)).trans (But.set_ g5 _ 36 (.int .i64 ((numS (textS p.2).2).1 : Int)))
  have HSn : Hid (At g4 (pThing p).2 wi) := HS.out
  have HYn : Hid (Blk ((wi.setCell ⟨g5, 35, none⟩ (.string ⟨(textS p.2).1.toArray⟩)).setCell ⟨g5, 36, none⟩ (.int .i64 ((numS (textS p.2).2).1 : Int))) g5 39 (pThing p).1.cells) := hs
  have HDn : (pThing p).1.dig.length = 32 := HD
  have HSn := y_ (At.but HSn.out hbx (by omega))
  have H6n := y_ (H6.out.but hbx (by omega))
  have H2n := y_ (H2.out.but hbx (by omega))
  have Xn := y_ (X.out.trans_but hbx l5)
  go_upto_region 10 with (fail)
  clear r1 r2 f1 f2
  clear hs hbx HS HY HD H6 H2 X
  generalize ((wi.setCell ⟨g5, 35, none⟩ (.string ⟨(textS p.2).1.toArray⟩)).setCell ⟨g5, 36, none⟩ (.int .i64 ((numS (textS p.2).2).1 : Int))) = wi at *
  generalize pThing p = p at *
  have HS := HSn
  have HY := HYn
  have HD := HDn
  have H6 := H6n
  have H2 := H2n
  have X := Xn
  clear HSn HYn HDn H6n H2n Xn
  have p0 : wi.cell? ⟨g6, 0, none⟩ = some (.bool false) := H6.out.cell 0
  have p1 : wi.cell? ⟨g6, 1, none⟩ = some (.bool true) := H6.out.cell 1
  have p2 : wi.cell? ⟨g6, 2, none⟩ = some (.bool true) := H6.out.cell 2
  have p3 : wi.cell? ⟨g6, 3, none⟩ = some (.bool false) := H6.out.cell 3
  obtain ⟨r, bad, hb, hr, hst⟩ := HS.out
  have c0 : wi.cell? ⟨g4, 0, none⟩ = some (.string r) := hb.cell 0
  have c1 : wi.cell? ⟨g4, 1, none⟩ = some (.bool bad) := hb.cell 1
  have HST := y_ hst
  clear hb hr hst
  cases bad with
  | true =>
    have HV : Hid (parseV s.data.toList = .tuple #[.agg S.none.cells.toArray, .bool false]) := by
     show parseV _ = _
     unfold parseV parse
     rw [HR.out, if_neg (by rw [HST.out]; simp)]
    clear HR HST HS
    go_upto_region 13 with (fail)
    refine wp_region_lit ?_
    refine wpList_val rfl (.agg S.none.cells.toArray) (by as_aux_lemma => kernel_rfl) ?_
    simp only [z_1, z_2, z_3, z_4, z_5, z_b, z_6, z_7, z_8, z_9, z_0]
    have h2 := H2.out
    refine wpList_store_mid rfl 39 _ _ rfl g2 0 ((S.none).cells).toArray rfl ?_ (h2.there _ (by have e1 := cells_length _ none_dig; have e2 := cells_length _ none_dig; rw [z_a]; omega)) (by rw [z_a, cells_length _ none_dig]; exact size38) (all_oneCell_toArray (oneS _)) ?_
    ·rfl
    simp only [z_c]
    simp only [z_1, z_2, z_3, z_4, z_5, z_b, z_6, z_7, z_8, z_9, z_0]
    have HN := y_ (h2.setAll S.none.cells rfl)
    have XN := y_ (X.out.trans_but (But.setCells g2 S.none.cells 0 wi) l2)
    generalize wi.setCells g2 0 S.none.cells = wn at *
    clear h2 H2 X
    go_wp2_with fail
    exact bodyPost_ret (results_row2 rfl _ _ g2 39 (S.none.cells).toArray (0, 0) _ rfl HN.out undS rfl (by rw [z_a, cells_length _ none_dig]; exact size38)) rfl ⟨by rw [HV.out]; rfl, XN.out⟩
  | false =>
    by_cases hr0 : r = ⟨#[]⟩
    ·subst hr0
     have CG := y_ (good_any p.1 HD wi)
     cases hg : good p.1 with
     | true =>
       have HV : Hid (parseV s.data.toList = .tuple #[.agg p.1.cells.toArray, .bool true]) := by
        show parseV _ = _
        unfold parseV parse
        rw [HR.out, if_pos ⟨by rw [HST.out]; simp, hg⟩]
       rw [hg] at CG
       clear HR HST HS hg
       go_upto_region 12 with (fail)
       refine wp_region_lit ?_
       repeat (first | refine wpList_ldr rfl _ _ rfl g5 rfl _ _ _ HY undS (by rw [cells_length p.1 HD]; exact size38) ?_ | go_step)
       refine (CG.out).mono ?_
       rintro e wj ⟨rfl, xg⟩
       have xj := But.of_ext (g := g4) xg
       have hj : True := trivial
       clear xg c0 c1 p0 p1 p2 p3 CG
       have HYn := y_ (HY.out.but xj (by omega))
       have H6n := y_ (H6.out.but xj (by omega))
       have H2n := y_ (H2.out.but xj (by omega))
       have Xn := y_ (X.out.trans_but xj l4)
       have HSn := y_ hj
       clear hj xj HS HY H6 H2 X
       clear wi
       have HS := HSn
       have HY := HYn
       have H6 := H6n
       have H2 := H2n
       have X := Xn
       clear HSn HYn H6n H2n Xn
       generalize wj = wi at *
       clear HS
       rename_i hK
       refine hK _ _ ?_
       go_upto_region 14 with (fail)
       refine wp_region_lit ?_
       have hyo := HY.out
       have h2 := H2.out
       refine wpList_load_row rfl 39 _ rfl g5 rfl 39 (p.1.cells).toArray (0, 0) _ hyo undS rfl (by rw [z_a, cells_length p.1 HD]; exact size38) ?_
       simp only [z_1, z_2, z_3, z_4, z_5, z_b, z_6, z_7, z_8, z_9, z_0]
       refine wpList_store_mid rfl 39 _ _ rfl g2 0 ((p.1).cells).toArray rfl ?_ (h2.there _ (by have e1 := cells_length _ HD; have e2 := cells_length _ none_dig; rw [z_a]; omega)) (by rw [z_a, cells_length _ HD]; exact size38) (all_oneCell_toArray (oneS _)) ?_
       ·rfl
       simp only [z_c]
       simp only [z_1, z_2, z_3, z_4, z_5, z_b, z_6, z_7, z_8, z_9, z_0]
       have HN := y_ (h2.setAll p.1.cells (by rw [cells_length p.1 HD, cells_length _ none_dig]))
       have XN := y_ (X.out.trans_but (But.setCells g2 p.1.cells 0 wi) l2)
       generalize wi.setCells g2 0 p.1.cells = wn at *
       clear h2 hyo H2 X HY
       go_wp2_with fail
       exact bodyPost_ret (results_row2 rfl _ _ g2 39 (p.1.cells).toArray (0, 0) _ rfl HN.out undS rfl (by rw [z_a, cells_length _ HD]; exact size38)) rfl ⟨by rw [HV.out]; rfl, XN.out⟩
     | false =>
       have HV : Hid (parseV s.data.toList = .tuple #[.agg S.none.cells.toArray, .bool false]) := by
        show parseV _ = _
        unfold parseV parse
        rw [HR.out, if_neg (by rw [hg]; simp)]
       rw [hg] at CG
       clear HR HST HS hg
       go_upto_region 12 with (fail)
       refine wp_region_lit ?_
       repeat (first | refine wpList_ldr rfl _ _ rfl g5 rfl _ _ _ HY undS (by rw [cells_length p.1 HD]; exact size38) ?_ | go_step)
       refine (CG.out).mono ?_
       rintro e wj ⟨rfl, xg⟩
       have xj := But.of_ext (g := g4) xg
       have hj : True := trivial
       clear xg c0 c1 p0 p1 p2 p3 CG
       have HYn := y_ (HY.out.but xj (by omega))
       have H6n := y_ (H6.out.but xj (by omega))
       have H2n := y_ (H2.out.but xj (by omega))
       have Xn := y_ (X.out.trans_but xj l4)
       have HSn := y_ hj
       clear hj xj HS HY H6 H2 X
       clear wi
       have HS := HSn
       have HY := HYn
       have H6 := H6n
       have H2 := H2n
       have X := Xn
       clear HSn HYn H6n H2n Xn
       generalize wj = wi at *
       clear HS
       rename_i hK
       refine hK _ _ ?_
       go_upto_region 13 with (fail)
       refine wp_region_lit ?_
       refine wpList_val rfl (.agg S.none.cells.toArray) (by as_aux_lemma => kernel_rfl) ?_
       simp only [z_1, z_2, z_3, z_4, z_5, z_b, z_6, z_7, z_8, z_9, z_0]
       have h2 := H2.out
       refine wpList_store_mid rfl 39 _ _ rfl g2 0 ((S.none).cells).toArray rfl ?_ (h2.there _ (by have e1 := cells_length _ none_dig; have e2 := cells_length _ none_dig; rw [z_a]; omega)) (by rw [z_a, cells_length _ none_dig]; exact size38) (all_oneCell_toArray (oneS _)) ?_
       ·rfl
       simp only [z_c]
       simp only [z_1, z_2, z_3, z_4, z_5, z_b, z_6, z_7, z_8, z_9, z_0]
       have HN := y_ (h2.setAll S.none.cells rfl)
       have XN := y_ (X.out.trans_but (But.setCells g2 S.none.cells 0 wi) l2)
       generalize wi.setCells g2 0 S.none.cells = wn at *
       clear h2 H2 X
       go_wp2_with fail
       exact bodyPost_ret (results_row2 rfl _ _ g2 39 (S.none.cells).toArray (0, 0) _ rfl HN.out undS rfl (by rw [z_a, cells_length _ none_dig]; exact size38)) rfl ⟨by rw [HV.out]; rfl, XN.out⟩
    ·have HV : Hid (parseV s.data.toList = .tuple #[.agg S.none.cells.toArray, .bool false]) := by
      show parseV _ = _
      unfold parseV parse
      rw [HR.out, if_neg (by
       rw [HST.out]
       simp only [Bool.false_eq_true, if_false, Option.some.injEq]
       intro hh
       exact hr0 (ba_ext (by rw [hh.1])))]
     have dne : (r.toList == []) = false := by
      rw [ByteArray.toList_eq, Bool.eq_false_iff, ne_eq, beq_iff_eq]
      intro e
      exact hr0 (ba_ext e)
     clear HR HST HS hr0
     go_upto_region 13 with (fail)
     refine wp_region_lit ?_
     refine wpList_val rfl (.agg S.none.cells.toArray) (by as_aux_lemma => kernel_rfl) ?_
     simp only [z_1, z_2, z_3, z_4, z_5, z_b, z_6, z_7, z_8, z_9, z_0]
     have h2 := H2.out
     refine wpList_store_mid rfl 39 _ _ rfl g2 0 ((S.none).cells).toArray rfl ?_ (h2.there _ (by have e1 := cells_length _ none_dig; have e2 := cells_length _ none_dig; rw [z_a]; omega)) (by rw [z_a, cells_length _ none_dig]; exact size38) (all_oneCell_toArray (oneS _)) ?_
     ·rfl
     simp only [z_c]
     simp only [z_1, z_2, z_3, z_4, z_5, z_b, z_6, z_7, z_8, z_9, z_0]
     have HN := y_ (h2.setAll S.none.cells rfl)
     have XN := y_ (X.out.trans_but (But.setCells g2 S.none.cells 0 wi) l2)
     generalize wi.setCells g2 0 S.none.cells = wn at *
     clear h2 H2 X
     go_wp2_with fail
     exact bodyPost_ret (results_row2 rfl _ _ g2 39 (S.none.cells).toArray (0, 0) _ rfl HN.out undS rfl (by rw [z_a, cells_length _ none_dig]; exact size38)) rfl ⟨by rw [HV.out]; rfl, XN.out⟩
  -- D}
 ·
  -- {E
  have HR : Hid (parsed s.data.toList = pDig p) := HR
  rw [show (F.cells ⟨false, true, false, false⟩) = [.bool false, .bool true, .bool false, .bool false] from rfl]
  go_upto_region 4 with (fail)
  have hb6 : Blk (w6.alloc (Obj.cells #[Value.bool false, Value.bool true, Value.bool false, Value.bool false] 114)) w6.heap.size 114 [.bool false, .bool true, .bool false, .bool false] := Blk.new w6 114 #[Value.bool false, Value.bool true, Value.bool false, Value.bool false]
  have hx6 := Reg.Ext.alloc w6 (Obj.cells #[Value.bool false, Value.bool true, Value.bool false, Value.bool false] 114)
  have lt5 := HY.out.lt
  have ltx := X.out.size
  have HYn := y_ (HY.out.ext hx6)
  have H2n := y_ (H2.out.ext hx6)
  have HSn := y_ (HS.out.ext hx6)
  have Xn := y_ (X.out.trans hx6)
  clear HY H2 HS X hx6
  have HY := HYn
  have H2 := H2n
  have HS := HSn
  have X := Xn
  clear HYn H2n HSn Xn
  generalize w6.alloc (Obj.cells #[Value.bool false, Value.bool true, Value.bool false, Value.bool false] 114) = wi at *
  generalize hg6 : w6.heap.size = g6 at *
  have H6 := y_ hb6
  clear hb6
  have l6 : g5 < g6 := lt5
  clear lt5 ltx hg6
  have p0 : wi.cell? ⟨g6, 0, none⟩ = some (.bool false) := H6.out.cell 0
  have p1 : wi.cell? ⟨g6, 1, none⟩ = some (.bool true) := H6.out.cell 1
  have p2 : wi.cell? ⟨g6, 2, none⟩ = some (.bool false) := H6.out.cell 2
  have p3 : wi.cell? ⟨g6, 3, none⟩ = some (.bool false) := H6.out.cell 3
  go_wp2_with fail
  refine wp_region_held (S := Drawn.One) (by kernel_rfl) ?_
  refine wpAnyH_take (i := 0) rfl (by kernel_rfl) (by kernel_rfl) (by kernel_rfl) (fun _ _ _ h => h) (v := .pointer (some ⟨g5, 3, none⟩)) (.inl ⟨rfl, fun w _ => by as_aux_lemma => kernel_rfl⟩) trivial ?_
  simp only [z_1, z_2, z_3, z_4, z_5, z_b, z_6, z_7, z_8, z_9, z_0]
  refine wpAnyH_take (i := 1) rfl (by kernel_rfl) (by kernel_rfl) (by kernel_rfl) (fun _ _ _ h => h) (v := .slice (some ⟨g5, 3, none⟩) 32 32) (.inl ⟨rfl, fun w _ => by as_aux_lemma => kernel_rfl⟩) trivial ?_
  simp only [z_1, z_2, z_3, z_4, z_5, z_b, z_6, z_7, z_8, z_9, z_0]
  refine wpAnyH_take (i := 2) rfl (by kernel_rfl) (by kernel_rfl) (by kernel_rfl) (fun _ _ _ h => h) (v := .pointer (some ⟨g4, 0, none⟩)) (.inl ⟨rfl, fun w _ => by as_aux_lemma => kernel_rfl⟩) trivial ?_
  simp only [z_1, z_2, z_3, z_4, z_5, z_b, z_6, z_7, z_8, z_9, z_0]
  refine Drawn.of_list [3, 4] [_, _] _ _ _ _ rfl (by kernel_rfl) (by decide) ?_
  change wpList _ _ _ _ _ wi.drew
  repeat go_step
  have HTL := y_ (take_len 32 p.2)
  refine (take_any g4 p.2 32 wi.drew (HS.out.ext (Reg.Ext.drew _)) (by decide)).mono ?_
  rintro e wj ⟨rfl, hj, xj'⟩
  rename_i hK
  refine hK _ _ ?_
  have xj := (But.of_ext (g := g4) (Reg.Ext.drew wi)).trans xj'
  clear xj' p0 p1 p2 p3
  have HYn := y_ (HY.out.but xj (by omega))
  have H6n := y_ (H6.out.but xj (by omega))
  have H2n := y_ (H2.out.but xj (by omega))
  have Xn := y_ (X.out.trans_but xj l4)
  have HSn := y_ hj
  clear hj xj HS HY H6 H2 X
  clear wi
  have HS := HSn
  have HY := HYn
  have H6 := H6n
  have H2 := H2n
  have X := Xn
  clear HSn HYn H6n H2n Xn
  generalize wj = wi at *
  have hyo := HY.out
  obtain ⟨t, ht⟩ : ∃ t : ByteArray, t = ⟨(take 32 p.2).1.toArray⟩ := ⟨_, rfl⟩
  have htl : t.data.toList = (take 32 p.2).1 := by rw [ht]
  have hts : t.size = (take 32 p.2).1.length := by rw [← htl, len_data]
  rw [← ht]
  refine wpList_copy_str rfl _ _ 84 9 rfl 5 Tryz.underlying84 (fun _ => by as_aux_lemma => kernel_rfl) g5 3 32 32 rfl t rfl (fun j hj => (there_dig hyo HD j (by omega)).1) (fun j hj => hyo.frozen _) ?_
  have hs : Blk (wi.setCells g5 3 ((t.data.toList.take (min t.size 32)).map byteV)) g5 39 (pDig p).1.cells := by
   rw [htl, hts]
   unfold pDig
   rcases HTL.out with h1 | h1
   ·rw [h1, List.take_of_length_le (by rw [h1]; decide), if_neg (by intro e; rw [e] at h1; cases h1)]
    exact put_dig hyo _ (h1.trans HD.symm)
   ·rw [h1, if_pos rfl]
    exact hyo
  have hbx := But.setCells g5 ((t.data.toList.take (min t.size 32)).map byteV) 3 wi
  clear htl hts ht hyo
  have HSn : Hid (At g4 (pDig p).2 wi) := HS.out
  have HYn : Hid (Blk (wi.setCells g5 3 ((t.data.toList.take (min t.size 32)).map byteV)) g5 39 (pDig p).1.cells) := hs
  have HDn : (pDig p).1.dig.length = 32 := pDig_len p HD
  have HSn := y_ (At.but HSn.out hbx (by omega))
  have H6n := y_ (H6.out.but hbx (by omega))
  have H2n := y_ (H2.out.but hbx (by omega))
  have Xn := y_ (X.out.trans_but hbx l5)
  simp only [z_1, z_2, z_3, z_4, z_5, z_b, z_6, z_7, z_8, z_9, z_0]
  clear hs hbx HS HY HD H6 H2 X
  generalize (wi.setCells g5 3 ((t.data.toList.take (min t.size 32)).map byteV)) = wi at *
  generalize pDig p = p at *
  have HS := HSn
  have HY := HYn
  have HD := HDn
  have H6 := H6n
  have H2 := H2n
  have X := Xn
  clear HSn HYn HDn H6n H2n Xn
  clear HTL
  have p0 : wi.cell? ⟨g6, 0, none⟩ = some (.bool false) := H6.out.cell 0
  have p1 : wi.cell? ⟨g6, 1, none⟩ = some (.bool true) := H6.out.cell 1
  have p2 : wi.cell? ⟨g6, 2, none⟩ = some (.bool false) := H6.out.cell 2
  have p3 : wi.cell? ⟨g6, 3, none⟩ = some (.bool false) := H6.out.cell 3
  obtain ⟨r, bad, hb, hr, hst⟩ := HS.out
  have c0 : wi.cell? ⟨g4, 0, none⟩ = some (.string r) := hb.cell 0
  have c1 : wi.cell? ⟨g4, 1, none⟩ = some (.bool bad) := hb.cell 1
  have HST := y_ hst
  clear hb hr hst
  cases bad with
  | true =>
    have HV : Hid (parseV s.data.toList = .tuple #[.agg S.none.cells.toArray, .bool false]) := by
     show parseV _ = _
     unfold parseV parse
     rw [HR.out, if_neg (by rw [HST.out]; simp)]
    clear HR HST HS
    go_upto_region 13 with (fail)
    refine wp_region_lit ?_
    refine wpList_val rfl (.agg S.none.cells.toArray) (by as_aux_lemma => kernel_rfl) ?_
    simp only [z_1, z_2, z_3, z_4, z_5, z_b, z_6, z_7, z_8, z_9, z_0]
    have h2 := H2.out
    refine wpList_store_mid rfl 39 _ _ rfl g2 0 ((S.none).cells).toArray rfl ?_ (h2.there _ (by have e1 := cells_length _ none_dig; have e2 := cells_length _ none_dig; rw [z_a]; omega)) (by rw [z_a, cells_length _ none_dig]; exact size38) (all_oneCell_toArray (oneS _)) ?_
    ·rfl
    simp only [z_c]
    simp only [z_1, z_2, z_3, z_4, z_5, z_b, z_6, z_7, z_8, z_9, z_0]
    have HN := y_ (h2.setAll S.none.cells rfl)
    have XN := y_ (X.out.trans_but (But.setCells g2 S.none.cells 0 wi) l2)
    generalize wi.setCells g2 0 S.none.cells = wn at *
    clear h2 H2 X
    go_wp2_with fail
    exact bodyPost_ret (results_row2 rfl _ _ g2 39 (S.none.cells).toArray (0, 0) _ rfl HN.out undS rfl (by rw [z_a, cells_length _ none_dig]; exact size38)) rfl ⟨by rw [HV.out]; rfl, XN.out⟩
  | false =>
    by_cases hr0 : r = ⟨#[]⟩
    ·subst hr0
     have CG := y_ (good_any p.1 HD wi)
     cases hg : good p.1 with
     | true =>
       have HV : Hid (parseV s.data.toList = .tuple #[.agg p.1.cells.toArray, .bool true]) := by
        show parseV _ = _
        unfold parseV parse
        rw [HR.out, if_pos ⟨by rw [HST.out]; simp, hg⟩]
       rw [hg] at CG
       clear HR HST HS hg
       go_upto_region 12 with (fail)
       refine wp_region_lit ?_
       repeat (first | refine wpList_ldr rfl _ _ rfl g5 rfl _ _ _ HY undS (by rw [cells_length p.1 HD]; exact size38) ?_ | go_step)
       refine (CG.out).mono ?_
       rintro e wj ⟨rfl, xg⟩
       have xj := But.of_ext (g := g4) xg
       have hj : True := trivial
       clear xg c0 c1 p0 p1 p2 p3 CG
       have HYn := y_ (HY.out.but xj (by omega))
       have H6n := y_ (H6.out.but xj (by omega))
       have H2n := y_ (H2.out.but xj (by omega))
       have Xn := y_ (X.out.trans_but xj l4)
       have HSn := y_ hj
       clear hj xj HS HY H6 H2 X
       clear wi
       have HS := HSn
       have HY := HYn
       have H6 := H6n
       have H2 := H2n
       have X := Xn
       clear HSn HYn H6n H2n Xn
       generalize wj = wi at *
       clear HS
       rename_i hK
       refine hK _ _ ?_
       go_upto_region 14 with (fail)
       refine wp_region_lit ?_
       have hyo := HY.out
       have h2 := H2.out
       refine wpList_load_row rfl 39 _ rfl g5 rfl 39 (p.1.cells).toArray (0, 0) _ hyo undS rfl (by rw [z_a, cells_length p.1 HD]; exact size38) ?_
       simp only [z_1, z_2, z_3, z_4, z_5, z_b, z_6, z_7, z_8, z_9, z_0]
       refine wpList_store_mid rfl 39 _ _ rfl g2 0 ((p.1).cells).toArray rfl ?_ (h2.there _ (by have e1 := cells_length _ HD; have e2 := cells_length _ none_dig; rw [z_a]; omega)) (by rw [z_a, cells_length _ HD]; exact size38) (all_oneCell_toArray (oneS _)) ?_
       ·rfl
       simp only [z_c]
       simp only [z_1, z_2, z_3, z_4, z_5, z_b, z_6, z_7, z_8, z_9, z_0]
       have HN := y_ (h2.setAll p.1.cells (by rw [cells_length p.1 HD, cells_length _ none_dig]))
       have XN := y_ (X.out.trans_but (But.setCells g2 p.1.cells 0 wi) l2)
       generalize wi.setCells g2 0 p.1.cells = wn at *
       clear h2 hyo H2 X HY
       go_wp2_with fail
       exact bodyPost_ret (results_row2 rfl _ _ g2 39 (p.1.cells).toArray (0, 0) _ rfl HN.out undS rfl (by rw [z_a, cells_length _ HD]; exact size38)) rfl ⟨by rw [HV.out]; rfl, XN.out⟩
     | false =>
       have HV : Hid (parseV s.data.toList = .tuple #[.agg S.none.cells.toArray, .bool false]) := by
        show parseV _ = _
        unfold parseV parse
        rw [HR.out, if_neg (by rw [hg]; simp)]
       rw [hg] at CG
       clear HR HST HS hg
       go_upto_region 12 with (fail)
       refine wp_region_lit ?_
       repeat (first | refine wpList_ldr rfl _ _ rfl g5 rfl _ _ _ HY undS (by rw [cells_length p.1 HD]; exact size38) ?_ | go_step)
       refine (CG.out).mono ?_
       rintro e wj ⟨rfl, xg⟩
       have xj := But.of_ext (g := g4) xg
       have hj : True := trivial
       clear xg c0 c1 p0 p1 p2 p3 CG
       have HYn := y_ (HY.out.but xj (by omega))
       have H6n := y_ (H6.out.but xj (by omega))
       have H2n := y_ (H2.out.but xj (by omega))
       have Xn := y_ (X.out.trans_but xj l4)
       have HSn := y_ hj
       clear hj xj HS HY H6 H2 X
       clear wi
       have HS := HSn
       have HY := HYn
       have H6 := H6n
       have H2 := H2n
       have X := Xn
       clear HSn HYn H6n H2n Xn
       generalize wj = wi at *
       clear HS
       rename_i hK
       refine hK _ _ ?_
       go_upto_region 13 with (fail)
       refine wp_region_lit ?_
       refine wpList_val rfl (.agg S.none.cells.toArray) (by as_aux_lemma => kernel_rfl) ?_
       simp only [z_1, z_2, z_3, z_4, z_5, z_b, z_6, z_7, z_8, z_9, z_0]
       have h2 := H2.out
       refine wpList_store_mid rfl 39 _ _ rfl g2 0 ((S.none).cells).toArray rfl ?_ (h2.there _ (by have e1 := cells_length _ none_dig; have e2 := cells_length _ none_dig; rw [z_a]; omega)) (by rw [z_a, cells_length _ none_dig]; exact size38) (all_oneCell_toArray (oneS _)) ?_
       ·rfl
       simp only [z_c]
       simp only [z_1, z_2, z_3, z_4, z_5, z_b, z_6, z_7, z_8, z_9, z_0]
       have HN := y_ (h2.setAll S.none.cells rfl)
       have XN := y_ (X.out.trans_but (But.setCells g2 S.none.cells 0 wi) l2)
       generalize wi.setCells g2 0 S.none.cells = wn at *
       clear h2 H2 X
       go_wp2_with fail
       exact bodyPost_ret (results_row2 rfl _ _ g2 39 (S.none.cells).toArray (0, 0) _ rfl HN.out undS rfl (by rw [z_a, cells_length _ none_dig]; exact size38)) rfl ⟨by rw [HV.out]; rfl, XN.out⟩
    ·have HV : Hid (parseV s.data.toList = .tuple #[.agg S.none.cells.toArray, .bool false]) := by
      show parseV _ = _
      unfold parseV parse
      rw [HR.out, if_neg (by
       rw [HST.out]
       simp only [Bool.false_eq_true, if_false, Option.some.injEq]
       intro hh
       exact hr0 (ba_ext (by rw [hh.1])))]
     have dne : (r.toList == []) = false := by
      rw [ByteArray.toList_eq, Bool.eq_false_iff, ne_eq, beq_iff_eq]
      intro e
      exact hr0 (ba_ext e)
     clear HR HST HS hr0
     go_upto_region 13 with (fail)
     refine wp_region_lit ?_
     refine wpList_val rfl (.agg S.none.cells.toArray) (by as_aux_lemma => kernel_rfl) ?_
     simp only [z_1, z_2, z_3, z_4, z_5, z_b, z_6, z_7, z_8, z_9, z_0]
     have h2 := H2.out
     refine wpList_store_mid rfl 39 _ _ rfl g2 0 ((S.none).cells).toArray rfl ?_ (h2.there _ (by have e1 := cells_length _ none_dig; have e2 := cells_length _ none_dig; rw [z_a]; omega)) (by rw [z_a, cells_length _ none_dig]; exact size38) (all_oneCell_toArray (oneS _)) ?_
     ·rfl
     simp only [z_c]
     simp only [z_1, z_2, z_3, z_4, z_5, z_b, z_6, z_7, z_8, z_9, z_0]
     have HN := y_ (h2.setAll S.none.cells rfl)
     have XN := y_ (X.out.trans_but (But.setCells g2 S.none.cells 0 wi) l2)
     generalize wi.setCells g2 0 S.none.cells = wn at *
     clear h2 H2 X
     go_wp2_with fail
     exact bodyPost_ret (results_row2 rfl _ _ g2 39 (S.none.cells).toArray (0, 0) _ rfl HN.out undS rfl (by rw [z_a, cells_length _ none_dig]; exact size38)) rfl ⟨by rw [HV.out]; rfl, XN.out⟩
  -- E}
 ·
  -- {F
  have HR : Hid (parsed s.data.toList = p) := HR
  rw [show (F.cells ⟨false, false, false, false⟩) = [.bool false, .bool false, .bool false, .bool false] from rfl]
  go_upto_region 4 with (fail)
  have hb6 : Blk (w6.alloc (Obj.cells #[Value.bool false, Value.bool false, Value.bool false, Value.bool false] 114)) w6.heap.size 114 [.bool false, .bool false, .bool false, .bool false] := Blk.new w6 114 #[Value.bool false, Value.bool false, Value.bool false, Value.bool false]
  have hx6 := Reg.Ext.alloc w6 (Obj.cells #[Value.bool false, Value.bool false, Value.bool false, Value.bool false] 114)
  have lt5 := HY.out.lt
  have ltx := X.out.size
  have HYn := y_ (HY.out.ext hx6)
  have H2n := y_ (H2.out.ext hx6)
  have HSn := y_ (HS.out.ext hx6)
  have Xn := y_ (X.out.trans hx6)
  clear HY H2 HS X hx6
  have HY := HYn
  have H2 := H2n
  have HS := HSn
  have X := Xn
  clear HYn H2n HSn Xn
  generalize w6.alloc (Obj.cells #[Value.bool false, Value.bool false, Value.bool false, Value.bool false] 114) = wi at *
  generalize hg6 : w6.heap.size = g6 at *
  have H6 := y_ hb6
  clear hb6
  have l6 : g5 < g6 := lt5
  clear lt5 ltx hg6
  have p0 : wi.cell? ⟨g6, 0, none⟩ = some (.bool false) := H6.out.cell 0
  have p1 : wi.cell? ⟨g6, 1, none⟩ = some (.bool false) := H6.out.cell 1
  have p2 : wi.cell? ⟨g6, 2, none⟩ = some (.bool false) := H6.out.cell 2
  have p3 : wi.cell? ⟨g6, 3, none⟩ = some (.bool false) := H6.out.cell 3
  obtain ⟨r, bad, hb, hr, hst⟩ := HS.out
  have c0 : wi.cell? ⟨g4, 0, none⟩ = some (.string r) := hb.cell 0
  have c1 : wi.cell? ⟨g4, 1, none⟩ = some (.bool bad) := hb.cell 1
  have HST := y_ hst
  clear hb hr hst
  cases bad with
  | true =>
    have HV : Hid (parseV s.data.toList = .tuple #[.agg S.none.cells.toArray, .bool false]) := by
     show parseV _ = _
     unfold parseV parse
     rw [HR.out, if_neg (by rw [HST.out]; simp)]
    clear HR HST HS
    go_upto_region 13 with (fail)
    refine wp_region_lit ?_
    refine wpList_val rfl (.agg S.none.cells.toArray) (by as_aux_lemma => kernel_rfl) ?_
    simp only [z_1, z_2, z_3, z_4, z_5, z_b, z_6, z_7, z_8, z_9, z_0]
    have h2 := H2.out
    refine wpList_store_mid rfl 39 _ _ rfl g2 0 ((S.none).cells).toArray rfl ?_ (h2.there _ (by have e1 := cells_length _ none_dig; have e2 := cells_length _ none_dig; rw [z_a]; omega)) (by rw [z_a, cells_length _ none_dig]; exact size38) (all_oneCell_toArray (oneS _)) ?_
    ·rfl
    simp only [z_c]
    simp only [z_1, z_2, z_3, z_4, z_5, z_b, z_6, z_7, z_8, z_9, z_0]
    have HN := y_ (h2.setAll S.none.cells rfl)
    have XN := y_ (X.out.trans_but (But.setCells g2 S.none.cells 0 wi) l2)
    generalize wi.setCells g2 0 S.none.cells = wn at *
    clear h2 H2 X
    go_wp2_with fail
    exact bodyPost_ret (results_row2 rfl _ _ g2 39 (S.none.cells).toArray (0, 0) _ rfl HN.out undS rfl (by rw [z_a, cells_length _ none_dig]; exact size38)) rfl ⟨by rw [HV.out]; rfl, XN.out⟩
  | false =>
    by_cases hr0 : r = ⟨#[]⟩
    ·subst hr0
     have CG := y_ (good_any p.1 HD wi)
     cases hg : good p.1 with
     | true =>
       have HV : Hid (parseV s.data.toList = .tuple #[.agg p.1.cells.toArray, .bool true]) := by
        show parseV _ = _
        unfold parseV parse
        rw [HR.out, if_pos ⟨by rw [HST.out]; simp, hg⟩]
       rw [hg] at CG
       clear HR HST HS hg
       go_upto_region 12 with (fail)
       refine wp_region_lit ?_
       repeat (first | refine wpList_ldr rfl _ _ rfl g5 rfl _ _ _ HY undS (by rw [cells_length p.1 HD]; exact size38) ?_ | go_step)
       refine (CG.out).mono ?_
       rintro e wj ⟨rfl, xg⟩
       have xj := But.of_ext (g := g4) xg
       have hj : True := trivial
       clear xg c0 c1 p0 p1 p2 p3 CG
       have HYn := y_ (HY.out.but xj (by omega))
       have H6n := y_ (H6.out.but xj (by omega))
       have H2n := y_ (H2.out.but xj (by omega))
       have Xn := y_ (X.out.trans_but xj l4)
       have HSn := y_ hj
       clear hj xj HS HY H6 H2 X
       clear wi
       have HS := HSn
       have HY := HYn
       have H6 := H6n
       have H2 := H2n
       have X := Xn
       clear HSn HYn H6n H2n Xn
       generalize wj = wi at *
       clear HS
       rename_i hK
       refine hK _ _ ?_
       go_upto_region 14 with (fail)
       refine wp_region_lit ?_
       have hyo := HY.out
       have h2 := H2.out
       refine wpList_load_row rfl 39 _ rfl g5 rfl 39 (p.1.cells).toArray (0, 0) _ hyo undS rfl (by rw [z_a, cells_length p.1 HD]; exact size38) ?_
       simp only [z_1, z_2, z_3, z_4, z_5, z_b, z_6, z_7, z_8, z_9, z_0]
       refine wpList_store_mid rfl 39 _ _ rfl g2 0 ((p.1).cells).toArray rfl ?_ (h2.there _ (by have e1 := cells_length _ HD; have e2 := cells_length _ none_dig; rw [z_a]; omega)) (by rw [z_a, cells_length _ HD]; exact size38) (all_oneCell_toArray (oneS _)) ?_
       ·rfl
       simp only [z_c]
       simp only [z_1, z_2, z_3, z_4, z_5, z_b, z_6, z_7, z_8, z_9, z_0]
       have HN := y_ (h2.setAll p.1.cells (by rw [cells_length p.1 HD, cells_length _ none_dig]))
       have XN := y_ (X.out.trans_but (But.setCells g2 p.1.cells 0 wi) l2)
       generalize wi.setCells g2 0 p.1.cells = wn at *
       clear h2 hyo H2 X HY
       go_wp2_with fail
       exact bodyPost_ret (results_row2 rfl _ _ g2 39 (p.1.cells).toArray (0, 0) _ rfl HN.out undS rfl (by rw [z_a, cells_length _ HD]; exact size38)) rfl ⟨by rw [HV.out]; rfl, XN.out⟩
     | false =>
       have HV : Hid (parseV s.data.toList = .tuple #[.agg S.none.cells.toArray, .bool false]) := by
        show parseV _ = _
        unfold parseV parse
        rw [HR.out, if_neg (by rw [hg]; simp)]
       rw [hg] at CG
       clear HR HST HS hg
       go_upto_region 12 with (fail)
       refine wp_region_lit ?_
       repeat (first | refine wpList_ldr rfl _ _ rfl g5 rfl _ _ _ HY undS (by rw [cells_length p.1 HD]; exact size38) ?_ | go_step)
       refine (CG.out).mono ?_
       rintro e wj ⟨rfl, xg⟩
       have xj := But.of_ext (g := g4) xg
       have hj : True := trivial
       clear xg c0 c1 p0 p1 p2 p3 CG
       have HYn := y_ (HY.out.but xj (by omega))
       have H6n := y_ (H6.out.but xj (by omega))
       have H2n := y_ (H2.out.but xj (by omega))
       have Xn := y_ (X.out.trans_but xj l4)
       have HSn := y_ hj
       clear hj xj HS HY H6 H2 X
       clear wi
       have HS := HSn
       have HY := HYn
       have H6 := H6n
       have H2 := H2n
       have X := Xn
       clear HSn HYn H6n H2n Xn
       generalize wj = wi at *
       clear HS
       rename_i hK
       refine hK _ _ ?_
       go_upto_region 13 with (fail)
       refine wp_region_lit ?_
       refine wpList_val rfl (.agg S.none.cells.toArray) (by as_aux_lemma => kernel_rfl) ?_
       simp only [z_1, z_2, z_3, z_4, z_5, z_b, z_6, z_7, z_8, z_9, z_0]
       have h2 := H2.out
       refine wpList_store_mid rfl 39 _ _ rfl g2 0 ((S.none).cells).toArray rfl ?_ (h2.there _ (by have e1 := cells_length _ none_dig; have e2 := cells_length _ none_dig; rw [z_a]; omega)) (by rw [z_a, cells_length _ none_dig]; exact size38) (all_oneCell_toArray (oneS _)) ?_
       ·rfl
       simp only [z_c]
       simp only [z_1, z_2, z_3, z_4, z_5, z_b, z_6, z_7, z_8, z_9, z_0]
       have HN := y_ (h2.setAll S.none.cells rfl)
       have XN := y_ (X.out.trans_but (But.setCells g2 S.none.cells 0 wi) l2)
       generalize wi.setCells g2 0 S.none.cells = wn at *
       clear h2 H2 X
       go_wp2_with fail
       exact bodyPost_ret (results_row2 rfl _ _ g2 39 (S.none.cells).toArray (0, 0) _ rfl HN.out undS rfl (by rw [z_a, cells_length _ none_dig]; exact size38)) rfl ⟨by rw [HV.out]; rfl, XN.out⟩
    ·have HV : Hid (parseV s.data.toList = .tuple #[.agg S.none.cells.toArray, .bool false]) := by
      show parseV _ = _
      unfold parseV parse
      rw [HR.out, if_neg (by
       rw [HST.out]
       simp only [Bool.false_eq_true, if_false, Option.some.injEq]
       intro hh
       exact hr0 (ba_ext (by rw [hh.1])))]
     have dne : (r.toList == []) = false := by
      rw [ByteArray.toList_eq, Bool.eq_false_iff, ne_eq, beq_iff_eq]
      intro e
      exact hr0 (ba_ext e)
     clear HR HST HS hr0
     go_upto_region 13 with (fail)
     refine wp_region_lit ?_
     refine wpList_val rfl (.agg S.none.cells.toArray) (by as_aux_lemma => kernel_rfl) ?_
     simp only [z_1, z_2, z_3, z_4, z_5, z_b, z_6, z_7, z_8, z_9, z_0]
     have h2 := H2.out
     refine wpList_store_mid rfl 39 _ _ rfl g2 0 ((S.none).cells).toArray rfl ?_ (h2.there _ (by have e1 := cells_length _ none_dig; have e2 := cells_length _ none_dig; rw [z_a]; omega)) (by rw [z_a, cells_length _ none_dig]; exact size38) (all_oneCell_toArray (oneS _)) ?_
     ·rfl
     simp only [z_c]
     simp only [z_1, z_2, z_3, z_4, z_5, z_b, z_6, z_7, z_8, z_9, z_0]
     have HN := y_ (h2.setAll S.none.cells rfl)
     have XN := y_ (X.out.trans_but (But.setCells g2 S.none.cells 0 wi) l2)
     generalize wi.setCells g2 0 S.none.cells = wn at *
     clear h2 H2 X
     go_wp2_with fail
     exact bodyPost_ret (results_row2 rfl _ _ g2 39 (S.none.cells).toArray (0, 0) _ rfl HN.out undS rfl (by rw [z_a, cells_length _ none_dig]; exact size38)) rfl ⟨by rw [HV.out]; rfl, XN.out⟩
  -- F}
end Slp
end Go.Proofs.YtafeealbdpmdkaaGreatDoor
/- Records of slips, read and written, as plain Lean: what is read is what was written. -/
namespace Go.Proofs.YtafeealbdpmdkaaGreatDoor
open Go.RowKit
namespace Slp
open Bld (be8 len1 be)
open CrcP (more tail)
theorem same_eq {x y : S} (h : x.same y = true) : x = y := by
 unfold S.same at h
 simp only [Bool.and_eq_true, beq_iff_eq] at h
 obtain ⟨⟨⟨⟨⟨⟨h1, h2⟩, h3⟩, h4⟩, h5⟩, h6⟩, h7⟩ := h
 have e : ∀ {a b : ByteArray}, a.toList = b.toList → a = b := fun {a b} h => ba_ext (by rw [← ByteArray.toList_eq, ← ByteArray.toList_eq]; exact h)
 cases x; cases y
 simp only at *
 rw [h1, e h2, e h3, h4, e h5, h6, h7]
theorem same_refl (x : S) : x.same x = true := by simp [S.same]
theorem same_iff (x y : S) : x.same y = true ↔ x = y := ⟨same_eq, fun h => by rw [h]; exact same_refl y⟩
theorem good_only {x : S} (h : good x = true) : x = x.only (flds x.k) := by
 unfold good at h
 simp only [Bool.and_eq_true] at h
 exact same_eq h.2.1
/-! ### a body is parsed as it was written -/
theorem fromB_be8 (n : Nat) (h : n < 18446744073709551616) : fromB (be8 n) = n := by
 have e : be8 n = [be n 0, be n 1, be n 2, be n 3, be n 4, be n 5, be n 6, be n 7] := rfl
 have b : ∀ i, (be n i).toNat = n / 256 ^ (7 - i) % 256 := fun i => UInt8.toNat_ofNat_of_lt' (by show _ < 256; omega)
 rw [e]
 simp only [fromB, List.foldl_cons, List.foldl_nil, b]
 simp only [Nat.reducePow, Nat.reduceSub]
 omega
theorem take_app (l r : List UInt8) : take l.length (some (l ++ r)) = (l, some r) := by
 rw [take_ok (by simp)]; simp
theorem nextB_cons (c : UInt8) (r : List UInt8) : nextB (some (c :: r)) = (c.toNat, some r) := by
 unfold nextB
 rw [take_ok (by simp)]; simp
theorem text_app (s : ByteArray) (r : List UInt8) (h : s.size < 256) : textS (some (len1 s :: (s.data.toList ++ r))) = (s.data.toList, some r) := by
 unfold textS
 rw [nextB_cons]
 simp only
 rw [Bld.len1_nat, Nat.mod_eq_of_lt h, ← len_data]
 exact take_app _ _
theorem num_app (n : Nat) (r : List UInt8) (h : n ≤ 1099511627776) : numS (some (be8 n ++ r)) = (n, some r) := by
 unfold numS
 have := take_app (be8 n) r
 rw [be8_len] at this
 rw [this]
 simp only
 rw [fromB_be8 n (by omega), if_pos h]
theorem dig_app (d r : List UInt8) (h : d.length = 32) : take 32 (some (d ++ r)) = (d, some r) := by
 have := take_app d r
 rw [h] at this
 exact this
theorem ba_self (s : ByteArray) : (⟨s.data.toList.toArray⟩ : ByteArray) = s := by simp
theorem parsed_body (x : S) (hx : x.dig.length = 32) (hg : good x = true) : parsed (body x) = (x, some []) := by
 obtain ⟨hk, hnm, ht, hs0, hs1, ha0, ha1⟩ := good_bounds hg
 have hkb := kind_byte hk
 have ho := good_only hg
 have hkn : (((UInt8.ofNat x.k.toNat).toNat : Nat) : Int) = x.k := by rw [← hkb.1, hkb.2]
 have hd0 : x.dig ≠ [] := by intro e; rw [e] at hx; cases hx
 have hsz : ((x.size.toNat : Nat) : Int) = x.size := Int.toNat_of_nonneg hs0
 have hat : ((x.at_.toNat : Nat) : Int) = x.at_ := Int.toNat_of_nonneg ha0
 have hst : x.size.toNat ≤ 1099511627776 := by omega
 have hattn : x.at_.toNat ≤ 1099511627776 := by omega
 have hdig := fun r => dig_app x.dig r hx
 have htyp := fun r => text_app x.typ r (by omega)
 have hnum := fun r => num_app x.size.toNat r hst
 have hnat := fun r => num_app x.at_.toNat r hattn
 have hnat0 := hnat []
 have hnum0 := hnum []
 have hdig0 := hdig []
 rw [List.append_nil] at hnat0 hnum0 hdig0
 have hfst : ∀ t, parsed (UInt8.ofNat x.k.toNat :: t) = parseF (flds x.k) ({ S.none with k := x.k }, some t) := by
  intro t
  unfold parsed first
  rw [nextB_cons]
  simp only
  rw [hkn]
 unfold body
 rcases flds_known hk with e | e | e | e | e
 ·have hr := fun r => text_app x.repo r (by have := (hnm (by rw [e])).1; omega)
  have hg := fun r => text_app x.tag r (by have := (hnm (by rw [e])).2; omega)
  rw [e] at ho
  rw [e]
  simp only [if_true, List.cons_append, List.append_assoc, List.nil_append]
  rw [hfst, e]
  simp only [parseF, pNames, pDig, pThing, pAt, if_true, hr, hg, hdig, htyp, hnum, hnat, hnat0, if_neg hd0, ba_self, hsz, hat]
 ·have hr := fun r => text_app x.repo r (by have := (hnm (by rw [e])).1; omega)
  have hg := fun r => text_app x.tag r (by have := (hnm (by rw [e])).2; omega)
  rw [e] at ho
  rw [e]
  simp only [if_true, Bool.false_eq_true, if_false, List.cons_append, List.append_assoc, List.nil_append, List.append_nil]
  rw [hfst, e]
  simp only [parseF, pNames, pAt, if_true, Bool.false_eq_true, if_false, hr, hg, hnat, hnat0, ba_self, hat]
  rw [ho]; rfl
 ·have hr := fun r => text_app x.repo r (by have := (hnm (by rw [e])).1; omega)
  have hg := text_app x.tag [] (by have := (hnm (by rw [e])).2; omega)
  rw [List.append_nil] at hg
  rw [e] at ho
  rw [e]
  simp only [if_true, Bool.false_eq_true, if_false, List.cons_append, List.append_assoc, List.nil_append, List.append_nil]
  rw [hfst, e]
  simp only [parseF, pNames, if_true, Bool.false_eq_true, if_false, hr, hg, ba_self]
  rw [ho]; rfl
 ·rw [e] at ho
  rw [e]
  simp only [if_true, Bool.false_eq_true, if_false, List.cons_append, List.append_assoc, List.nil_append, List.append_nil]
  rw [hfst, e]
  simp only [parseF, pDig, pThing, if_true, Bool.false_eq_true, if_false, hdig, htyp, hnum0, if_neg hd0, ba_self, hsz]
  rw [ho]; rfl
 ·rw [e] at ho
  rw [e]
  simp only [if_true, Bool.false_eq_true, if_false, List.cons_append, List.append_assoc, List.nil_append, List.append_nil]
  rw [hfst, e]
  simp only [parseF, pDig, if_true, Bool.false_eq_true, if_false, hdig0, if_neg hd0]
  rw [ho]; rfl
theorem parse_body (x : S) (hx : x.dig.length = 32) (hg : good x = true) : parse (body x) = some x := by
 unfold parse
 rw [parsed_body x hx hg]
 simp [hg]
theorem body_len (x : S) (hx : x.dig.length = 32) (hg : good x = true) : 1 ≤ (body x).length ∧ (body x).length ≤ 1024 := by
 obtain ⟨hk, hnm, ht, -, -, -, -⟩ := good_bounds hg
 unfold body
 rcases flds_known hk with e | e | e | e | e <;> rw [e] at hnm ⊢ <;> simp [be8_len, hx, len_data] at * <;> omega
theorem parse_dig {l : List UInt8} {x : S} (h : parse l = some x) : x.dig.length = 32 ∧ good x = true := by
 have hp : (parsed l).1.dig.length = 32 := by
  have h0 : (first l).1.dig.length = 32 := none_dig
  unfold parsed
  generalize first l = p at *
  generalize flds _ = f
  unfold parseF
  simp only
  have hN : (if f.names = true then pNames p else p).1.dig.length = 32 := by split <;> exact h0
  generalize (if f.names = true then pNames p else p) = p1 at *
  have hD : (if f.digest = true then pDig p1 else p1).1.dig.length = 32 := by
   split
   ·exact pDig_len _ hN
   ·exact hN
  generalize (if f.digest = true then pDig p1 else p1) = p2 at *
  have hT : (if f.thing = true then pThing p2 else p2).1.dig.length = 32 := by split <;> exact hD
  generalize (if f.thing = true then pThing p2 else p2) = p3 at *
  split <;> exact hT
 unfold parse at h
 split at h
 ·rename_i hc
  injection h with h
  rw [← h]
  exact ⟨hp, hc.2⟩
 ·cases h
/-! ### records -/
def hd (l : List UInt8) : Nat := (l.getD 0 0).toNat * 256 + (l.getD 1 0).toNat
def readP (l : List UInt8) : S × Nat × Nat :=
 if l.length < 6 then (S.none, 0, 17) else
 if hd l = 0 ∨ 1024 < hd l then (S.none, 0, 3) else
 if l.length < 6 + hd l then (S.none, 0, 17) else
 if frame ((l.drop 6).take (hd l)) ≠ l.take (6 + hd l) then (S.none, 0, 5) else
 match parse ((l.drop 6).take (hd l)) with
 | none => (S.none, 0, 3)
 | some x => (x, 6 + hd l, 0)
theorem readP_ok {l : List UInt8} (h : (readP l).2.2 = 0) : (readP l).1.dig.length = 32 ∧ good (readP l).1 = true ∧ 7 ≤ (readP l).2.1 ∧ (readP l).2.1 ≤ l.length := by
 unfold readP at h ⊢
 split at h
 ·cases h
 split at h
 ·cases h
 split at h
 ·cases h
 split at h
 ·cases h
 rename_i h1 h2 h3 h4
 rw [if_neg h1, if_neg h2, if_neg h3, if_neg h4]
 cases hp : parse ((l.drop 6).take (hd l)) with
 | none => rw [hp] at h; cases h
 | some x => exact ⟨(parse_dig hp).1, (parse_dig hp).2, by simp only; omega, by simp only; omega⟩
theorem readP_dig (l : List UInt8) : (readP l).1.dig.length = 32 := by
 unfold readP
 split
 ·exact none_dig
 split
 ·exact none_dig
 split
 ·exact none_dig
 split
 ·exact none_dig
 cases hp : parse ((l.drop 6).take (hd l)) with
 | none => exact none_dig
 | some x => exact (parse_dig hp).1
def allF : Nat → List UInt8 → List S × Nat
 | 0, _ => ([], 0)
 | f + 1, l => if (readP l).2.2 = 0 then ((readP l).1 :: (allF f (l.drop (readP l).2.1)).1, (readP l).2.1 + (allF f (l.drop (readP l).2.1)).2) else ([], 0)
theorem allF_more (f : Nat) (l : List UInt8) (h : l.length < f) : allF (f + 1) l = allF f l := by
 induction f generalizing l with
 | zero => omega
 | succ f ih =>
   unfold allF
   split
   ·rename_i h0
    have := (readP_ok h0).2.2
    rw [ih _ (by rw [List.length_drop]; omega)]
   ·rfl
theorem allF_eq (f g : Nat) (l : List UInt8) (h : l.length < f) (hg : f ≤ g) : allF g l = allF f l := by
 obtain ⟨d, rfl⟩ : ∃ d, g = f + d := ⟨g - f, by omega⟩
 induction d with
 | zero => rfl
 | succ d ih => rw [← Nat.add_assoc, allF_more (f + d) l (by omega), ih (by omega)]
def allP (l : List UInt8) : List S × Nat := allF (l.length + 1) l
theorem allP_ok {l : List UInt8} (h : (readP l).2.2 = 0) : allP l = ((readP l).1 :: (allP (l.drop (readP l).2.1)).1, (readP l).2.1 + (allP (l.drop (readP l).2.1)).2) := by
 have := (readP_ok h).2.2
 unfold allP
 rw [allF, if_pos h, allF_eq ((l.drop (readP l).2.1).length + 1) l.length _ (by omega) (by rw [List.length_drop]; omega)]
theorem allP_end {l : List UInt8} (h : (readP l).2.2 ≠ 0) : allP l = ([], 0) := by
 unfold allP
 rw [allF, if_neg h]
/-- so far read: these slips, so many bytes -/
def Got (l : List UInt8) (xs : List S) (k : Nat) : Prop := k ≤ l.length ∧ allP l = (xs ++ (allP (l.drop k)).1, k + (allP (l.drop k)).2)
theorem Got.zero (l : List UInt8) : Got l [] 0 := ⟨Nat.zero_le _, by simp⟩
theorem Got.next {l : List UInt8} {xs : List S} {k : Nat} (h : Got l xs k) (h0 : (readP (l.drop k)).2.2 = 0) : Got l (xs ++ [(readP (l.drop k)).1]) (k + (readP (l.drop k)).2.1) := by
 have h1 := (readP_ok h0).2.2
 rw [List.length_drop] at h1
 refine ⟨by have := h.1; omega, ?_⟩
 rw [h.2, allP_ok h0, List.drop_drop]
 simp [Nat.add_assoc]
theorem Got.done {l : List UInt8} {xs : List S} {k : Nat} (h : Got l xs k) (h0 : (readP (l.drop k)).2.2 ≠ 0) : allP l = (xs, k) := by
 rw [h.2, allP_end h0]; simp
end Slp
end Go.Proofs.YtafeealbdpmdkaaGreatDoor
/- The walk of slip.Read. -/
namespace Go.Proofs.YtafeealbdpmdkaaGreatDoor
open Go.RowKit
namespace Slp
theorem or_low16 (a b : Nat) (ha : a < 256) (hb : b < 256) : Go.bits .or .i64 ((a : Int) * 256) (b : Int) = ((a * 256 + b : Nat) : Int) := by
 have e : a * 256 ||| b = a * 256 + b := by
  have := Nat.shiftLeft_add_eq_or_of_lt (show b < 2 ^ 8 by omega) a
  rw [Nat.shiftLeft_eq, show (2 : Nat) ^ 8 = 256 from rfl] at this
  exact this.symm
 rw [show (a : Int) * 256 = ((a * 256 : Nat) : Int) by omega]
 show IntKind.i64.wrap ((BitVec.ofInt 64 ((a * 256 : Nat) : Int) ||| BitVec.ofInt 64 (b : Int)).toNat : Int) = _
 rw [BitVec.toNat_or, ofInt_u64 _ (by omega), ofInt_u64 b (by omega), IntKind.wrap_i64, e]
 omega
theorem results_cell_tmp2 {fn : Func} {p u v : Tmp} {ty : TypeId} (h : fn.results = #[.cell p ty, .tmp u, .tmp v]) (tmps : Array Value) (P : Program) (w : World) :
  (results fn tmps).run P w =
    ((asAddr (tmps.getD p undef)).run P w).andThen fun a w₁ => ((loadVar ty a).run P w₁).andThen fun x w₂ => .ok (.tuple #[x, tmps.getD u undef, tmps.getD v undef]) w₂ := by
 simp only [results, h]
 simp [Sem.run_bind, Result.andThen]
theorem results_row3 {P : Program} {fn : Func} {p u v : Tmp} {ty : TypeId} (h : fn.results = #[.cell p ty, .tmp u, .tmp v]) (tmps : Array Value) (w : World) (g : Nat) (t : TypeId) (cs : Array Value) (fr : Nat × Nat) (d : TypeDesc)
  (hp : tmps.getD p undef = .pointer (some ⟨g, 0, none⟩)) (hg : w.heap[g]? = some (.cells cs t fr))
  (hu : P.underlying ty = some d) (hd : (match d with | .struct _ | .array _ _ => true | _ => false) = true) (hi : (P.info? ty).map (·.size) = some cs.size) :
  (results fn tmps).run P w = .ok (.tuple #[.agg cs, tmps.getD u undef, tmps.getD v undef]) w := by
 rw [results_cell_tmp2 h, hp]
 simp [asAddr, run_loadVar_row w g t ty cs fr d hg hu hd hi]
def readV (l : List UInt8) : Value := .tuple #[.agg (readP l).1.cells.toArray, .int .i64 ((readP l).2.1 : Int), .int .i64 ((readP l).2.2 : Int)]
theorem hd_two (s : ByteArray) (h : 2 ≤ s.size) : hd s.data.toList = (s[0]'(by omega)).toNat * 256 + (s[1]'(by omega)).toNat := by
 unfold hd
 rw [List.getD_eq_getElem?_getD, List.getD_eq_getElem?_getD, List.getElem?_eq_getElem (by rw [len_data]; omega), List.getElem?_eq_getElem (by rw [len_data]; omega)]
 rfl
set_option maxRecDepth 100000 in
set_option maxHeartbeats 4000000 in
theorem read_any (s : ByteArray) (w : World) (hs : s.size ≤ 1048576) (hT : Crc.Tab w) :
  Calls Tryz.prog 64 #[.string s] w fun e w' => e = .returned (readV s.data.toList) ∧ Reg.Ext w w' := by
 have HT := y_ hT
 clear hT
 have hlen := len_data s
 go_enter Tryz.func64, Tryz.ntmps64
 go_upto_region 1 with (fail)
 rw [z38]
 have hb2 := boxS w S.none
 have hx2 := Reg.Ext.alloc w (Obj.cells S.none.cells.toArray 39)
 generalize w.alloc (Obj.cells S.none.cells.toArray 39) = wi at *
 generalize hg2 : w.heap.size = g2 at *
 have H2 := y_ hb2
 have X := y_ hx2
 have l2 : w.heap.size ≤ g2 := by omega
 clear hb2 hx2
 by_cases h6 : s.size < 6
 ·have d6 : decide ((s.size : Int) < 6) = true := by rw [decide_eq_true_iff]; omega
  have HV : Hid (readV s.data.toList = .tuple #[.agg S.none.cells.toArray, .int .i64 0, .int .i64 17]) := by
   show readV _ = _
   unfold readV readP
   rw [if_pos (by omega)]
   rfl
  clear hlen h6
  -- {A
  go_upto_region 2 with (fail)
  refine wp_region_lit ?_
  refine wpList_val rfl (.agg S.none.cells.toArray) (by as_aux_lemma => kernel_rfl) ?_
  simp only [z_1, z_2, z_3, z_4, z_5, z_b, z_6, z_7, z_8, z_9, z_0]
  have h2 := H2.out
  refine wpList_store_mid rfl 39 _ _ rfl g2 0 ((S.none).cells).toArray rfl ?_ (h2.there _ (by have e1 := cells_length _ none_dig; have e2 := cells_length _ none_dig; rw [z_a]; omega)) (by rw [z_a, cells_length _ none_dig]; exact size38) (all_oneCell_toArray (oneS _)) ?_
  ·rfl
  simp only [z_c]
  simp only [z_1, z_2, z_3, z_4, z_5, z_b, z_6, z_7, z_8, z_9, z_0]
  have HN := y_ (h2.setAll S.none.cells rfl)
  have XN := y_ (X.out.trans_but (But.setCells g2 S.none.cells 0 wi) l2)
  generalize wi.setCells g2 0 S.none.cells = wn at *
  clear h2 H2 X
  go_wp2_with fail
  exact bodyPost_ret (results_row3 rfl _ _ g2 39 (S.none.cells).toArray (0, 0) _ rfl HN.out undS rfl (by rw [z_a, cells_length _ none_dig]; exact size38)) rfl ⟨by rw [HV.out]; rfl, XN.out⟩
  -- A}
 have d6 : decide ((s.size : Int) < 6) = false := by rw [decide_eq_false_iff_not]; omega
 have hh := hd_two s (by omega)
 have h0 : 0 < s.size := by omega
 have h1 : 1 < s.size := by omega
 have ha := (s[0]'(by omega)).toNat_lt
 have hb := (s[1]'(by omega)).toNat_lt
 obtain ⟨a, hav⟩ : ∃ a : Nat, a = (s[0]'(by omega)).toNat := ⟨_, rfl⟩
 obtain ⟨b, hbv⟩ : ∃ b : Nat, b = (s[1]'(by omega)).toNat := ⟨_, rfl⟩
 have i0 : ∀ W, (Instr.index 9 (.string s) (.int .i64 0)).run Tryz.prog W = .ok (.int .u8 (a : Int)) W := by
  intro W
  rw [run_index_string (P := Tryz.prog) W _ _ _ _ Tryz.underlying9, dif_pos ⟨by decide, by omega⟩, hav]
  rfl
 have i1 : ∀ W, (Instr.index 9 (.string s) (.int .i64 1)).run Tryz.prog W = .ok (.int .u8 (b : Int)) W := by
  intro W
  rw [run_index_string (P := Tryz.prog) W _ _ _ _ Tryz.underlying9, dif_pos ⟨by decide, by omega⟩, hbv]
  rfl
 rw [← hav] at ha hh
 rw [← hbv] at hb hh
 have hor := or_low16 a b ha hb
 obtain ⟨n, hn⟩ : ∃ n : Nat, n = a * 256 + b := ⟨_, rfl⟩
 have hn2 : n ≤ 65535 := by omega
 rw [← hn] at hh hor
 clear hav hbv h0 h1
 have HH := y_ hh
 clear hh hn
 go_upto_region 3 with (fail)
 go_quiet (fail)
 clear hor i0 i1 ha hb d6
 have H2n := y_ (H2.out.drewN nq)
 have Xn := y_ (X.out.trans (Reg.Ext.drewN wi nq))
 generalize wi.drewN nq = wj at *
 clear H2 X
 have H2 := H2n
 have X := Xn
 clear H2n Xn
 clear wi
 generalize wj = wi at *
 by_cases hz : n = 0
 ·have HV : Hid (readV s.data.toList = .tuple #[.agg S.none.cells.toArray, .int .i64 0, .int .i64 3]) := by
   show readV _ = _
   unfold readV readP
   rw [if_neg (by omega), if_pos (.inl (HH.out.trans hz))]
   rfl
  have dz : ((n : Int) == 0) = true := by rw [beq_iff_eq]; omega
  clear HH hlen hz
  -- {B
  go_upto_region 5 with (fail)
  refine wp_region_lit ?_
  refine wpList_val rfl (.agg S.none.cells.toArray) (by as_aux_lemma => kernel_rfl) ?_
  simp only [z_1, z_2, z_3, z_4, z_5, z_b, z_6, z_7, z_8, z_9, z_0]
  have h2 := H2.out
  refine wpList_store_mid rfl 39 _ _ rfl g2 0 ((S.none).cells).toArray rfl ?_ (h2.there _ (by have e1 := cells_length _ none_dig; have e2 := cells_length _ none_dig; rw [z_a]; omega)) (by rw [z_a, cells_length _ none_dig]; exact size38) (all_oneCell_toArray (oneS _)) ?_
  ·rfl
  simp only [z_c]
  simp only [z_1, z_2, z_3, z_4, z_5, z_b, z_6, z_7, z_8, z_9, z_0]
  have HN := y_ (h2.setAll S.none.cells rfl)
  have XN := y_ (X.out.trans_but (But.setCells g2 S.none.cells 0 wi) l2)
  generalize wi.setCells g2 0 S.none.cells = wn at *
  clear h2 H2 X
  go_wp2_with fail
  exact bodyPost_ret (results_row3 rfl _ _ g2 39 (S.none.cells).toArray (0, 0) _ rfl HN.out undS rfl (by rw [z_a, cells_length _ none_dig]; exact size38)) rfl ⟨by rw [HV.out]; rfl, XN.out⟩
  -- B}
 have dz : ((n : Int) == 0) = false := by rw [Bool.eq_false_iff, ne_eq, beq_iff_eq]; omega
 by_cases hg : 1024 < n
 ·have HV : Hid (readV s.data.toList = .tuple #[.agg S.none.cells.toArray, .int .i64 0, .int .i64 3]) := by
   show readV _ = _
   unfold readV readP
   rw [if_neg (by omega), if_pos (.inr (by rw [HH.out]; exact hg))]
   rfl
  have dg : decide ((1024 : Int) < (n : Int)) = true := by rw [decide_eq_true_iff]; omega
  clear HH hlen hz hg
  -- {C
  go_upto_region 5 with (fail)
  refine wp_region_lit ?_
  refine wpList_val rfl (.agg S.none.cells.toArray) (by as_aux_lemma => kernel_rfl) ?_
  simp only [z_1, z_2, z_3, z_4, z_5, z_b, z_6, z_7, z_8, z_9, z_0]
  have h2 := H2.out
  refine wpList_store_mid rfl 39 _ _ rfl g2 0 ((S.none).cells).toArray rfl ?_ (h2.there _ (by have e1 := cells_length _ none_dig; have e2 := cells_length _ none_dig; rw [z_a]; omega)) (by rw [z_a, cells_length _ none_dig]; exact size38) (all_oneCell_toArray (oneS _)) ?_
  ·rfl
  simp only [z_c]
  simp only [z_1, z_2, z_3, z_4, z_5, z_b, z_6, z_7, z_8, z_9, z_0]
  have HN := y_ (h2.setAll S.none.cells rfl)
  have XN := y_ (X.out.trans_but (But.setCells g2 S.none.cells 0 wi) l2)
  generalize wi.setCells g2 0 S.none.cells = wn at *
  clear h2 H2 X
  go_wp2_with fail
  exact bodyPost_ret (results_row3 rfl _ _ g2 39 (S.none.cells).toArray (0, 0) _ rfl HN.out undS rfl (by rw [z_a, cells_length _ none_dig]; exact size38)) rfl ⟨by rw [HV.out]; rfl, XN.out⟩
  -- C}
 have dg : decide ((1024 : Int) < (n : Int)) = false := by rw [decide_eq_false_iff_not]; omega
 by_cases hsh : s.size < 6 + n
 ·have HV : Hid (readV s.data.toList = .tuple #[.agg S.none.cells.toArray, .int .i64 0, .int .i64 17]) := by
   show readV _ = _
   unfold readV readP
   rw [if_neg (by omega), HH.out, if_neg (by omega), if_pos (by omega)]
   rfl
  have ds : decide ((s.size : Int) < 6 + (n : Int)) = true := by rw [decide_eq_true_iff]; omega
  clear HH hlen hz hg hsh
  -- {D
  go_upto_region 7 with (fail)
  refine wp_region_lit ?_
  refine wpList_val rfl (.agg S.none.cells.toArray) (by as_aux_lemma => kernel_rfl) ?_
  simp only [z_1, z_2, z_3, z_4, z_5, z_b, z_6, z_7, z_8, z_9, z_0]
  have h2 := H2.out
  refine wpList_store_mid rfl 39 _ _ rfl g2 0 ((S.none).cells).toArray rfl ?_ (h2.there _ (by have e1 := cells_length _ none_dig; have e2 := cells_length _ none_dig; rw [z_a]; omega)) (by rw [z_a, cells_length _ none_dig]; exact size38) (all_oneCell_toArray (oneS _)) ?_
  ·rfl
  simp only [z_c]
  simp only [z_1, z_2, z_3, z_4, z_5, z_b, z_6, z_7, z_8, z_9, z_0]
  have HN := y_ (h2.setAll S.none.cells rfl)
  have XN := y_ (X.out.trans_but (But.setCells g2 S.none.cells 0 wi) l2)
  generalize wi.setCells g2 0 S.none.cells = wn at *
  clear h2 H2 X
  go_wp2_with fail
  exact bodyPost_ret (results_row3 rfl _ _ g2 39 (S.none.cells).toArray (0, 0) _ rfl HN.out undS rfl (by rw [z_a, cells_length _ none_dig]; exact size38)) rfl ⟨by rw [HV.out]; rfl, XN.out⟩
  -- D}
 have ds : decide ((s.size : Int) < 6 + (n : Int)) = false := by rw [decide_eq_false_iff_not]; omega
 have hle : 6 + n ≤ s.size := by omega
 have hnb : n ≤ 1024 := by omega
 obtain ⟨R, hR⟩ : ∃ R, R = s.extract 0 (6 + n) := ⟨_, rfl⟩
 have hRs : R.size = 6 + n := by rw [hR, ByteArray.size_extract]; omega
 have hRl : R.data.toList = s.data.toList.take (6 + n) := by rw [hR, ext_to]
 obtain ⟨B, hB⟩ : ∃ B, B = R.extract 6 R.size := ⟨_, rfl⟩
 have hBl : B.data.toList = (s.data.toList.drop 6).take n := by
  rw [hB, ext_from, hRl, List.drop_take]
  congr 1
  omega
 have hBs : B.size = n := by rw [hB, ByteArray.size_extract]; omega
 have HV : Hid (readV s.data.toList = if frame B.data.toList ≠ R.data.toList then .tuple #[.agg S.none.cells.toArray, .int .i64 0, .int .i64 5] else match parse B.data.toList with | none => .tuple #[.agg S.none.cells.toArray, .int .i64 0, .int .i64 3] | some x => .tuple #[.agg x.cells.toArray, .int .i64 ((6 + n : Nat) : Int), .int .i64 0]) := by
  show readV _ = _
  unfold readV readP
  rw [if_neg (by omega), HH.out, if_neg (by omega), if_neg (by omega), hRl, hBl]
  by_cases hq : frame ((s.data.toList.drop 6).take n) ≠ s.data.toList.take (6 + n)
  ·rw [if_pos hq, if_pos hq]; rfl
  ·rw [if_neg hq, if_neg hq]
   cases parse ((s.data.toList.drop 6).take n) <;> rfl
 have hFl : (⟨(frame B.data.toList).toArray⟩ : ByteArray).data.toList = frame B.data.toList := lst _
 have CF := y_ (framed_any B wi (by omega) (HT.out.below X.out))
 have CP := y_ (fun w => parse_any B w (by omega))
 have HRS := y_ hRs
 have h6R : 6 ≤ R.size := by omega
 have hR2 := hR
 have hB2 := hB
 clear HH hlen hsh hz hg hBl hs h6 hBs hRs HT hRl hR hB
 go_upto_region 9 with (fail)
 rw [← hR2]
 clear hR2
 go_upto_region 10 with (fail)
 rw [← hB2]
 clear hB2
 obtain ⟨F, hF⟩ : ∃ F : ByteArray, F = ⟨(frame B.data.toList).toArray⟩ := ⟨_, rfl⟩
 rw [← hF] at hFl CF
 have HFL := y_ hFl
 clear hFl hF dz dg ds
 go_wp2_with fail
 refine (CF.out).mono ?_
 rintro e wj ⟨rfl, xj⟩
 have H2n := y_ (H2.out.ext xj)
 have Xn := y_ (X.out.trans xj)
 clear H2 X CF xj
 have H2 := H2n
 have X := Xn
 clear H2n Xn
 clear wi
 generalize wj = wi at *
 by_cases hq : frame B.data.toList = R.data.toList
 ·have dq : (F.toList == R.toList) = true := by
   rw [ByteArray.toList_eq, ByteArray.toList_eq, HFL.out, beq_iff_eq]
   exact hq
  rw [if_neg (by simp [hq])] at HV
  clear hq HFL
  -- {D2
  cases hp : parse B.data.toList with
  | none =>
    have hpv : parseV B.data.toList = .tuple #[.agg S.none.cells.toArray, .bool false] := by unfold parseV; rw [hp]
    rw [hp] at HV
    rw [hpv] at CP
    clear hp hpv
    have hx : S.none.dig.length = 32 := none_dig
    go_wp2_with fail
    refine (CP.out _).mono ?_
    rintro e wj ⟨rfl, xj⟩
    rename_i hK
    refine hK _ _ ?_
    have H2n := y_ (H2.out.ext xj)
    have Xn := y_ (X.out.trans xj)
    clear H2 X CP xj
    have H2 := H2n
    have X := Xn
    clear H2n Xn
    clear wi
    iterate 12 go_step
    rw [z38]
    have hb8 := boxS wj S.none
    have hx8 := Reg.Ext.alloc wj (Obj.cells S.none.cells.toArray 39)
    have hs8 := H2.out.lt
    have hsx := X.out.size
    generalize wj.alloc (Obj.cells S.none.cells.toArray 39) = w8 at *
    generalize wj.heap.size = g8 at *
    refine wpList_store_mid rfl 39 _ _ rfl g8 0 ((S.none).cells).toArray rfl ?_ (hb8.there _ (by have e1 := cells_length _ hx; have e2 := cells_length _ none_dig; rw [z_a]; omega)) (by rw [z_a, cells_length _ hx]; exact size38) (all_oneCell_toArray (oneS _)) ?_
    ·rfl
    simp only [z_c]
    simp only [z_1, z_2, z_3, z_4, z_5, z_b, z_6, z_7, z_8, z_9, z_0]
    have hbx := But.setCells g8 (S.none).cells 0 w8
    have H8 := y_ (hb8.setAll (S.none).cells ((cells_length _ hx).trans (cells_length _ none_dig).symm))
    have H2n := y_ ((H2.out.ext hx8).but hbx (by omega))
    have Xn := y_ ((X.out.trans hx8).trans_but hbx hsx)
    clear H2 X hb8 hx8 hbx
    have H2 := H2n
    have X := Xn
    clear H2n Xn
    generalize w8.setCells g8 0 (S.none).cells = wi at *
    clear wj
    go_upto_region 14 with (fail)
    refine wp_region_lit ?_
    refine wpList_val rfl (.agg S.none.cells.toArray) (by as_aux_lemma => kernel_rfl) ?_
    simp only [z_1, z_2, z_3, z_4, z_5, z_b, z_6, z_7, z_8, z_9, z_0]
    have h2 := H2.out
    refine wpList_store_mid rfl 39 _ _ rfl g2 0 ((S.none).cells).toArray rfl ?_ (h2.there _ (by have e1 := cells_length _ none_dig; have e2 := cells_length _ none_dig; rw [z_a]; omega)) (by rw [z_a, cells_length _ none_dig]; exact size38) (all_oneCell_toArray (oneS _)) ?_
    ·rfl
    simp only [z_c]
    simp only [z_1, z_2, z_3, z_4, z_5, z_b, z_6, z_7, z_8, z_9, z_0]
    have HN := y_ (h2.setAll S.none.cells rfl)
    have XN := y_ (X.out.trans_but (But.setCells g2 S.none.cells 0 wi) l2)
    generalize wi.setCells g2 0 S.none.cells = wn at *
    clear h2 H2 X
    go_wp2_with fail
    exact bodyPost_ret (results_row3 rfl _ _ g2 39 (S.none.cells).toArray (0, 0) _ rfl HN.out undS rfl (by rw [z_a, cells_length _ none_dig]; exact size38)) rfl ⟨by rw [HV.out]; rfl, XN.out⟩
  | some x =>
    have hpv : parseV B.data.toList = .tuple #[.agg x.cells.toArray, .bool true] := by unfold parseV; rw [hp]
    have hx := (parse_dig hp).1
    rw [hp] at HV
    rw [hpv] at CP
    clear hp hpv
    go_wp2_with fail
    refine (CP.out _).mono ?_
    rintro e wj ⟨rfl, xj⟩
    rename_i hK
    refine hK _ _ ?_
    have H2n := y_ (H2.out.ext xj)
    have Xn := y_ (X.out.trans xj)
    clear H2 X CP xj
    have H2 := H2n
    have X := Xn
    clear H2n Xn
    clear wi
    iterate 12 go_step
    rw [z38]
    have hb8 := boxS wj S.none
    have hx8 := Reg.Ext.alloc wj (Obj.cells S.none.cells.toArray 39)
    have hs8 := H2.out.lt
    have hsx := X.out.size
    generalize wj.alloc (Obj.cells S.none.cells.toArray 39) = w8 at *
    generalize wj.heap.size = g8 at *
    refine wpList_store_mid rfl 39 _ _ rfl g8 0 ((x).cells).toArray rfl ?_ (hb8.there _ (by have e1 := cells_length _ hx; have e2 := cells_length _ none_dig; rw [z_a]; omega)) (by rw [z_a, cells_length _ hx]; exact size38) (all_oneCell_toArray (oneS _)) ?_
    ·rfl
    simp only [z_c]
    simp only [z_1, z_2, z_3, z_4, z_5, z_b, z_6, z_7, z_8, z_9, z_0]
    have hbx := But.setCells g8 (x).cells 0 w8
    have H8 := y_ (hb8.setAll (x).cells ((cells_length _ hx).trans (cells_length _ none_dig).symm))
    have H2n := y_ ((H2.out.ext hx8).but hbx (by omega))
    have Xn := y_ ((X.out.trans hx8).trans_but hbx hsx)
    clear H2 X hb8 hx8 hbx
    have H2 := H2n
    have X := Xn
    clear H2n Xn
    generalize w8.setCells g8 0 (x).cells = wi at *
    clear wj
    go_upto_region 15 with (fail)
    refine wp_region_lit ?_
    have h8 := H8.out
    have h2 := H2.out
    refine wpList_load_row rfl 39 _ rfl g8 rfl 39 (x.cells).toArray (0, 0) _ h8 undS rfl (by rw [z_a, cells_length x hx]; exact size38) ?_
    simp only [z_1, z_2, z_3, z_4, z_5, z_b, z_6, z_7, z_8, z_9, z_0]
    iterate 6 go_step
    refine wpList_store_mid rfl 39 _ _ rfl g2 0 ((x).cells).toArray rfl ?_ (h2.there _ (by have e1 := cells_length _ hx; have e2 := cells_length _ none_dig; rw [z_a]; omega)) (by rw [z_a, cells_length _ hx]; exact size38) (all_oneCell_toArray (oneS _)) ?_
    ·rfl
    simp only [z_c]
    simp only [z_1, z_2, z_3, z_4, z_5, z_b, z_6, z_7, z_8, z_9, z_0]
    have HN := y_ (h2.setAll x.cells (by rw [cells_length x hx, cells_length _ none_dig]))
    have XN := y_ (X.out.trans_but (But.setCells g2 x.cells 0 wi) l2)
    generalize wi.setCells g2 0 x.cells = wn at *
    clear h2 h8 H2 X H8
    go_wp2_with fail
    exact bodyPost_ret (results_row3 rfl _ _ g2 39 (x.cells).toArray (0, 0) _ rfl HN.out undS rfl (by rw [z_a, cells_length _ hx]; exact size38)) rfl ⟨by rw [HV.out, ← HRS.out]; rfl, XN.out⟩
  -- D2}
 ·have dq : (F.toList == R.toList) = false := by
   rw [ByteArray.toList_eq, ByteArray.toList_eq, HFL.out, Bool.eq_false_iff, ne_eq, beq_iff_eq]
   exact hq
  rw [if_pos hq] at HV
  clear hq HFL CP
  -- {E
  go_upto_region 11 with (fail)
  refine wp_region_lit ?_
  refine wpList_val rfl (.agg S.none.cells.toArray) (by as_aux_lemma => kernel_rfl) ?_
  simp only [z_1, z_2, z_3, z_4, z_5, z_b, z_6, z_7, z_8, z_9, z_0]
  have h2 := H2.out
  refine wpList_store_mid rfl 39 _ _ rfl g2 0 ((S.none).cells).toArray rfl ?_ (h2.there _ (by have e1 := cells_length _ none_dig; have e2 := cells_length _ none_dig; rw [z_a]; omega)) (by rw [z_a, cells_length _ none_dig]; exact size38) (all_oneCell_toArray (oneS _)) ?_
  ·rfl
  simp only [z_c]
  simp only [z_1, z_2, z_3, z_4, z_5, z_b, z_6, z_7, z_8, z_9, z_0]
  have HN := y_ (h2.setAll S.none.cells rfl)
  have XN := y_ (X.out.trans_but (But.setCells g2 S.none.cells 0 wi) l2)
  generalize wi.setCells g2 0 S.none.cells = wn at *
  clear h2 H2 X
  go_wp2_with fail
  exact bodyPost_ret (results_row3 rfl _ _ g2 39 (S.none.cells).toArray (0, 0) _ rfl HN.out undS rfl (by rw [z_a, cells_length _ none_dig]; exact size38)) rfl ⟨by rw [HV.out]; rfl, XN.out⟩
  -- E}
end Slp
end Go.Proofs.YtafeealbdpmdkaaGreatDoor
/- A row of slips in memory. -/
namespace Go.Proofs.YtafeealbdpmdkaaGreatDoor
open Go.RowKit
namespace Slp
/-! ### a row of slips -/
theorem fold_row (l pre rest : List Value) (h : rest.length = l.length) :
  (l.zipIdx pre.length).foldl (fun (cs : Array Value) (p : Value × Nat) => cs.setIfInBounds (0 + p.2) p.1) (pre ++ rest).toArray = (pre ++ l).toArray := by
 induction l generalizing pre rest with
 | nil =>
   have : rest = [] := List.length_eq_zero_iff.1 h
   rw [this]; rfl
 | cons c l ih =>
   cases rest with
   | nil => cases h
   | cons r rest =>
     have h2 := ih (pre ++ [c]) rest (by simpa using h)
     rw [List.zipIdx_cons, List.foldl_cons]
     have e : (pre ++ r :: rest).toArray.setIfInBounds (0 + pre.length) c = (pre ++ [c] ++ rest).toArray := by
      rw [Nat.zero_add, List.setIfInBounds_toArray, List.set_append_right _ _ (Nat.le_refl _), Nat.sub_self]
      simp
     simp only at e ⊢
     rw [e, show pre.length + 1 = (pre ++ [c]).length by simp, h2]
     simp
theorem fill_row (cs z : Array Value) (size : Nat) (hc : cs.size = size) (hz : z.size = size) :
  Instr.fill (fun i => some (i * size, size)) z [(0, .agg cs)] = some cs := by
 have hv : (Value.agg cs).cells = cs := rfl
 have h := fold_row cs.toList [] z.toList (by simp [hc, hz])
 simp only [List.nil_append, List.length_nil, Array.toArray_toList] at h
 unfold Instr.fill
 simp only [hv, Nat.zero_mul]
 rw [if_neg (by simp [hc, hz])]
 unfold Instr.fill
 rw [← Array.foldl_toList, Array.toList_zipIdx, h]
theorem run_one_row {P : Program} (w : World) (t e : TypeId) (cs : Array Value) (i : TypeInfo) (z : Value) (ht : P.underlying t = some (.slice e)) (hi : P.info? e = some i) (hz : i.zero = some z) (hs : i.size = cs.size) (h0 : 0 < cs.size) (hm : cs.size ≤ 16777216) :
  (Instr.buildSlice t 1 #[(0, .agg cs)]).run P w = .ok (.slice (some ⟨w.heap.size, 0, none⟩) 1 1) (w.alloc (.cells cs e)) := by
 have hf := fill_row cs ((Array.range (1 * cs.size)).map (z.cells[· % z.cells.size]!)) cs.size rfl (by simp)
 have h1 : (sizeOf e).run P w = .ok cs.size w := by simp [sizeOf, run_typeInfo w hi, hs]
 have h2 : (zeroValue e).run P w = .ok z w := by simp [zeroValue, run_typeInfo w hi, hz]
 have h3 : ∀ cs, (newRow e cs).run P w = .ok ⟨w.heap.size, 0, none⟩ (w.alloc (.cells cs e)) := fun cs => by simp [newRow, go_sem]
 unfold Instr.buildSlice
 simp only [Sem.run_bind, run_underlying ht, Result.andThen_ok, h1, Nat.one_mul]
 simp only [Sem.run_bind, Result.andThen_ok, Nat.one_mul, if_neg (show ¬ cs.size > 2 ^ 24 by omega), if_neg (show ¬ cs.size = 0 by omega), h2, Sem.run_pure]
 rw [Nat.one_mul] at hf
 rw [hf]
 simp only [Sem.run_bind, Result.andThen_ok, h3, Sem.run_pure]
theorem exec_one_row {P : Program} (w : World) (ρ : Operand → Value) (o : Oper) (x : Operand) (t e : TypeId) (cs : Array Value) (ho : o.op = .buildSlice t 1 #[(0, x)]) (hx : ρ x = .agg cs) (i : TypeInfo) (z : Value) (ht : P.underlying t = some (.slice e)) (hi : P.info? e = some i) (hz : i.zero = some z) (hs : i.size = cs.size) (h0 : 0 < cs.size) (hm : cs.size ≤ 16777216) :
  (execOp ρ o).run P w = .ok (.value (.slice (some ⟨w.heap.size, 0, none⟩) 1 1)) (w.alloc (.cells cs e)) := by
 have h := run_one_row w t e cs i z ht hi hz hs h0 hm
 unfold execOp
 rw [ho]
 simp only [List.map_toArray, List.map_cons, List.map_nil, hx, Sem.run_bind, h, Result.andThen_ok, Sem.run_pure]
theorem slipInfo_of : ∃ i, Tryz.prog.info? 39 = some i ∧ i.zero = some (.agg S.none.cells.toArray) ∧ i.size = 38 ∧ i.bytes = 104 ∧ (Value.agg S.none.cells.toArray).cells.size = 38 := by
 refine ⟨(Tryz.prog.info? 39).getD default, ?_, ?_, ?_, ?_, ?_⟩ <;> kernel_rfl
theorem wpList_valw {P : Program} {ops : Array Oper} {rest : List Oper} {o : Oper} {a : Act} {w w' : World} {Q : Exit → Act → World → Prop} (hgd : o.guard = none) (v : Value)
  (hr : (execOp a.eval o).run P w = .ok (.value v) w') (hk : wpList P ops Q rest (a.put o.dst v) w') : wpList P ops Q (o :: rest) a w :=
 wpList_plain hgd fun K hK => by unfold Oper.wp; rw [hr]; exact hK _ _ hk
def flat (xs : List S) : List Value := (xs.map S.cells).flatten
theorem flat_snoc (xs : List S) (x : S) : flat (xs ++ [x]) = flat xs ++ x.cells := by simp [flat]
/-- a row of its own of slips -/
def Row (B : Nat) (v : Value) (xs : List S) (w : World) : Prop := w.ownsRow B 39 38 v xs.length (flat xs) ∧ ∀ x ∈ xs, x.dig.length = 32
theorem Row.kept {B : Nat} {v : Value} {xs : List S} {w w' : World} {r : Option Nat} (h : Row B v xs w) (hg : w.grownBy w' r) (hne : v.ownBlock = none ∨ v.ownBlock ≠ r) : Row B v xs w' := ⟨h.1.kept hg hne, h.2⟩
theorem Row.ext {B : Nat} {v : Value} {xs : List S} {w w' : World} (h : Row B v xs w) (hx : Reg.Ext w w') : Row B v xs w' :=
 h.kept (r := none) ⟨hx.os, hx.tape, hx.output, hx.size, fun i hi _ => hx.block i hi⟩ (by cases v.ownBlock <;> simp)
theorem Row.fresh {B g : Nat} {v : Value} {xs : List S} {w w1 w' : World} (h : Row B v xs w) (hx : Reg.Ext w w1) (hb : But g w1 w') (hg : w.heap.size ≤ g) : Row B v xs w' := by
 refine (h.ext hx).kept hb ?_
 cases hv : v.ownBlock with
 | none => exact .inl rfl
 | some k =>
   have := (h.1.lt k hv).2
   refine .inr fun e => ?_
   injection e with e
   omega
/-- a slice that reads as this list of slips -/
def RdS (v : Value) (xs : List S) (w : World) : Prop := (∀ x ∈ xs, x.dig.length = 32) ∧ ∃ p c, v = .slice p xs.length c ∧ xs.length ≤ maxLen ∧ ∀ j (h : j < xs.length), ∃ g o, p = some ⟨g, o, none⟩ ∧ w.rangeAt g (o + j * 38) (xs[j].cells)
theorem rangeAt_ext {w w' : World} {g o : Nat} {cs : List Value} (h : w.rangeAt g o cs) (hx : Reg.Ext w w') : w'.rangeAt g o cs := fun j v hv => hx.at_ (h j v hv)
theorem RdS.ext {v : Value} {xs : List S} {w w' : World} (h : RdS v xs w) (hx : Reg.Ext w w') : RdS v xs w' := by
 obtain ⟨h1, p, c, h2, h3, h4⟩ := h
 refine ⟨h1, p, c, h2, h3, fun j hj => ?_⟩
 obtain ⟨g, o, hp, hr⟩ := h4 j hj
 exact ⟨g, o, hp, rangeAt_ext hr hx⟩
theorem flat_at : ∀ (xs : List S) (h : ∀ x ∈ xs, x.dig.length = 32) (j : Nat) (hj : j < xs.length) (i : Nat) (v : Value), (xs[j].cells)[i]? = some v → (flat xs)[j * 38 + i]? = some v
 | [], _, j, hj, _, _, _ => by cases hj
 | x :: xs, h, 0, _, i, v, hv => by
   have hv : x.cells[i]? = some v := hv
   have e : flat (x :: xs) = x.cells ++ flat xs := by simp [flat]
   rw [e, Nat.zero_mul, Nat.zero_add, List.getElem?_append_left (List.getElem?_eq_some_iff.1 hv).1]
   exact hv
 | x :: xs, h, j + 1, hj, i, v, hv => by
   have e : flat (x :: xs) = x.cells ++ flat xs := by simp [flat]
   have hl := cells_length x (h x (List.mem_cons_self ..))
   rw [e, List.getElem?_append_right (by rw [hl]; omega), hl, show (j + 1) * 38 + i - 38 = j * 38 + i by omega]
   exact flat_at xs (fun y hy => h y (List.mem_cons_of_mem _ hy)) j (by simpa using hj) i v hv
theorem Row.rd {B : Nat} {v : Value} {xs : List S} {w : World} (h : Row B v xs w) : RdS v xs w := by
 refine ⟨h.2, ?_⟩
 rcases h.1.2 with ⟨rfl, h0⟩ | ⟨g, cap, cur, rfl, _, hg, hn, hm, _, _⟩
 ·have : xs = [] := List.length_eq_zero_iff.1 h0
  subst this
  exact ⟨none, 0, rfl, by simp, fun j hj => by cases hj⟩
 ·refine ⟨_, cap, rfl, by omega, fun j hj => ⟨g, 0, rfl, fun i u hu => ?_⟩⟩
  have := h.1.cells (g := g) rfl (j * 38 + i) u (flat_at xs h.2 j hj i u hu)
  rw [Addr.add_mid] at this
  rw [show 0 + j * 38 + i = 0 + (j * 38 + i) by omega]
  exact this
end Slp
end Go.Proofs.YtafeealbdpmdkaaGreatDoor
/- The walk of slip.All: the slips of a text, one behind the other. -/
namespace Go.Proofs.YtafeealbdpmdkaaGreatDoor
open Go.RowKit
namespace Slp
set_option maxRecDepth 100000 in
set_option maxHeartbeats 4000000 in
theorem all_any (s : ByteArray) (w : World) (hs : s.size ≤ 1048576) (hT : Crc.Tab w) :
  Calls Tryz.prog 37 #[.string s] w fun e w' => ∃ v, e = .returned (.tuple #[v, .int .i64 ((allP s.data.toList).2 : Int)]) ∧ Row w.heap.size v (allP s.data.toList).1 w' ∧ Reg.Ext w w' := by
 have HT := y_ hT
 clear hT
 have hlen := len_data s
 obtain ⟨i0, hi, hz0, hz1, hz2, hz3⟩ := slipInfo_of
 go_enter Tryz.func37, Tryz.ntmps37
 go_wp2_with fail
 go_loopw [2, 3, 4, 5, 6] (fun v n _ _ _ wr => ∃ (xs : List S) (k : Nat), Hid (Got s.data.toList xs k ∧ 7 * xs.length ≤ k) ∧ n = .int .i64 (k : Int) ∧ Hid (Row w.heap.size v xs wr) ∧ Hid (Reg.Ext w wr)) (fun _ n _ _ _ _ => s.size - (intOf n).toNat)
 case atStart => exact ⟨[], 0, ⟨Got.zero _, by simp⟩, rfl, ⟨World.ownsRow_nil _ _ _ _, by simp⟩, Reg.Ext.refl w⟩
 case round =>
  obtain ⟨xs, k, HG, rfl, HR, HX⟩ := hrel
  have hkl := HG.out.1.1
  rw [len_data] at hkl
  obtain ⟨t, ht⟩ : ∃ t, t = s.extract k s.size := ⟨_, rfl⟩
  have HTL : Hid (t.data.toList = s.data.toList.drop k) := by show _ = _; rw [ht, ext_from]
  have hts : t.size ≤ 1048576 := by rw [ht]; exact ext_le _ _ _ hs
  have CR := y_ (read_any t wr hts (HT.out.below HX.out))
  have HRT := y_ ht
  clear ht hts
  obtain ⟨x, n, er, hp⟩ : ∃ x n er, readP (s.data.toList.drop k) = (x, n, er) := ⟨_, _, _, rfl⟩
  have hx := readP_dig (s.data.toList.drop k)
  rw [hp] at hx
  have hrv : readV t.data.toList = .tuple #[.agg x.cells.toArray, .int .i64 (n : Int), .int .i64 (er : Int)] := by unfold readV; rw [HTL.out, hp]
  rw [hrv] at CR
  have HN : Hid (er = 0 → (Got s.data.toList (xs ++ [x]) (k + n) ∧ 7 * (xs ++ [x]).length ≤ k + n) ∧ 7 ≤ n ∧ k + n ≤ s.size) := fun he => by
   have h0 : (readP (s.data.toList.drop k)).2.2 = 0 := by rw [hp]; exact he
   have h1 := HG.out.1.next h0
   have h2 := (readP_ok h0).2.2
   have h3 := h1.1
   have h4 := HG.out.2
   rw [hp] at h1 h2 h3
   rw [len_data] at h3
   simp only at h2 h3
   exact ⟨⟨h1, by rw [List.length_append]; simp only [List.length_cons, List.length_nil]; omega⟩, h2.1, h3⟩
  have HE : Hid (er ≠ 0 → allP s.data.toList = (xs, k)) := fun he => HG.out.1.done (by rw [hp]; exact he)
  have hx7 := HG.out.2
  clear hp hrv HG HTL
  go_wp2_with fail
  rw [← HRT.out]
  refine (CR.out).mono ?_
  rintro e wj ⟨rfl, xj⟩
  rename_i hK
  refine hK _ _ ?_
  have HR1 := y_ (HR.out.ext xj)
  have HX1 := y_ (HX.out.trans xj)
  clear CR HR HX xj HRT
  iterate 15 go_step
  rw [z38]
  have hb8 := boxS wj S.none
  have hx8 := Reg.Ext.alloc wj (Obj.cells S.none.cells.toArray 39)
  have hsx := HX1.out.size
  generalize wj.alloc (Obj.cells S.none.cells.toArray 39) = w8 at *
  obtain ⟨g8, hg8⟩ : ∃ g8, wj.heap.size = g8 := ⟨_, rfl⟩
  rw [hg8] at hb8 ⊢
  refine wpList_store_mid rfl 39 _ _ rfl g8 0 ((x).cells).toArray rfl ?_ (hb8.there _ (by have e1 := cells_length _ hx; have e2 := cells_length _ none_dig; rw [z_a]; omega)) (by rw [z_a, cells_length _ hx]; exact size38) (all_oneCell_toArray (oneS _)) ?_
  ·rfl
  simp only [z_c]
  simp only [z_1, z_2, z_3, z_4, z_5, z_b, z_6, z_7, z_8, z_9, z_0]
  have hbx := But.setCells g8 x.cells 0 w8
  have H8 := y_ (hb8.setAll x.cells ((cells_length _ hx).trans (cells_length _ none_dig).symm))
  have HR2 := y_ (HR1.out.fresh hx8 hbx (by omega))
  have HX2 := y_ ((HX1.out.trans hx8).trans_but hbx (by omega))
  clear HR1 HX1 hx8 hb8 hbx hg8 hsx
  generalize w8.setCells g8 0 x.cells = wi at *
  clear w8
  by_cases he : er = 0
  ·have hn := HN.out he
   have HG2 := y_ hn.1
   have hn7 := hn.2
   have de : ((er : Int) != 0) = false := by rw [he]; rfl
   clear HN HE hn he
   go_upto_region 4 with (fail)
   refine wp_region_lit ?_
   iterate 3 go_step
   refine wpList_load_row rfl 39 _ rfl g8 rfl 39 (x.cells).toArray (0, 0) _ H8.out undS rfl (by rw [z_a, cells_length x hx]; exact size38) ?_
   simp only [z_1, z_2, z_3, z_4, z_5, z_b, z_6, z_7, z_8, z_9, z_0]
   refine wpList_valw rfl _ (exec_one_row wi _ _ (.tmp 20) 29 39 x.cells.toArray rfl rfl i0 (.agg S.none.cells.toArray) Tryz.underlying29 hi hz0 (by rw [hz1, z_a, cells_length x hx]) (by rw [z_a, cells_length x hx]; decide) (by rw [z_a, cells_length x hx]; decide)) ?_
   simp only [z_1, z_2, z_3, z_4, z_5, z_b, z_6, z_7, z_8, z_9, z_0]
   have hb9 := boxS wi x
   have hx9 := Reg.Ext.alloc wi (Obj.cells x.cells.toArray 39)
   have HR3 := y_ (HR2.out.ext hx9)
   have HX3 := y_ (HX2.out.trans hx9)
   clear HR2 HX2 hx9
   generalize wi.alloc (Obj.cells x.cells.toArray 39) = w9 at *
   generalize wi.heap.size = g9 at *
   refine wpList_append_own _ rfl _ _ 29 rfl w.heap.size 39 i0 (.agg S.none.cells.toArray) 38 104 Tryz.underlying29 hi hz0 hz1 hz2 hz3 (by decide) u2 xs.length (flat xs) rfl HR3.out.1 ⟨g9, 0, none⟩ 1 1 x.cells rfl (cells_length x hx) ?c1 ?c2 ?c3 ?c4 ?c5 ?_
   case c1 =>
    intro j u hj
    rw [Addr.add_mid, Nat.zero_add, hb9.cell]
    exact hj
   case c2 => exact oneS x
   case c3 => unfold maxLen; omega
   case c4 => omega
   case c5 => exact HX3.out.size
   intro v' w2 hown' hgrow _
   have HR4 : Hid (Row w.heap.size v' (xs ++ [x]) w2) := ⟨by rw [flat_snoc, List.length_append]; exact hown', fun y hy => (List.mem_append.1 hy).elim (HR3.out.2 y) fun h => by rw [List.mem_singleton.1 h]; exact hx⟩
   have HX4 : Hid (Reg.Ext w w2) := Below.grown HX3.out hgrow HX3.out.size (fun k hk => (HR3.out.1.lt k hk).1)
   clear hown' hgrow HR3 HX3 H8 hb9
   simp only [z_1, z_2, z_3, z_4, z_5, z_b, z_6, z_7, z_8, z_9, z_0]
   go_wp2_with fail
   go_roundw
   case rel => exact ⟨xs ++ [x], k + n, HG2, by go_num, HR4, HX4⟩
   case measure => simp [intOf]; omega
  ·have HA := y_ (HE.out he)
   have de : ((er : Int) != 0) = true := by rw [bne_iff_ne]; omega
   clear HN HE he H8
   go_wp2_with fail
   go_ret2
   exact ⟨u2, by rw [HA.out]; rfl, by rw [HA.out]; exact HR2.out, HX2.out⟩
end Slp
end Go.Proofs.YtafeealbdpmdkaaGreatDoor

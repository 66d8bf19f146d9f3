/- The document's disk beside the plain one: On. -/
import Derived.Test.YtbiikihapfpkfaaRefM
import Derived.Test.YtbiikihapfpkfaaPlkQ
set_option linter.unusedSimpArgs false
set_option linter.unusedVariables false
set_option linter.unusedSectionVars false
namespace Go.Proofs.Ytbiikihapfpkfaa
open Go Go.RowKit
namespace Rk
open Plk (F P H isName sum onL lost keptN)
/-- what On has gathered -/
structure OnR (w1 wr : World) (fs : List F) (ks : List Int) (kk i : Nat) (v : Value) (out : List F) : Prop where
  own : FOw w1 wr v out
  len : out.length = i
  now : out ++ onL (fs.drop i) (ks.drop kk) = onL fs ks
theorem kept_of (f : F) (x : Int) (hs : f.safe < f.l.length) (hl : f.l.length ≤ 4194304) (hx : 0 < x) : ∃ kp : Nat, wrap64 (x % ((f.l.length : Int) - (f.safe : Int) + 1)) = (kp : Int) ∧ keptN f (max x 0).toNat = f.safe + kp ∧ f.safe + kp ≤ f.l.length := by
  obtain ⟨n, rfl⟩ := Int.eq_ofNat_of_zero_le (Int.le_of_lt hx)
  have e1 : ((f.l.length : Int) - (f.safe : Int) + 1) = ((f.l.length - f.safe + 1 : Nat) : Int) := by omega
  have e2 : (max (n : Int) 0).toNat = n := by omega
  have hlt := Nat.mod_lt n (show 0 < f.l.length - f.safe + 1 by omega)
  refine ⟨n % (f.l.length - f.safe + 1), ?_, ?_, by omega⟩
  · rw [e1, ← Int.natCast_emod, IntWalk.wrap64_in _ ⟨by omega, by omega⟩]
  · unfold keptN
    rw [e2]
theorem cut_ext (l : List UInt8) (m : Nat) : (⟨l.toArray⟩ : ByteArray).extract 0 m = ⟨(l.take m).toArray⟩ := by
  apply ByteArray.ext
  rw [ByteArray.data_extract]
  apply Array.ext'
  simp
theorem kept_zero (f : F) : keptN f 0 = f.safe := by
  unfold keptN
  rw [Nat.zero_mod, Nat.add_zero]
set_option maxRecDepth 100000 in
set_option maxHeartbeats 1000000 in
theorem on_any (w : World) (b : Nat) (v : Value) (r : R) (h : RD w b v r) (q : Option Addr) (c : Nat) (ks : List Int) (hk : Rd w q (ks.map (Value.int .i64))) (hkb : ∀ ad, ks ≠ [] → q = some ad → ad.block ≠ b)
    (hx : ∀ x ∈ ks, -9223372036854775808 ≤ x ∧ x ≤ 9223372036854775807) (hks : ks.length ≤ 100) (hl : r.l.length ≤ 200) (hsf : ∀ f ∈ r.l, f.safe ≤ f.l.length) (hll : ∀ f ∈ r.l, f.l.length ≤ 4194304) :
    Calls Try.prog 38 #[.pointer (some ⟨b, 0, none⟩), .slice q ks.length c] w fun e w' => e = .returned (.tuple #[]) ∧ ∃ v', RD w' b v' (if r.off = true then { r with off := false, l := onL r.l ks } else r) ∧ But b w w' ∧ Newer w v v' := by
  obtain ⟨c0, c1, c2, c3, c4, c5, c6⟩ := h.c
  have f6 := h.blk.frozen 6
  obtain ⟨A, cap, hv⟩ := h.row.len
  subst hv
  obtain ⟨fs, room, ops, at_, kind, more, off⟩ := r
  dsimp only at *
  cases off with
  | false =>
    rw [if_neg Bool.false_ne_true]
    go_enter Try.func38, Try.ntmps38
    go_wp2
    refine bodyPost_ret (results_none rfl _ _ _) rfl ?_
    exact ⟨rfl, _, h, But.refl _ _, Newer.refl _ _⟩
  | true =>
    rw [if_pos rfl]
    have h1 : RD (w.setCell ⟨b, 6, none⟩ (.bool false)) b (.slice A fs.length cap) ⟨fs, room, ops, at_, kind, more, false⟩ := h.set_ 6 _ rfl rfl
    have hb1 : But b w (w.setCell ⟨b, 6, none⟩ (.bool false)) := But.set_ b w 6 _
    have hk1 : ∀ j (hj : j < ks.length), ∃ ad, q = some ad ∧ ad.block < (w.setCell ⟨b, 6, none⟩ (.bool false)).heap.size ∧ (w.setCell ⟨b, 6, none⟩ (.bool false)).cell? (ad.add j) = some (.int .i64 ks[j]) := fun j hj => by
      obtain ⟨ad, e, hlt, hcl⟩ := hk j (by rw [List.length_map]; exact hj)
      refine ⟨ad, e, by rw [World.size_setCell]; exact hlt, ?_⟩
      have hbk : (ad.add j).block = ad.block := by unfold Addr.add; split <;> rfl
      rw [World.cell?_of_block (w := w) (by rw [hbk]; exact hb1.block ad.block hlt fun e2 => hkb ad (fun e3 => by rw [e3] at hj; exact absurd hj (Nat.not_lt_zero _)) e (by injection e2)), hcl]
      simp
    have HK := Lib.hid hk1
    have H1 := Lib.hid h1
    have HB1 := Lib.hid hb1
    have HX := Lib.hid hx
    have HSF := Lib.hid hsf
    have HLL := Lib.hid hll
    go_enter Try.func38, Try.ntmps38
    go_wp2_with fail
    clear c0 c1 c2 c3 c4 c5 c6 f6 h1 hb1 hk1 hx hsf hll hk hkb h
    have hn0 := FOw.new (Reg.Ext.refl (w.setCell ⟨b, 6, none⟩ (.bool false)))
    rw [World.size_setCell] at hn0
    have HN := Lib.hid hn0
    have hsz : Hid (w.heap.size ≤ (w.setCell ⟨b, 6, none⟩ (.bool false)).heap.size) := Lib.hid (by rw [World.size_setCell]; exact Nat.le_refl _)
    clear hn0
    generalize w.setCell ⟨b, 6, none⟩ (.bool false) = w1 at *
    go_loopw [4, 5, 6, 7, 8, 9] (fun k o i _ _ _ wr => ∃ (kk j : Nat) (out : List F), k = .int .i64 (kk : Int) ∧ i = .int .i64 (j : Int) ∧ j ≤ fs.length ∧ kk ≤ j ∧ Hid (OnR w1 wr fs ks kk j o out)) (fun _ _ i _ _ _ _ => fs.length - (intOf i).toNat)
    case atStart => exact ⟨0, 0, [], rfl, rfl, Nat.zero_le _, Nat.le_refl _, Lib.hid ⟨HN.out, rfl, rfl⟩⟩
    case round =>
      obtain ⟨kk, j, out, rfl, rfl, hj, hkj, HO⟩ := hrel
      by_cases hjs : j < fs.length
      · rcases H1.out.row.form with ⟨_, h2⟩ | ⟨g, cap', h2, _, _, _⟩
        · have h2 : fs = [] := h2
          rw [h2] at hjs; exact absurd hjs (Nat.not_lt_zero _)
        injection h2 with h2 h2b h3
        clear h2b
        subst h2 h3
        have c0 := (H1.out.ext HO.out.own.2).c.1
        have hrg := (H1.out.ext HO.out.own.2).row.range j hjs
        have hsf := HSF.out _ (List.getElem_mem hjs)
        have hll := HLL.out _ (List.getElem_mem hjs)
        have hdr : fs.drop j = fs[j] :: fs.drop (j + 1) := List.drop_eq_getElem_cons hjs
        have HDR := Lib.hid hdr
        clear hdr
        generalize fs[j] = f at *
        go_upto_region 7 with (fail)
        refine wp_region_lit ?_
        iterate 18 go_step
        refine wpList_file rfl _ rfl g (j * 3) rfl f hrg ?_
        simp only [Act.put, Act.eval, List.setIfInBounds_toArray, List.set_cons_zero, List.set_cons_succ, Nat.reduceAdd, Array.getD_eq_getD_getElem?, List.getElem?_toArray, List.getElem?_cons_succ, List.getElem?_cons_zero, Option.getD_some]
        iterate 3 go_step
        have hbf := Blk.new wr 59 #[.string ⟨#[]⟩, .string ⟨#[]⟩, .int .i64 0]
        refine wpList_stfile rfl _ _ rfl wr.heap.size 0 f rfl rfl (hbf.there 3 (Nat.le_refl _)) ?_
        simp only [Act.put, Act.eval, List.setIfInBounds_toArray, List.set_cons_zero, List.set_cons_succ, Nat.reduceAdd, Array.getD_eq_getD_getElem?, List.getElem?_toArray, List.getElem?_cons_succ, List.getElem?_cons_zero, Option.getD_some]
        clear hbf
        obtain ⟨hb8, hx8⟩ := newfile wr f #[.string ⟨#[]⟩, .string ⟨#[]⟩, .int .i64 0] rfl
        generalize (wr.alloc (Obj.cells #[.string ⟨#[]⟩, .string ⟨#[]⟩, .int .i64 0] 59)).setCells wr.heap.size 0 (fcs f) = w8 at *
        have k1 := hb8.cell 1
        have k2 := hb8.cell 2
        have fz1 := hb8.frozen 1
        have fz2 := hb8.frozen 2
        dsimp only [fcs, List.getElem?_cons_zero, List.getElem?_cons_succ] at k1 k2
        have hz := bz f.l
        have HB8 := Lib.hid hb8
        have HX8 := Lib.hid hx8
        clear hb8 hx8 hrg c0
        by_cases hs : f.safe = f.l.length
        · have hf' : (⟨f.name, f.l, f.l.length⟩ : F) = f := by rw [← hs]
          have HF' := Lib.hid hf'
          have HS' := Lib.hid hs
          clear hf'
          go_upto_region 16 with (fail)
          have hb9 : Blk (w8.setCell ⟨wr.heap.size, 2, none⟩ (.int .i64 (f.l.length : Int))) wr.heap.size 59 (fcs f) := by
            have := HB8.out.set_ 2 (.int .i64 (f.l.length : Int))
            have e : (fcs f).set 2 (.int .i64 (f.l.length : Int)) = fcs f := by
              conv => rhs; rw [← HF'.out]
              rfl
            rw [e] at this
            exact this
          have HB9 := Lib.hid hb9
          have HX9 : Hid (Reg.Ext wr (w8.setCell ⟨wr.heap.size, 2, none⟩ (.int .i64 (f.l.length : Int)))) := Lib.hid (HX8.out.trans_but (But.set_ wr.heap.size w8 2 _) (Nat.le_refl _))
          clear hb9
          generalize w8.setCell ⟨wr.heap.size, 2, none⟩ (.int .i64 (f.l.length : Int)) = w9 at *
          refine wp_region_lit ?_
          iterate 3 go_step
          refine wpList_file rfl _ rfl wr.heap.size 0 rfl f (blk_range HB9.out) ?_
          simp only [Act.put, Act.eval, List.setIfInBounds_toArray, List.set_cons_zero, List.set_cons_succ, Nat.reduceAdd, Array.getD_eq_getD_getElem?, List.getElem?_toArray, List.getElem?_cons_succ, List.getElem?_cons_zero, Option.getD_some]
          refine one_file rfl _ rfl f rfl _ ?_
          simp only [Act.put, Act.eval, List.setIfInBounds_toArray, List.set_cons_zero, List.set_cons_succ, Nat.reduceAdd, Array.getD_eq_getD_getElem?, List.getElem?_toArray, List.getElem?_cons_succ, List.getElem?_cons_zero, Option.getD_some]
          refine FOw.push rfl _ _ rfl w1 _ out f rfl _ _ ((HO.out.own.later HX9.out).later (Reg.Ext.alloc _ _)) rfl (Blk.new _ _ _) (by have := HO.out.len; omega) ?_
          intro v3 w3 hf3
          simp only [Act.put, Act.eval, List.setIfInBounds_toArray, List.set_cons_zero, List.set_cons_succ, Nat.reduceAdd, Array.getD_eq_getD_getElem?, List.getElem?_toArray, List.getElem?_cons_succ, List.getElem?_cons_zero, Option.getD_some]
          have F3 := Lib.hid hf3
          clear hf3
          go_wp2_with fail
          go_roundw
          case rel =>
            refine ⟨kk, j + 1, out ++ [f], rfl, by go_num, by omega, by omega, Lib.hid ⟨F3.out, by rw [List.length_append, HO.out.len]; rfl, ?_⟩⟩
            have h := HO.out.now
            rw [HDR.out] at h
            conv at h => lhs; rhs; unfold onL
            rw [if_pos HS'.out] at h
            rw [List.append_assoc]
            exact h
          case measure => simp [intOf]; omega
        · have hs2 : f.safe < f.l.length := by omega
          by_cases hkl : kk < ks.length
          · obtain ⟨ad, rfl, hadl, hkc0⟩ := HK.out kk hkl
            have hkc : w8.cell? (ad.add kk) = some (.int .i64 ks[kk]) := ((HO.out.own.2.trans HX8.out).cell (p := ad.add kk) (by unfold Addr.add; split <;> simpa using hadl)).trans hkc0
            have hxb := HX.out _ (List.getElem_mem hkl)
            have hdk : ks.drop kk = ks[kk] :: ks.drop (kk + 1) := List.drop_eq_getElem_cons hkl
            have HDK := Lib.hid hdk
            clear hdk hkc0
            generalize ks[kk] = x at *
            obtain ⟨x1, x2⟩ := hxb
            by_cases hxp : 0 < x
            · obtain ⟨kp, hkp, hkn, hkle⟩ := kept_of f x hs2 hll hxp
              have HKN := Lib.hid hkn
              clear hkn
              have HNS := Lib.hid hs
              go_upto_region 15 with (fail)
              rw [cut_ext]
              have hb7 : Blk (w8.setCell ⟨wr.heap.size, 1, none⟩ (.string ⟨(f.l.take (f.safe + kp)).toArray⟩)) wr.heap.size 59 (fcs ⟨f.name, f.l.take (f.safe + kp), f.safe⟩) := HB8.out.set_ 1 _
              have HX7 : Hid (Reg.Ext wr (w8.setCell ⟨wr.heap.size, 1, none⟩ (.string ⟨(f.l.take (f.safe + kp)).toArray⟩))) := Lib.hid (HX8.out.trans_but (But.set_ wr.heap.size w8 1 _) (Nat.le_refl _))
              have htl : (f.l.take (f.safe + kp)).length = (f.safe + kp) := by rw [List.length_take]; omega
              have hzt := bz (f.l.take (f.safe + kp))
              rw [htl] at hzt
              generalize htk : f.l.take (f.safe + kp) = tl at *
              generalize w8.setCell ⟨wr.heap.size, 1, none⟩ (.string ⟨tl.toArray⟩) = w7 at *
              have k3 := hb7.cell 1
              have k4 := hb7.cell 2
              have fz3 := hb7.frozen 2
              dsimp only [fcs, List.getElem?_cons_zero, List.getElem?_cons_succ] at k3 k4
              have hb9 : Blk (w7.setCell ⟨wr.heap.size, 2, none⟩ (.int .i64 ((f.safe : Int) + (kp : Int)))) wr.heap.size 59 (fcs ⟨f.name, tl, (f.safe + kp)⟩) := hb7.set_ 2 _
              have HB9 := Lib.hid hb9
              have HX9 : Hid (Reg.Ext wr (w7.setCell ⟨wr.heap.size, 2, none⟩ (.int .i64 ((f.safe : Int) + (kp : Int))))) := Lib.hid (HX7.out.trans_but (But.set_ wr.heap.size w7 2 _) (Nat.le_refl _))
              have HTK := Lib.hid htk
              clear hb9 hb7 k1 k2 fz1 fz2 htk htl
              go_upto_region 16 with (fail)
              generalize w7.setCell ⟨wr.heap.size, 2, none⟩ (.int .i64 ((f.safe : Int) + (kp : Int))) = w9 at *
              refine wp_region_lit ?_
              iterate 3 go_step
              refine wpList_file rfl _ rfl wr.heap.size 0 rfl ⟨f.name, tl, (f.safe + kp)⟩ (blk_range HB9.out) ?_
              simp only [Act.put, Act.eval, List.setIfInBounds_toArray, List.set_cons_zero, List.set_cons_succ, Nat.reduceAdd, Array.getD_eq_getD_getElem?, List.getElem?_toArray, List.getElem?_cons_succ, List.getElem?_cons_zero, Option.getD_some]
              refine one_file rfl _ rfl ⟨f.name, tl, (f.safe + kp)⟩ rfl _ ?_
              simp only [Act.put, Act.eval, List.setIfInBounds_toArray, List.set_cons_zero, List.set_cons_succ, Nat.reduceAdd, Array.getD_eq_getD_getElem?, List.getElem?_toArray, List.getElem?_cons_succ, List.getElem?_cons_zero, Option.getD_some]
              refine FOw.push rfl _ _ rfl w1 _ out ⟨f.name, tl, (f.safe + kp)⟩ rfl _ _ ((HO.out.own.later HX9.out).later (Reg.Ext.alloc _ _)) rfl (Blk.new _ _ _) (by have := HO.out.len; omega) ?_
              intro v3 w3 hf3
              simp only [Act.put, Act.eval, List.setIfInBounds_toArray, List.set_cons_zero, List.set_cons_succ, Nat.reduceAdd, Array.getD_eq_getD_getElem?, List.getElem?_toArray, List.getElem?_cons_succ, List.getElem?_cons_zero, Option.getD_some]
              have F3 := Lib.hid hf3
              clear hf3
              go_wp2_with fail
              go_roundw
              case rel =>
                refine ⟨kk + 1, j + 1, out ++ [⟨f.name, tl, (f.safe + kp)⟩], by go_num, by go_num, by omega, by omega, Lib.hid ⟨F3.out, by rw [List.length_append, HO.out.len]; rfl, ?_⟩⟩
                have h := HO.out.now
                rw [HDR.out, HDK.out] at h
                conv at h => lhs; rhs; unfold onL
                rw [if_neg HNS.out] at h
                have hlo : lost f (max x 0).toNat = ⟨f.name, tl, (f.safe + kp)⟩ := by
                  unfold lost
                  rw [HKN.out, HTK.out]
                rw [List.append_assoc]
                refine Eq.trans ?_ h
                show out ++ (⟨f.name, tl, (f.safe + kp)⟩ :: _) = _
                rw [← hlo]
                rfl
              case measure => simp [intOf]; omega
            · have hkn : keptN f (max x 0).toNat = f.safe := by rw [show (max x 0).toNat = 0 by omega, kept_zero]
              have HKN := Lib.hid hkn
              have HNS := Lib.hid hs
              clear hkn
              go_upto_region 15 with (fail)
              rw [cut_ext]
              have hb7 : Blk (w8.setCell ⟨wr.heap.size, 1, none⟩ (.string ⟨(f.l.take f.safe).toArray⟩)) wr.heap.size 59 (fcs ⟨f.name, f.l.take f.safe, f.safe⟩) := HB8.out.set_ 1 _
              have HX7 : Hid (Reg.Ext wr (w8.setCell ⟨wr.heap.size, 1, none⟩ (.string ⟨(f.l.take f.safe).toArray⟩))) := Lib.hid (HX8.out.trans_but (But.set_ wr.heap.size w8 1 _) (Nat.le_refl _))
              have htl : (f.l.take f.safe).length = f.safe := by rw [List.length_take]; omega
              have hzt := bz (f.l.take f.safe)
              rw [htl] at hzt
              generalize htk : f.l.take f.safe = tl at *
              generalize w8.setCell ⟨wr.heap.size, 1, none⟩ (.string ⟨tl.toArray⟩) = w7 at *
              have k3 := hb7.cell 1
              have k4 := hb7.cell 2
              have fz3 := hb7.frozen 2
              dsimp only [fcs, List.getElem?_cons_zero, List.getElem?_cons_succ] at k3 k4
              have hb9 : Blk (w7.setCell ⟨wr.heap.size, 2, none⟩ (.int .i64 (f.safe : Int))) wr.heap.size 59 (fcs ⟨f.name, tl, f.safe⟩) := hb7.set_ 2 _
              have HB9 := Lib.hid hb9
              have HX9 : Hid (Reg.Ext wr (w7.setCell ⟨wr.heap.size, 2, none⟩ (.int .i64 (f.safe : Int)))) := Lib.hid (HX7.out.trans_but (But.set_ wr.heap.size w7 2 _) (Nat.le_refl _))
              have HTK := Lib.hid htk
              clear hb9 hb7 k1 k2 fz1 fz2 htk htl
              go_upto_region 16 with (fail)
              generalize w7.setCell ⟨wr.heap.size, 2, none⟩ (.int .i64 (f.safe : Int)) = w9 at *
              refine wp_region_lit ?_
              iterate 3 go_step
              refine wpList_file rfl _ rfl wr.heap.size 0 rfl ⟨f.name, tl, f.safe⟩ (blk_range HB9.out) ?_
              simp only [Act.put, Act.eval, List.setIfInBounds_toArray, List.set_cons_zero, List.set_cons_succ, Nat.reduceAdd, Array.getD_eq_getD_getElem?, List.getElem?_toArray, List.getElem?_cons_succ, List.getElem?_cons_zero, Option.getD_some]
              refine one_file rfl _ rfl ⟨f.name, tl, f.safe⟩ rfl _ ?_
              simp only [Act.put, Act.eval, List.setIfInBounds_toArray, List.set_cons_zero, List.set_cons_succ, Nat.reduceAdd, Array.getD_eq_getD_getElem?, List.getElem?_toArray, List.getElem?_cons_succ, List.getElem?_cons_zero, Option.getD_some]
              refine FOw.push rfl _ _ rfl w1 _ out ⟨f.name, tl, f.safe⟩ rfl _ _ ((HO.out.own.later HX9.out).later (Reg.Ext.alloc _ _)) rfl (Blk.new _ _ _) (by have := HO.out.len; omega) ?_
              intro v3 w3 hf3
              simp only [Act.put, Act.eval, List.setIfInBounds_toArray, List.set_cons_zero, List.set_cons_succ, Nat.reduceAdd, Array.getD_eq_getD_getElem?, List.getElem?_toArray, List.getElem?_cons_succ, List.getElem?_cons_zero, Option.getD_some]
              have F3 := Lib.hid hf3
              clear hf3
              go_wp2_with fail
              go_roundw
              case rel =>
                refine ⟨kk + 1, j + 1, out ++ [⟨f.name, tl, f.safe⟩], by go_num, by go_num, by omega, by omega, Lib.hid ⟨F3.out, by rw [List.length_append, HO.out.len]; rfl, ?_⟩⟩
                have h := HO.out.now
                rw [HDR.out, HDK.out] at h
                conv at h => lhs; rhs; unfold onL
                rw [if_neg HNS.out] at h
                have hlo : lost f (max x 0).toNat = ⟨f.name, tl, f.safe⟩ := by
                  unfold lost
                  rw [HKN.out, HTK.out]
                rw [List.append_assoc]
                refine Eq.trans ?_ h
                show out ++ (⟨f.name, tl, f.safe⟩ :: _) = _
                rw [← hlo]
                rfl
              case measure => simp [intOf]; omega
          · have hdk : ks.drop kk = [] := List.drop_of_length_le (by omega)
            have HDK := Lib.hid hdk
            have hkn : keptN f (max (0 : Int) 0).toNat = f.safe := kept_zero f
            have HKN := Lib.hid hkn
            have HNS := Lib.hid hs
            have hdk2 : ks.drop (kk + 1) = [] := List.drop_of_length_le (by omega)
            have HDK2 := Lib.hid hdk2
            clear hkn hdk hdk2
            go_upto_region 15 with (fail)
            rw [cut_ext]
            have hb7 : Blk (w8.setCell ⟨wr.heap.size, 1, none⟩ (.string ⟨(f.l.take f.safe).toArray⟩)) wr.heap.size 59 (fcs ⟨f.name, f.l.take f.safe, f.safe⟩) := HB8.out.set_ 1 _
            have HX7 : Hid (Reg.Ext wr (w8.setCell ⟨wr.heap.size, 1, none⟩ (.string ⟨(f.l.take f.safe).toArray⟩))) := Lib.hid (HX8.out.trans_but (But.set_ wr.heap.size w8 1 _) (Nat.le_refl _))
            have htl : (f.l.take f.safe).length = f.safe := by rw [List.length_take]; omega
            have hzt := bz (f.l.take f.safe)
            rw [htl] at hzt
            generalize htk : f.l.take f.safe = tl at *
            generalize w8.setCell ⟨wr.heap.size, 1, none⟩ (.string ⟨tl.toArray⟩) = w7 at *
            have k3 := hb7.cell 1
            have k4 := hb7.cell 2
            have fz3 := hb7.frozen 2
            dsimp only [fcs, List.getElem?_cons_zero, List.getElem?_cons_succ] at k3 k4
            have hb9 : Blk (w7.setCell ⟨wr.heap.size, 2, none⟩ (.int .i64 (f.safe : Int))) wr.heap.size 59 (fcs ⟨f.name, tl, f.safe⟩) := hb7.set_ 2 _
            have HB9 := Lib.hid hb9
            have HX9 : Hid (Reg.Ext wr (w7.setCell ⟨wr.heap.size, 2, none⟩ (.int .i64 (f.safe : Int)))) := Lib.hid (HX7.out.trans_but (But.set_ wr.heap.size w7 2 _) (Nat.le_refl _))
            have HTK := Lib.hid htk
            clear hb9 hb7 k1 k2 fz1 fz2 htk htl
            go_upto_region 16 with (fail)
            generalize w7.setCell ⟨wr.heap.size, 2, none⟩ (.int .i64 (f.safe : Int)) = w9 at *
            refine wp_region_lit ?_
            iterate 3 go_step
            refine wpList_file rfl _ rfl wr.heap.size 0 rfl ⟨f.name, tl, f.safe⟩ (blk_range HB9.out) ?_
            simp only [Act.put, Act.eval, List.setIfInBounds_toArray, List.set_cons_zero, List.set_cons_succ, Nat.reduceAdd, Array.getD_eq_getD_getElem?, List.getElem?_toArray, List.getElem?_cons_succ, List.getElem?_cons_zero, Option.getD_some]
            refine one_file rfl _ rfl ⟨f.name, tl, f.safe⟩ rfl _ ?_
            simp only [Act.put, Act.eval, List.setIfInBounds_toArray, List.set_cons_zero, List.set_cons_succ, Nat.reduceAdd, Array.getD_eq_getD_getElem?, List.getElem?_toArray, List.getElem?_cons_succ, List.getElem?_cons_zero, Option.getD_some]
            refine FOw.push rfl _ _ rfl w1 _ out ⟨f.name, tl, f.safe⟩ rfl _ _ ((HO.out.own.later HX9.out).later (Reg.Ext.alloc _ _)) rfl (Blk.new _ _ _) (by have := HO.out.len; omega) ?_
            intro v3 w3 hf3
            simp only [Act.put, Act.eval, List.setIfInBounds_toArray, List.set_cons_zero, List.set_cons_succ, Nat.reduceAdd, Array.getD_eq_getD_getElem?, List.getElem?_toArray, List.getElem?_cons_succ, List.getElem?_cons_zero, Option.getD_some]
            have F3 := Lib.hid hf3
            clear hf3
            go_wp2_with fail
            go_roundw
            case rel =>
              refine ⟨kk + 1, j + 1, out ++ [⟨f.name, tl, f.safe⟩], by go_num, by go_num, by omega, by omega, Lib.hid ⟨F3.out, by rw [List.length_append, HO.out.len]; rfl, ?_⟩⟩
              have h := HO.out.now
              rw [HDR.out, HDK.out] at h
              conv at h => lhs; rhs; unfold onL
              rw [if_neg HNS.out] at h
              have hlo : lost f (max (0 : Int) 0).toNat = ⟨f.name, tl, f.safe⟩ := by
                unfold lost
                rw [HKN.out, HTK.out]
              rw [List.append_assoc]
              refine Eq.trans ?_ h
              rw [HDK2.out]
              show out ++ (⟨f.name, tl, f.safe⟩ :: _) = _
              rw [← hlo]
              rfl
            case measure => simp [intOf]; omega
      · have hje : j = fs.length := by omega
        subst hje
        have hfin : out = onL fs ks := by
          have h := HO.out.now
          rw [List.drop_of_length_le (Nat.le_refl _)] at h
          rw [← h]
          unfold onL
          simp
        subst hfin
        have c0 := (H1.out.ext HO.out.own.2).c.1
        obtain ⟨s1, s2, s3, s4⟩ := H1.out.shut HO.out.own
        obtain ⟨A3, cap3, hv3⟩ := HO.out.own.lv.len
        generalize List.length _ = n3 at hv3
        subst hv3
        have f0 := s1.blk.frozen 0
        have S2 := Lib.hid s2
        have S3 := Lib.hid s3
        have S4 := Lib.hid s4
        clear s1 s2 s3 s4
        go_wp2_with fail
        go_end0
        exact ⟨rfl, _, S2.out, HB1.out.trans S3.out, (Newer.refl _ _).trans S4.out HB1.out.size⟩
end Rk
end Go.Proofs.Ytbiikihapfpkfaa

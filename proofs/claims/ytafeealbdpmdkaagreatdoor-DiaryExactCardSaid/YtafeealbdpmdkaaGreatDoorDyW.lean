/- awake. -/
import Derived.Test.YtafeealbdpmdkaaGreatDoorDyH
import Derived.Test.YtafeealbdpmdkaaGreatDoorSpD
set_option linter.unusedSimpArgs false
set_option linter.unusedVariables false
set_option linter.unusedSectionVars false
open Go.Lib renaming hid → y_
-- squeezed
namespace Go.Proofs.YtafeealbdpmdkaaGreatDoor
open Go Go.RowKit
namespace Plk
open Slp (S good frame body frames allP Row RdS)
theorem tS_good (n : UInt8) (h : n = 1 ∨ n = 2 ∨ n = 3 ∨ n = 4 ∨ n = 7) : good (tS n) = true := by
 rcases h with rfl | rfl | rfl | rfl | rfl <;> decide +kernel
theorem tS_len (n : UInt8) (h : n = 1 ∨ n = 2 ∨ n = 3 ∨ n = 4 ∨ n = 7) : (frame (body (tS n))).length = 39 := by
 rw [Slp.frame_len]
 rcases h with rfl | rfl | rfl | rfl | rfl <;> decide +kernel
set_option maxRecDepth 100000 in
set_option maxHeartbeats 4000000 in
theorem awake_any (W : World) (hT : Crc.Tab W) : Calls Tryz.prog 4 #[] W fun e w' => e = .returned (.bool true) ∧ Reg.Ext W w' := by
 have HT := y_ hT
 clear hT
 -- plainly
 obtain ⟨a1, a2, a3, a4, a7⟩ : ((1 : UInt8) = 1 ∨ (1 : UInt8) = 2 ∨ (1 : UInt8) = 3 ∨ (1 : UInt8) = 4 ∨ (1 : UInt8) = 7) ∧ ((2 : UInt8) = 1 ∨ (2 : UInt8) = 2 ∨ (2 : UInt8) = 3 ∨ (2 : UInt8) = 4 ∨ (2 : UInt8) = 7) ∧ ((3 : UInt8) = 1 ∨ (3 : UInt8) = 2 ∨ (3 : UInt8) = 3 ∨ (3 : UInt8) = 4 ∨ (3 : UInt8) = 7) ∧ ((4 : UInt8) = 1 ∨ (4 : UInt8) = 2 ∨ (4 : UInt8) = 3 ∨ (4 : UInt8) = 4 ∨ (4 : UInt8) = 7) ∧ ((7 : UInt8) = 1 ∨ (7 : UInt8) = 2 ∨ (7 : UInt8) = 3 ∨ (7 : UInt8) = 4 ∨ (7 : UInt8) = 7) := by decide
 have G1 := tS_good 1 a1
 have G2 := tS_good 2 a2
 have G3 := tS_good 3 a3
 have G7 := tS_good 7 a7
 have L1 := tS_len 1 a1
 have L2 := tS_len 2 a2
 have L3 := tS_len 3 a3
 have L7 := tS_len 7 a7
 have T1 := y_ touch_1
 have T2 := y_ touch_2
 have T3 := y_ touch_3
 have T4 := y_ touch_4
 have T7 := y_ touch_7
 have D1 := tS_dig 1
 have D2 := tS_dig 2
 have D3 := tS_dig 3
 have D4 := tS_dig 4
 have D7 := tS_dig 7
 generalize tS 1 = t1 at *
 generalize tS 2 = t2 at *
 generalize tS 3 = t3 at *
 generalize tS 4 = t4 at *
 generalize tS 7 = t7 at *
 clear a1 a2 a3 a4 a7
 obtain ⟨s0, hs0, c0⟩ : ∃ s0, new 65536 = ⟨[], s0⟩ ∧ Calm s0 65536 0 0 := ⟨_, rfl, ⟨rfl, .inl rfl, by decide, rfl, Int.le_refl _⟩⟩
 obtain ⟨s1, E1, c1⟩ := load0 c0
 obtain ⟨s2, E2, c2⟩ := add1 c1 [] 0 (x := t1) (y := ⟨0, 0, 0, false⟩) rfl G1 (by omega)
 rw [L1] at E2 c2
 obtain ⟨s3, E3, c3⟩ := add1 c2 ([] ++ frame (body t1)) 0 (x := t2) (y := ⟨0 + 1, 0, 0 + (39 : Nat), false⟩) rfl G2 (by omega)
 rw [L2] at E3 c3
 obtain ⟨s4, k4, E4, c4, q4, -⟩ := syn1 c3 ([] ++ frame (body t1) ++ frame (body t2)) 0 (y := ⟨0 + 1 + 1, 0, 0 + (39 : Nat) + (39 : Nat), false⟩) rfl
 have q4 := q4 (by decide)
 obtain ⟨s5, E5, c5⟩ := add1 c4 ([] ++ frame (body t1) ++ frame (body t2)) k4 (x := t3) (y := ⟨0 + 1 + 1, 0 + 1 + 1, 0 + (39 : Nat) + (39 : Nat), false⟩) rfl G3 (by omega)
 rw [L3] at E5 c5
 have hk4 : k4 = 78 := by rw [q4]; simp [L1, L2]
 obtain ⟨m, hm1, hm2, E6, hm3⟩ := on_d1 ([] ++ frame (body t1) ++ frame (body t2) ++ frame (body t3)) k4 s5 (by simp [L1, L2, L3]; omega) [5]
 have hm : m = 83 := by
  rw [hm3 (by simp [L1, L2, L3]; omega)]
  unfold keptN
  simp [L1, L2, L3, hk4]
  try rfl
 have c6 := calm_on c5.room c5.ops (m : Int)
 subst hk4 hm
 generalize ({ s5 with off := false, ak := 0, af := 0, al := 0, used := ((83 : Nat) : Int) } : H) = s6 at E6 c6
 obtain ⟨s7, E7, c7⟩ := load1 c6 (([] ++ frame (body t1) ++ frame (body t2) ++ frame (body t3)).take 83) 83
 have hF : Slp.Fit [t1, t2, t3] := fun x hx => by
  rcases List.mem_cons.1 hx with rfl | hx
  ·exact ⟨D1, G1⟩
  ·rcases List.mem_cons.1 hx with rfl | hx
   ·exact ⟨D2, G2⟩
   ·rw [List.mem_singleton.1 hx]; exact ⟨D3, G3⟩
 have hfr : [] ++ frame (body t1) ++ frame (body t2) ++ frame (body t3) = frames [t1, t2, t3] := by simp [frames]
 have hfl : (([] ++ frame (body t1) ++ frame (body t2) ++ frame (body t3)).take 83).length = 83 := by rw [List.length_take]; simp [L1, L2, L3]
 have hal : allP (([] ++ frame (body t1) ++ frame (body t2) ++ frame (body t3)).take 83) = ([t1, t2], 78) := by
  rw [hfr, Slp.allP_cut [t1, t2, t3] hF 83 2 (by simp [frames, L1, L2, L3]) (by simp) (by simp [frames, L1, L2]) (fun _ => by simp [frames, L1, L2, L3])]
  simp [frames, L1, L2]
 have hop : opened (([] ++ frame (body t1) ++ frame (body t2) ++ frame (body t3)).take 83) = ⟨2, 2, 78, true⟩ := by
  unfold opened
  rw [hal, hfl]
  rfl
 obtain ⟨s8, E8, c8⟩ := rew1 c7 (([] ++ frame (body t1) ++ frame (body t2) ++ frame (body t3)).take 83) (([] ++ frame (body t1) ++ frame (body t2) ++ frame (body t3)).take 83).length ⟨2, 2, 78, true⟩ [t7] (by simp [allGood, G7]) (by simp [frames, L7])
 have hf7 : (frames [t7]).length = 39 := by simp [frames, L7]
 rw [hf7] at E8
 have he0 : (allP []).1 = [] := by rw [Slp.allP_nil]
 have hop0 : opened [] = ⟨0, 0, 0, false⟩ := by unfold opened; rw [Slp.allP_nil]; rfl
 clear G1 G2 G3 G7 L1 L2 L3 L7 hF hfr hf7 hm1 hm2 hm3 q4
 have B0 : Hid ((new 65536).h.ops + 4 < big) := y_ (by rw [hs0]; have := c0.ops; dsimp only; unfold big; omega)
 have B1 : s1.ops < big := by have := c1.ops; unfold big; omega
 have B2 : s2.ops < big := by have := c2.ops; unfold big; omega
 have B3 : s3.ops < big := by have := c3.ops; unfold big; omega
 have B4 : s4.ops < big := by have := c4.ops; unfold big; omega
 have B6 : s6.ops + 4 < big := by have := c6.ops; unfold big; omega
 have B7 : s7.ops < big := by have := c7.ops; unfold big; omega
 have B7a : s7.ops + 5 < big := by have := c7.ops; unfold big; omega
 clear c0 c1 c2 c3 c4 c5 c6 c7 c8 q4
 generalize [] ++ frame (body t1) ++ frame (body t2) ++ frame (body t3) = f3 at *
 generalize [] ++ frame (body t1) ++ frame (body t2) = f2 at *
 generalize [] ++ frame (body t1) = f1 at *
 generalize f3.take 83 = f4 at *
 rw [← hs0] at E1
 have F1 : Y.Fine ⟨0, 0, 0, false⟩ := ⟨by dsimp only; unfold big; omega, by dsimp only; unfold big; omega⟩
 have F2 : Y.Fine ⟨0 + 1, 0, 0 + (39 : Nat), false⟩ := ⟨by dsimp only; unfold big; omega, by dsimp only; unfold big; omega⟩
 have F4 : Y.Fine ⟨0 + 1 + 1, 0 + 1 + 1, 0 + (39 : Nat) + (39 : Nat), false⟩ := ⟨by dsimp only; unfold big; omega, by dsimp only; unfold big; omega⟩
 have F7 : Y.Fine ⟨2, 2, 78, true⟩ := ⟨by dsimp only; unfold big; omega, by dsimp only; unfold big; omega⟩
 have ha4 : (allP f4).1 = [t1, t2] := by rw [hal]
 have C1 := y_ (fun (w : World) d mp es g (h : Lw W w d mp es _ g _) => h.add F1 B1 t1 D1 HT.out E2)
 have C2 := y_ (fun (w : World) d mp es g (h : Lw W w d mp es _ g _) => h.add F2 B2 t2 D2 HT.out E3)
 have C3 := y_ (fun (w : World) d mp es g (h : Lw W w d mp es _ g _) => h.sync B3 E4)
 have C4 := y_ (fun (w : World) d mp es g (h : Lw W w d mp es _ g _) => h.add F4 B4 t3 D3 HT.out E5)
 have C6 := y_ (fun (w : World) d mp es g (h : Lw W w d mp es ⟨d1 f4 83, s6⟩ g ⟨0 + 1 + 1 + 1, 0 + 1 + 1, 0 + (39 : Nat) + (39 : Nat) + (39 : Nat), false⟩) => h.again B6 E7 (by rw [hfl]; decide) HT.out ha4 hop)
 have C7 := y_ (fun (w : World) d mp es g (h : Lw W w d mp es ⟨d1 f4 f4.length, s7⟩ g ⟨2, 2, 78, true⟩) => h.add F7 B7 t4 D4 HT.out (add_sick rfl))
 have C8 := y_ (fun (w : World) d mp es g (h : Lw W w d mp es _ g _) (u : Value) (hr : RdS u [t7] w) => h.rew B7a [t7] u hr (by simp) HT.out E8)
 have C0 := y_ (fun (w : World) d mp (h : Dg w d mp [] _) (hx : Reg.Ext W w) (ho : ∀ i, Own d mp [] i → W.heap.size ≤ i) => lw_open h hx ho HT.out B0.out E1 hop0)
 have HSS := y_ ((Slp.sameL_iff [t1, t2] [t1, t2]).2 rfl)
 have HE6 := y_ E6
 have C9 := y_ (fun (w : World) d mp es q g (h : Lw W w d mp es q g ⟨2, 2, 78, true⟩) => show Calls Tryz.prog 30 #[.pointer (some ⟨g, 0, none⟩)] w fun e w' => e = .returned (.bool true) ∧ w' = w from h.sick)
 have CA := y_ (fun (w : World) d mp es q g (h : Lw W w d mp es q g ⟨1, 1, 39, false⟩) => show Calls Tryz.prog 30 #[.pointer (some ⟨g, 0, none⟩)] w fun e w' => e = .returned (.bool false) ∧ w' = w from h.sick)
 have CB := y_ (fun (w : World) d mp es q g (h : Lw W w d mp es q g ⟨1, 1, 39, false⟩) => show Calls Tryz.prog 27 #[.pointer (some ⟨g, 0, none⟩)] w fun e w' => e = .returned (.int .i64 1) ∧ w' = w from h.len)
 have CC := y_ (fun (w : World) d mp es q g (h : Lw W w d mp es q g ⟨1, 1, 39, false⟩) => show Calls Tryz.prog 29 #[.pointer (some ⟨g, 0, none⟩)] w fun e w' => e = .returned (.int .i64 39) ∧ w' = w from h.ysize)
 have CD := y_ (fun (w : World) d mp es q g (h : Lw W w d mp es q g ⟨1, 1, 39, false⟩) => show Calls Tryz.prog 28 #[.pointer (some ⟨g, 0, none⟩)] w fun e w' => e = .returned (.int .i64 1) ∧ w' = w from h.sure)
 clear E1 E2 E3 E4 E5 E6 E7 E8 hs0 hop hop0 he0 hfl hal ha4 F1 F2 F4 F7 B1 B2 B3 B4 B6 B7 B7a
 go_enter Tryz.func4, Tryz.ntmps4
 go_upto_region 3 with (first
  | (go_at_call 5; refine (Dg.new 65536 _).mono ?_; rintro e x0 ⟨d, mp, rfl, h0, hx0, ho0⟩)
  | (go_at_call 7; refine (C0.out _ _ _ h0 hx0 ho0).mono ?_; rintro e x1 ⟨es1, g, pp, cc, rfl, k⟩; have K1 := y_ k; clear h0 hx0 ho0 k))
 refine wp_region_lit ?_
 repeat go_step
 refine (T1.out _).mono ?_
 rintro e zJ1 ⟨rfl, hz⟩
 have J1 := y_ (K1.out.ext hz)
 clear hz K1
 rename_i hK
 refine hK _ _ ?_
 clear hK
 repeat go_step
 refine (C1.out _ _ _ _ _ J1.out).mono ?_
 rintro e zK2 ⟨rfl, esK2, k, -⟩
 have K2 := y_ k
 clear k J1
 rename_i hK
 refine hK _ _ ?_
 clear hK
 repeat go_step
 refine (T2.out _).mono ?_
 rintro e zJ2 ⟨rfl, hz⟩
 have J2 := y_ (K2.out.ext hz)
 clear hz K2
 rename_i hK
 refine hK _ _ ?_
 clear hK
 repeat go_step
 refine (C2.out _ _ _ _ _ J2.out).mono ?_
 rintro e zK3 ⟨rfl, esK3, k, -⟩
 have K3 := y_ k
 clear k J2
 rename_i hK
 refine hK _ _ ?_
 clear hK
 repeat go_step
 refine (C3.out _ _ _ _ _ K3.out).mono ?_
 rintro e zK4 ⟨rfl, esK4, k, -⟩
 have K4 := y_ k
 clear k K3
 rename_i hK
 refine hK _ _ ?_
 clear hK
 repeat go_step
 refine (T3.out _).mono ?_
 rintro e zJ4 ⟨rfl, hz⟩
 have J4 := y_ (K4.out.ext hz)
 clear hz K4
 rename_i hK
 refine hK _ _ ?_
 clear hK
 repeat go_step
 refine (C4.out _ _ _ _ _ J4.out).mono ?_
 rintro e zK5 ⟨rfl, esK5, k, -⟩
 have K5 := y_ k
 clear k J4
 rename_i hK
 refine hK _ _ ?_
 clear hK
 go_upto_region 8 with (first
  | (go_at_call 13; refine (K5.out.off).mono ?_; rintro e x6 ⟨rfl, es6, k, -⟩; have K6 := y_ k; clear k)
  | (go_at_call 15; refine (K6.out.on1 5).mono ?_; rintro e x7 ⟨rfl, es7, k, -⟩; rw [HE6.out] at k; have K7 := y_ k; clear k)
  | (go_at_call 7; refine (C6.out _ _ _ _ _ K7.out).mono ?_; rintro e x8 ⟨es8, g8, p8, c8, rfl, -, k, hh, -, -⟩; have K8 := y_ k; have H8 := y_ hh; clear k hh))
 clear C0 C1 C2 C3 C4 C6 K5 K6 K7
 refine wp_region_lit ?_
 repeat go_step
 refine (T1.out _).mono ?_
 rintro e z1 ⟨rfl, hz⟩
 have K9 := y_ (K8.out.ext hz)
 have H9 := y_ (H8.out.turn (TurnG.ext hz))
 clear hz K8 H8
 rename_i hK
 refine hK _ _ ?_
 clear hK
 repeat go_step
 refine (T2.out _).mono ?_
 rintro e z2 ⟨rfl, hz⟩
 have K10 := y_ (K9.out.ext hz)
 have H10 := y_ (H9.out.turn (TurnG.ext hz))
 clear hz K9 H9
 rename_i hK
 refine hK _ _ ?_
 clear hK
 refine Slp.wpList_r2 _ _ rfl t1 t2 D1 D2 rfl rfl rfl ?_
 intro gg z3 hgg hz hrd
 have K11 := y_ (K10.out.ext hz)
 have H11 := y_ (H10.out.turn (TurnG.ext hz))
 have CS := Slp.same_any _ _ [t1, t2] [t1, t2] _ H11.out.rd hrd
 rw [HSS.out] at CS
 have CS := y_ CS
 clear hz hrd hgg K10 H10 HSS
 repeat go_step
 refine (CS.out).mono ?_
 rintro e z4 ⟨rfl, hz⟩
 have K12 := y_ (K11.out.ext hz)
 clear hz K11 H11 CS
 rename_i hK
 refine hK _ _ ?_
 clear hK
 go_upto_region 10 with (first
  | (go_at_call 30; refine (C9.out _ _ _ _ _ _ K12.out).mono ?_; rintro e _ ⟨rfl, rfl⟩)
  | (go_at_call 35; refine (T4.out _).mono ?_; rintro e z5 ⟨rfl, hz⟩; have K13 := y_ (K12.out.ext hz); clear hz)
  | (go_at_call 21; refine (C7.out _ _ _ _ _ K13.out).mono ?_; rintro e z6 ⟨rfl, es14, k, -⟩; have K14 := y_ k; clear k))
 refine wp_region_lit ?_
 repeat go_step
 refine (T7.out _).mono ?_
 rintro e z7 ⟨rfl, hz⟩
 have K15 := y_ (K14.out.ext hz)
 clear hz K12 K13 K14
 rename_i hK
 refine hK _ _ ?_
 clear hK
 refine Slp.wpList_r1 _ rfl t7 D7 rfl rfl ?_
 intro gg z8 hgg hlt hz hbl hrd
 have K16 := y_ (K15.out.ext hz)
 have CR := y_ (C8.out _ _ _ _ _ K16.out _ hrd)
 clear hz hrd hgg hlt hbl K15
 repeat go_step
 refine (CR.out).mono ?_
 rintro e z9 ⟨rfl, es17, k, -⟩
 have K17 := y_ k
 clear k CR K16
 rename_i hK
 refine hK _ _ ?_
 clear hK
 go_wp2_with (first
  | (go_at_call 30; refine (CA.out _ _ _ _ _ _ K17.out).mono ?_; rintro e _ ⟨rfl, rfl⟩)
  | (go_at_call 27; refine (CB.out _ _ _ _ _ _ K17.out).mono ?_; rintro e _ ⟨rfl, rfl⟩)
  | (go_at_call 29; refine (CC.out _ _ _ _ _ _ K17.out).mono ?_; rintro e _ ⟨rfl, rfl⟩)
  | (go_at_call 28; refine (CD.out _ _ _ _ _ _ K17.out).mono ?_; rintro e _ ⟨rfl, rfl⟩))
 go_ret
 exact ⟨rfl, K17.out.base.1⟩
end Plk
end Go.Proofs.YtafeealbdpmdkaaGreatDoor

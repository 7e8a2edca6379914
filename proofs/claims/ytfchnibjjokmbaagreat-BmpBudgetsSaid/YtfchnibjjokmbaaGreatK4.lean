/- Parts. -/
import Derived.Test.YtfchnibjjokmbaaGreatK3
set_option linter.all false
set_option maxRecDepth 100000
set_option maxHeartbeats 16000000
open Go.Value renaming int → J, pointer → Y
open Go.IntKind renaming i64 → I, u8 → U
namespace Go.Proofs.YtfchnibjjokmbaaGreat
open Go.RowKit
theorem signed_bd (v : Int) (h0 : 0 ≤ v) (h1 : v < 4294967296) : -2147483648 ≤ ab v ∧ ab v < 2147483648 := by unfold ab; split <;> omega
theorem lowK4_bd (s : ByteArray) (a : Nat) : 0 ≤ aC s a 4 ∧ aC s a 4 < 4294967296 := by have := ah s a 4; have h32 : (2 : Int) ^ (8 * 4) = 4294967296 := by decide
                                                                                        omega
theorem great_any' (s : ByteArray) (w : World) (h : 40 ≤ s.size) (hs : s.size ≤ 9223372036854775807) : Calls Tryz.prog 60 #[.string s] w (ParsePost w (greatH s).cells 10 (fndL (aj s))) := by
 obtain ⟨i0, hi, hz0, hz1, hz2⟩ := info_parts (P := Tryz.prog) (e := 134) (z := .agg #[.bool false, J I 0, J I 0]) (size := 3) (bytes := 24) (by kernel_rfl)
 obtain ⟨C, hC⟩ : ∃ C, (greatH s).cells = C := ⟨_, rfl⟩
 obtain ⟨R, hR⟩ : ∃ C, fndL (aj s) = C := ⟨_, rfl⟩
 have hCC := hC
 have hRR := hR
 obtain ⟨W, hW⟩ : ∃ W, ab (aC s 4 4) = W := ⟨_, rfl⟩
 obtain ⟨H, hH⟩ : ∃ H, ab (aC s 8 4) = H := ⟨_, rfl⟩
 obtain ⟨P, hP⟩ : ∃ P, aC s 12 2 = P := ⟨_, rfl⟩
 obtain ⟨dp, hdp⟩ : ∃ dp, aC s 14 2 = dp := ⟨_, rfl⟩
 obtain ⟨mt, hmt⟩ : ∃ x, aC s 16 4 = x := ⟨_, rfl⟩
 obtain ⟨co, hco⟩ : ∃ x, aC s 32 4 = x := ⟨_, rfl⟩
 have bdp := ah s 14 2
 have bW := signed_bd _ (lowK4_bd s 4).1 (lowK4_bd s 4).2
 have bH := signed_bd _ (lowK4_bd s 8).1 (lowK4_bd s 8).2
 have HW := Hi (fun w0 => hlow32_at s 4 4 W w0 rfl hW (by omega) (by omega))
 have HH := Hi (fun w0 => hlow32_at s 8 8 H w0 rfl hH (by omega) (by omega))
 have HP := Hi (fun w0 => hlow_at s 12 2 12 2 P w0 rfl rfl hP (by omega) (by omega) (by omega))
 have HDP := Hi (fun w0 => hlow_at s 14 2 14 2 dp w0 rfl rfl hdp (by omega) (by omega) (by omega))
 have HMT := Hi (fun w0 => hlow_at s 16 4 16 4 mt w0 rfl rfl hmt (by omega) (by omega) (by omega))
 have HCO := Hi (fun w0 => hlow_at s 32 4 32 4 co w0 rfl rfl hco (by omega) (by omega) (by omega))
 have HD := Hi (fun w0 => hdepth_any dp true w0)
 have HFT := Hi (fun w0 => fits_any mt dp w0)
 have HS := Hi (fun w0 => sides_any W H 4 8 w0)
 rw [hdp] at bdp
 rw [hW] at bW
 rw [hH] at bH
 have dp0 := bdp.1
 have HM := Hi (fun w0 => most_any dp w0 dp0)
 unfold greatH at hC
 unfold aj at hR
 rw [hW, hH, hdp, hmt, hco] at hC
 rw [hW, hH, hP, hdp, hmt, hco, fndL_app] at hR
 unfold sidesF at hR HS
 obtain ⟨M, hM⟩ : ∃ x, mostI dp = x := ⟨_, rfl⟩
 rw [hM] at hC hR HM
 obtain ⟨b1, hb1⟩ : ∃ x, decide (W ≤ 0) = x := ⟨_, rfl⟩
 obtain ⟨b2, hb2⟩ : ∃ x, decide (W > 16384) = x := ⟨_, rfl⟩
 obtain ⟨b3, hb3⟩ : ∃ x, (H == 0) = x := ⟨_, rfl⟩
 obtain ⟨b4, hb4⟩ : ∃ x, (decide (H > 16384) || decide (H < -16384)) = x := ⟨_, rfl⟩
 obtain ⟨b5, hb5⟩ : ∃ x, (P != 1) = x := ⟨_, rfl⟩
 obtain ⟨b6, hb6⟩ : ∃ x, dpB dp true = x := ⟨_, rfl⟩
 obtain ⟨b7, hb7⟩ : ∃ x, decide (H < 0) = x := ⟨_, rfl⟩
 obtain ⟨b8, hb8⟩ : ∃ x, decide (mt > 3) = x := ⟨_, rfl⟩
 obtain ⟨b9, hb9⟩ : ∃ x, fitsB mt dp = x := ⟨_, rfl⟩
 obtain ⟨m1, hm1⟩ : ∃ x, (mt == 1) = x := ⟨_, rfl⟩
 obtain ⟨m2, hm2⟩ : ∃ x, (mt == 2) = x := ⟨_, rfl⟩
 obtain ⟨cg, hcg⟩ : ∃ x, decide (co > M) = x := ⟨_, rfl⟩
 rw [hb1, hb2, hb3, hb4] at hR HS
 rw [hb5, hb6, hb7, hb8, hb9, hm1, hm2, hcg] at hR
 rw [hb7] at hC
 rw [hb6] at HD
 rw [hb9] at HFT
 have HR := Hi (show R = [.bool b1, J I 2, J I 4, .bool b2, J I 3, J I 4, .bool b3, J I 2, J I 8, .bool b4, J I 3, J I 8] ++ [.bool b5, J I 2, J I 12, .bool (!b6), J I 3, J I 14, .bool b8, J I 3, J I 16, .bool (!b9), J I 2, J I 16, .bool (b7 && (m1 || m2)), J I 2, J I 8, .bool (b6 && cg), J I 2, J I 32] from hR.symm)
 have HC := Hi hC.symm
 rw [hCC, hRR]
 have eW1 : wrap64 W = W := IntWalk.wrap64_in W ⟨by omega, by omega⟩
 have eW2 : wrap64 H = H := IntWalk.wrap64_in H ⟨by omega, by omega⟩
 have eW3 : IntKind.i64.wrap (-H) = -H := (IntWalk.i64_left _).trans (IntWalk.wrap64_in (-H) ⟨by omega, by omega⟩)
 have eW4 : wrap64 (-H) = -H := IntWalk.wrap64_in (-H) ⟨by omega, by omega⟩
 have HBH := Hi bH
 have HB7 := Hi hb7
 clear hCC hRR hC hR hW hH hP hdp hmt hco hb1 hb2 hb3 hb4 hb6 hb9 bW bH bdp
 have O2 := Hi (aA w #[J I 0, J I 0, J I 0, .bool false, J I 0, J I 0, J I 0, J I 0, J I 0, J I 0, J I 0, J I 0, J I 0, J I 0, J I 0, J I 0] 63)
 have BL := Hi ((Below.refl w.heap.size w).alloc (Nat.le_refl _) (.cells #[J I 0, J I 0, J I 0, .bool false, J I 0, J I 0, J I 0, J I 0, J I 0, J I 0, J I 0, J I 0, J I 0, J I 0, J I 0, J I 0] 63))
 have O4 := Hi (aA (w.alloc (.cells #[J I 0, J I 0, J I 0, .bool false, J I 0, J I 0, J I 0, J I 0, J I 0, J I 0, J I 0, J I 0, J I 0, J I 0, J I 0, J I 0] 63)) #[J I (s.size : Int), J I W, J I H, .bool false, J I dp, J I mt, J I co, J I 0, J I 0, J I 0, J I 0, J I 0, J I 0, J I 0, J I 0, J I 0] 63)
 have O2 := Hi (O2.out.alloc (.cells #[J I (s.size : Int), J I W, J I H, .bool false, J I dp, J I mt, J I co, J I 0, J I 0, J I 0, J I 0, J I 0, J I 0, J I 0, J I 0, J I 0] 63))
 have BL := Hi (BL.out.alloc (by simp) (.cells #[J I (s.size : Int), J I W, J I H, .bool false, J I dp, J I mt, J I co, J I 0, J I 0, J I 0, J I 0, J I 0, J I 0, J I 0, J I 0, J I 0] 63))
 rw [show (w.alloc (.cells #[J I 0, J I 0, J I 0, .bool false, J I 0, J I 0, J I 0, J I 0, J I 0, J I 0, J I 0, J I 0, J I 0, J I 0, J I 0, J I 0] 63)).heap.size = w.heap.size + 1 by simp] at O4
 go_enter Tryz.func60, Tryz.ntmps60
 go_upto_region 2 with (first
  | ((go_at_call 100; (with_reducible refine (HW.out _).mono ?_); rintro e wl ⟨rfl, rfl⟩))
  | ((go_at_call 100; (with_reducible refine (HH.out _).mono ?_); rintro e wl ⟨rfl, rfl⟩))
  | ((go_at_call 97; (with_reducible refine (HDP.out _).mono ?_); rintro e wl ⟨rfl, rfl⟩))
  | ((go_at_call 97; (with_reducible refine (HMT.out _).mono ?_); rintro e wl ⟨rfl, rfl⟩))
  | ((go_at_call 97; (with_reducible refine (HCO.out _).mono ?_); rintro e wl ⟨rfl, rfl⟩))
  | fail)
 generalize World.alloc _ _ = ws at O2 O4 BL ⊢
 have c2 : ws.cell? ⟨w.heap.size + 1, 2, none⟩ = some (J I H) := (O4.out.cell 2).trans rfl
 have c3 : ws.cell? ⟨w.heap.size + 1, 3, none⟩ = some (.bool false) := (O4.out.cell 3).trans rfl
 have f3 : ws.frozen? ⟨w.heap.size + 1, 3, none⟩ = false := O4.out.frozen 3
 go_upto_region 3 with (fail)
 have O4 := Hi ((O4.out.set 3 (.bool b7)).cells (show _ = (List.toArray [J I (s.size : Int), J I W, J I H, .bool b7, J I dp, J I mt, J I co, J I 0, J I 0, J I 0, J I 0, J I 0, J I 0, J I 0, J I 0, J I 0]) from rfl))
 have O2 := Hi (O2.out.set_other ⟨w.heap.size + 1, 3, none⟩ (.bool b7) (by simp))
 have BL := Hi (BL.out.setCell (p := ⟨w.heap.size + 1, 3, none⟩) (by simp) (.bool b7))
 clear c2 c3 f3
 generalize World.setCell _ _ _ = ws at O2 O4 BL ⊢
 refine wp_region_noPanic ?_
 refine wp_region_held_drew (S := fun w' => w'.rangeAt (w.heap.size + 1) 0 [J I (s.size : Int), J I W, J I H, .bool b7, J I dp, J I mt, J I co, J I 0, J I 0, J I 0, J I 0, J I 0, J I 0, J I 0, J I 0, J I 0]) (by kernel_rfl) O4.out.range0 (fun hHeld => ?_)
 refine zt 0 (Y (some ⟨w.heap.size + 1, 1, none⟩)) rfl hHeld ?_
 refine zt 1 (J I W) rfl hHeld ?_ (hy := fun wx hS => by have h1 : wx.cell? ⟨w.heap.size + 1, 1, none⟩ = some (J I W) := hS 1 _ rfl; go_simp)
 refine zt 2 (Y (some ⟨w.heap.size + 1, 2, none⟩)) rfl hHeld ?_
 refine zt 3 (J I H) rfl hHeld ?_ (hy := fun wx hS => by have h1 : wx.cell? ⟨w.heap.size + 1, 2, none⟩ = some (J I H) := hS 2 _ rfl; go_simp)
 refine zt 5 (.string s) rfl hHeld ?_
 refine zt 9 (Y (some ⟨w.heap.size + 1, 4, none⟩)) rfl hHeld ?_
 refine zt 10 (J I dp) rfl hHeld ?_ (hy := fun wx hS => by have h1 : wx.cell? ⟨w.heap.size + 1, 4, none⟩ = some (J I dp) := hS 4 _ rfl; go_simp)
 refine zt 14 (Y (some ⟨w.heap.size + 1, 5, none⟩)) rfl hHeld ?_
 refine zt 15 (J I mt) rfl hHeld ?_ (hy := fun wx hS => by have h1 : wx.cell? ⟨w.heap.size + 1, 5, none⟩ = some (J I mt) := hS 5 _ rfl; go_simp)
 refine zt 16 (.bool b8) rfl hHeld ?_
 refine zt 17 (.agg #[.bool b8, J I 3, J I 16]) rfl hHeld ?_
 refine zt 18 (Y (some ⟨w.heap.size + 1, 5, none⟩)) rfl hHeld ?_
 refine zt 19 (J I mt) rfl hHeld ?_ (hy := fun wx hS => by have h1 : wx.cell? ⟨w.heap.size + 1, 5, none⟩ = some (J I mt) := hS 5 _ rfl; go_simp)
 refine zt 20 (Y (some ⟨w.heap.size + 1, 4, none⟩)) rfl hHeld ?_
 refine zt 21 (J I dp) rfl hHeld ?_ (hy := fun wx hS => by have h1 : wx.cell? ⟨w.heap.size + 1, 4, none⟩ = some (J I dp) := hS 4 _ rfl; go_simp)
 refine zt 25 (Y (some ⟨w.heap.size + 1, 3, none⟩)) rfl hHeld ?_
 refine zt 26 (.bool b7) rfl hHeld ?_ (hy := fun wx hS => by have h1 : wx.cell? ⟨w.heap.size + 1, 3, none⟩ = some (.bool b7) := hS 3 _ rfl; go_simp)
 refine zt 38 (Y (some ⟨w.heap.size + 1, 4, none⟩)) rfl hHeld ?_
 refine zt 39 (J I dp) rfl hHeld ?_ (hy := fun wx hS => by have h1 : wx.cell? ⟨w.heap.size + 1, 4, none⟩ = some (J I dp) := hS 4 _ rfl; go_simp)
 have O2 := Hi (O2.out.drew)
 have O4 := Hi (O4.out.drew)
 have BL := Hi BL.out.drew
 generalize World.drew _ = wk at O2 O4 BL ⊢
 refine wpAnyH_ready (rs := [4]) (by kernel_rfl) (by simp) ?_
 refine AllReadyH.cons (o := _) rfl (fun K' hK => ?_) AllReadyH.nil
 go_simp
 refine (HS.out _).mono ?_
 rintro x wq ⟨rfl, hos, hb⟩
 have OS := Hi hos
 have lk := O4.out.lt
 have zk := BL.out.size
 have O2 := Hi (O2.out.below hb O2.out.lt)
 have O4 := Hi (O4.out.below hb O4.out.lt)
 have BL := Hi (am hb BL.out BL.out.size)
 clear hos
 obtain ⟨d, hd⟩ : ∃ d, wk.heap.size = d := ⟨_, rfl⟩
 have hdz := hb.size
 have ldq := OS.out.lt
 rw [hd] at OS lk zk hdz ldq ⊢
 clear hb hd
 go_wp2_with fail
 refine hK _ _ O4.out.range0 (fun hC1 => ?_)
 clear hK K'
 try simp only [Act.put, zq1, zq2, zq3, zq4, zq5, zq6]
 obtain ⟨wk, rfl⟩ : ∃ z, z = wq := ⟨_, rfl⟩
 refine wpAnyH_ready (rs := [6]) (by kernel_rfl) (by simp) ?_
 refine AllReadyH.cons (o := _) rfl (fun K' hK => ?_) AllReadyH.nil
 go_simp
 refine (HP.out _).mono ?_
 rintro x wq ⟨rfl, hq⟩
 have hq := hq.symm
 subst hq
 go_wp2_with fail
 refine hK _ _ O4.out.range0 (fun hC2 => ?_)
 clear hK K'
 try simp only [Act.put, zq1, zq2, zq3, zq4, zq5, zq6]
 refine zt 7 (.bool b5) rfl hC2 ?_
 refine zt 8 (.agg #[.bool b5, J I 2, J I 12]) rfl hC2 ?_
 refine wpAnyH_ready (rs := [11]) (by kernel_rfl) (by simp) ?_
 refine AllReadyH.cons (o := _) rfl (fun K' hK => ?_) AllReadyH.nil
 go_simp
 refine (HD.out _).mono ?_
 rintro x wq ⟨rfl, hq⟩
 have hq := hq.symm
 subst hq
 go_wp2_with fail
 refine hK _ _ O4.out.range0 (fun hC3 => ?_)
 clear hK K'
 try simp only [Act.put, zq1, zq2, zq3, zq4, zq5, zq6]
 refine zt 12 (.bool (!b6)) rfl hC3 ?_
 refine zt 13 (.agg #[.bool (!b6), J I 3, J I 14]) rfl hC3 ?_
 refine wpAnyH_ready (rs := [22]) (by kernel_rfl) (by simp) ?_
 refine AllReadyH.cons (o := _) rfl (fun K' hK => ?_) AllReadyH.nil
 go_simp
 refine (HFT.out _).mono ?_
 rintro x wq ⟨rfl, hq⟩
 have hq := hq.symm
 subst hq
 go_wp2_with fail
 refine hK _ _ O4.out.range0 (fun hC4 => ?_)
 clear hK K'
 try simp only [Act.put, zq1, zq2, zq3, zq4, zq5, zq6]
 refine zt 23 (.bool (!b9)) rfl hC4 ?_
 refine zt 24 (.agg #[.bool (!b9), J I 2, J I 16]) rfl hC4 ?_
 refine zt 27 (.bool b7) rfl hC4 ?_
 refine zg 28 ((bif b7 then Y (some ⟨w.heap.size + 1, 5, none⟩) else undef)) rfl (by cases b7 <;> first | exact Or.inr ⟨by rfl, rfl⟩ | exact Or.inl ⟨by rfl, fun wx hS => by go_simp⟩) hC4 ?_
 refine zg 29 ((bif b7 then J I mt else undef)) rfl (by cases b7 <;> first | exact Or.inr ⟨by rfl, rfl⟩ | exact Or.inl ⟨by rfl, fun wx hS => by have h1 : wx.cell? ⟨w.heap.size + 1, 5, none⟩ = some (J I mt) := hS 5 _ rfl; go_simp⟩) hC4 ?_
 refine zg 30 ((bif b7 then .bool m1 else undef)) rfl (by cases b7 <;> first | exact Or.inr ⟨by rfl, rfl⟩ | exact Or.inl ⟨by rfl, fun wx hS => by go_simp⟩) hC4 ?_
 refine zg 31 ((bif b7 then .bool m1 else undef)) rfl (by cases b7 <;> first | exact Or.inr ⟨by rfl, rfl⟩ | exact Or.inl ⟨by rfl, fun wx hS => by go_simp⟩) hC4 ?_
 refine zg 32 ((bif b7 then (bif m1 then undef else Y (some ⟨w.heap.size + 1, 5, none⟩)) else undef)) rfl (by cases b7 <;> cases m1 <;> first | exact Or.inr ⟨by rfl, rfl⟩ | exact Or.inl ⟨by rfl, fun wx hS => by go_simp⟩) hC4 ?_
 refine zg 33 ((bif b7 then (bif m1 then undef else J I mt) else undef)) rfl (by cases b7 <;> cases m1 <;> first | exact Or.inr ⟨by rfl, rfl⟩ | exact Or.inl ⟨by rfl, fun wx hS => by have h1 : wx.cell? ⟨w.heap.size + 1, 5, none⟩ = some (J I mt) := hS 5 _ rfl; go_simp⟩) hC4 ?_
 refine zg 34 ((bif b7 then (bif m1 then undef else .bool m2) else undef)) rfl (by cases b7 <;> cases m1 <;> first | exact Or.inr ⟨by rfl, rfl⟩ | exact Or.inl ⟨by rfl, fun wx hS => by go_simp⟩) hC4 ?_
 refine zg 35 ((bif b7 then .bool (m1 || m2) else undef)) rfl (by cases b7 <;> cases m1 <;> first | exact Or.inr ⟨by rfl, rfl⟩ | exact Or.inl ⟨by rfl, fun wx hS => by go_simp⟩) hC4 ?_
 refine zg 36 (.bool (b7 && (m1 || m2))) rfl (by cases b7 <;> first | exact Or.inr ⟨by rfl, rfl⟩ | exact Or.inl ⟨by rfl, fun wx hS => by go_simp⟩) hC4 ?_
 refine zt 37 (.agg #[.bool (b7 && (m1 || m2)), J I 2, J I 8]) rfl hC4 ?_
 refine wpAnyH_ready (rs := [40]) (by kernel_rfl) (by simp) ?_
 refine AllReadyH.cons (o := _) rfl (fun K' hK => ?_) AllReadyH.nil
 go_simp
 refine (HD.out _).mono ?_
 rintro x wq ⟨rfl, hq⟩
 have hq := hq.symm
 subst hq
 go_wp2_with fail
 refine hK _ _ O4.out.range0 (fun hC5 => ?_)
 clear hK K'
 try simp only [Act.put, zq1, zq2, zq3, zq4, zq5, zq6]
 refine zt 41 (.bool b6) rfl hC5 ?_
 refine zg 42 ((bif b6 then Y (some ⟨w.heap.size + 1, 6, none⟩) else undef)) rfl (by cases b6 <;> first | exact Or.inr ⟨by rfl, rfl⟩ | exact Or.inl ⟨by rfl, fun wx hS => by go_simp⟩) hC5 ?_
 refine zg 43 ((bif b6 then J I co else undef)) rfl (by cases b6 <;> first | exact Or.inr ⟨by rfl, rfl⟩ | exact Or.inl ⟨by rfl, fun wx hS => by have h1 : wx.cell? ⟨w.heap.size + 1, 6, none⟩ = some (J I co) := hS 6 _ rfl; go_simp⟩) hC5 ?_
 refine zg 44 ((bif b6 then Y (some ⟨w.heap.size + 1, 4, none⟩) else undef)) rfl (by cases b6 <;> first | exact Or.inr ⟨by rfl, rfl⟩ | exact Or.inl ⟨by rfl, fun wx hS => by go_simp⟩) hC5 ?_
 refine zg 45 ((bif b6 then J I dp else undef)) rfl (by cases b6 <;> first | exact Or.inr ⟨by rfl, rfl⟩ | exact Or.inl ⟨by rfl, fun wx hS => by have h1 : wx.cell? ⟨w.heap.size + 1, 4, none⟩ = some (J I dp) := hS 4 _ rfl; go_simp⟩) hC5 ?_
 refine aR (i := 46) (v := (bif b6 then J I M else undef)) rfl (by kernel_rfl) (by kernel_rfl) (by kernel_rfl) (fun _ _ _ h => h) (by cases b6; exact Or.inl (Or.inr ⟨by rfl, rfl⟩); exact Or.inr ⟨by rfl, fun wx _ => ⟨104, #[J I dp], by kernel_rfl, HM.out wx⟩⟩) hC5 ?_
 simp only [Act.put, zq1, zq2, zq3, zq4, zq5, zq6]
 refine zg 47 ((bif b6 then .bool cg else undef)) rfl (by cases b6 <;> first | exact Or.inr ⟨by rfl, rfl⟩ | exact Or.inl ⟨by rfl, fun wx hS => by go_simp⟩) hC5 ?_
 refine zg 48 (.bool (b6 && cg)) rfl (by cases b6 <;> first | exact Or.inr ⟨by rfl, rfl⟩ | exact Or.inl ⟨by rfl, fun wx hS => by go_simp⟩) hC5 ?_
 refine zt 49 (.agg #[.bool (b6 && cg), J I 2, J I 32]) rfl hC5 ?_
 refine wpAnyH_ready (rs := [50]) (by kernel_rfl) (by simp) ?_
 refine AllReadyH.cons (o := _) rfl (fun K' hK => ?_) AllReadyH.nil
 go_simp
 have ON := Hi (aA wk (List.toArray [.bool b5, J I 2, J I 12, .bool (!b6), J I 3, J I 14, .bool b8, J I 3, J I 16, .bool (!b9), J I 2, J I 16, .bool (b7 && (m1 || m2)), J I 2, J I 8, .bool (b6 && cg), J I 2, J I 32]) 134)
 have OS := Hi (OS.out.alloc (.cells (List.toArray [.bool b5, J I 2, J I 12, .bool (!b6), J I 3, J I 14, .bool b8, J I 3, J I 16, .bool (!b9), J I 2, J I 16, .bool (b7 && (m1 || m2)), J I 2, J I 8, .bool (b6 && cg), J I 2, J I 32]) 134))
 have O2 := Hi (O2.out.alloc (.cells (List.toArray [.bool b5, J I 2, J I 12, .bool (!b6), J I 3, J I 14, .bool b8, J I 3, J I 16, .bool (!b9), J I 2, J I 16, .bool (b7 && (m1 || m2)), J I 2, J I 8, .bool (b6 && cg), J I 2, J I 32]) 134))
 have O4 := Hi (O4.out.alloc (.cells (List.toArray [.bool b5, J I 2, J I 12, .bool (!b6), J I 3, J I 14, .bool b8, J I 3, J I 16, .bool (!b9), J I 2, J I 16, .bool (b7 && (m1 || m2)), J I 2, J I 8, .bool (b6 && cg), J I 2, J I 32]) 134))
 have BL := Hi (BL.out.alloc BL.out.size (.cells (List.toArray [.bool b5, J I 2, J I 12, .bool (!b6), J I 3, J I 14, .bool b8, J I 3, J I 16, .bool (!b9), J I 2, J I 16, .bool (b7 && (m1 || m2)), J I 2, J I 8, .bool (b6 && cg), J I 2, J I 32]) 134))
 have zk2 := BL.out.size
 obtain ⟨e, he⟩ : ∃ e, wk.heap.size = e := ⟨_, rfl⟩
 have lde := ON.out.lt
 have ldo := OS.out.lt
 have l4 := O4.out.lt
 rw [he] at ON lde ⊢
 have hde : d ≠ e ∧ d < e := (by rw [← he]; omega)
 have h4e : w.heap.size + 1 < e := (by rw [← he]; omega)
 clear he
 generalize World.alloc wk _ = wk2 at O2 O4 OS ON BL lde ldo l4 zk2 ⊢
 refine hK _ _ O4.out.range0 (fun hC6 => ?_)
 clear hK K'
 try simp only [Act.put, zq1, zq2, zq3, zq4, zq5, zq6]
 obtain ⟨wk, rfl⟩ : ∃ z, z = wk2 := ⟨_, rfl⟩
 refine wpAnyH_ready (rs := [51]) (by kernel_rfl) (by simp) ?_
 refine AllReadyH.cons (o := _) rfl (fun K' hK => step_append_lies _ rfl (.tmp 29) (.tmp 75) 131 rfl w.heap.size 134 i0 (.agg #[.bool false, J I 0, J I 0]) 3 24 Tryz.underlying131 hi hz0 hz1 hz2 (by rfl) (by decide) _ 4 ([.bool b1, J I 2, J I 4, .bool b2, J I 3, J I 4, .bool b3, J I 2, J I 8, .bool b4, J I 3, J I 8]) rfl (owns_obj OS.out (by omega) (by decide) rfl) ⟨e, 0, none⟩ 6 6 [.bool b5, J I 2, J I 12, .bool (!b6), J I 3, J I 14, .bool b8, J I 3, J I 16, .bool (!b9), J I 2, J I 16, .bool (b7 && (m1 || m2)), J I 2, J I 8, .bool (b6 && cg), J I 2, J I 32] rfl rfl (news_obj ON.out) (one_all rfl) (by decide) (by unfold maxLen; decide) (by decide) zk2 _ rfl ?_) AllReadyH.nil
 intro g cap w3 hown hgr hat hlt
 have hgr : wk.grownBy w3 (some d) := hgr
 have hat : some d = some g ∨ g = wk.heap.size := hat
 have hgd : g ≠ w.heap.size ∧ g ≠ w.heap.size + 1 := (by rcases hat with hat | hat <;> first | (injection hat with hat; omega) | omega)
 have OW := Hi hown
 have hC3 : Chg (fun k => k = d) wk w3 := chg_grown hgr (by intro j hj; injection hj with hj; exact hj.symm)
 have O4 := Hi (hC3.obj O4.out (by omega))
 have O2 := Hi (hC3.obj O2.out (by have := O2.out.lt; omega))
 have BL := Hi (bchg BL.out hC3 zk2 (by intro k hk; omega))
 clear hown hgr hat hC3
 refine hK _ _ O4.out.range0 (fun hC7 => ?_)
 clear hK K'
 try simp only [Act.put, zq1, zq2, zq3, zq4, zq5, zq6]
 obtain ⟨wk, rfl⟩ : ∃ z, z = w3 := ⟨_, rfl⟩
 refine zt 52 (.slice (some ⟨g, 0, none⟩) (4 + 6) cap) rfl hC7 ?_
 refine wpAnyH_done (by kernel_rfl) ?_ _
 refine NoPanic.normal ?_
 clear HS HP HD HFT
 obtain ⟨HN, hHN⟩ : ∃ x, (if H < 0 then -H else H) = x := ⟨_, rfl⟩
 obtain ⟨CN, hCN⟩ : ∃ x, (if co = 0 ∧ dp ≤ 8 then M else co) = x := ⟨_, rfl⟩
 have HC := Hi (show C = [J I (s.size : Int), J I W, J I HN, .bool b7, J I dp, J I mt, J I CN, J I 0, J I 0, J I 0, J I 0, J I 0, J I 0, J I 0, J I 0, J I 0] by rw [HC.out, hHN, hCN]; rfl)
 have HHN := Hi hHN
 have HCN := Hi hCN
 obtain ⟨z0, hz0⟩ : ∃ x, (co == 0) = x := ⟨_, rfl⟩
 obtain ⟨d8, hd8⟩ : ∃ x, decide (dp ≤ 8) = x := ⟨_, rfl⟩
 have HZ0 := Hi hz0
 have HD8 := Hi hd8
 clear hHN hCN hb7
 have c3 : wk.cell? ⟨w.heap.size + 1, 3, none⟩ = some (.bool b7) := (O4.out.cell 3).trans rfl
 have c2 : wk.cell? ⟨w.heap.size + 1, 2, none⟩ = some (J I H) := (O4.out.cell 2).trans rfl
 have f2 : wk.frozen? ⟨w.heap.size + 1, 2, none⟩ = false := O4.out.frozen 2
 have c4 : wk.cell? ⟨w.heap.size + 1, 4, none⟩ = some (J I dp) := (O4.out.cell 4).trans rfl
 have c6 : wk.cell? ⟨w.heap.size + 1, 6, none⟩ = some (J I co) := (O4.out.cell 6).trans rfl
 have f6 : wk.frozen? ⟨w.heap.size + 1, 6, none⟩ = false := O4.out.frozen 6
 go_upto_if 78 with (fail)
 go_cut [82] from 79 to 82 (fun _ wx => Obj1 wx (w.heap.size + 1) (List.toArray [J I (s.size : Int), J I W, J I HN, .bool b7, J I dp, J I mt, J I co, J I 0, J I 0, J I 0, J I 0, J I 0, J I 0, J I 0, J I 0, J I 0]) 63 ∧ Obj1 wx w.heap.size #[J I 0, J I 0, J I 0, .bool false, J I 0, J I 0, J I 0, J I 0, J I 0, J I 0, J I 0, J I 0, J I 0, J I 0, J I 0, J I 0] 63 ∧ wx.ownsRow w.heap.size 134 3 (.slice (some ⟨g, 0, none⟩) (4 + 6) cap) (4 + 6) ([.bool b1, J I 2, J I 4, .bool b2, J I 3, J I 4, .bool b3, J I 2, J I 8, .bool b4, J I 3, J I 8] ++ [.bool b5, J I 2, J I 12, .bool (!b6), J I 3, J I 14, .bool b8, J I 3, J I 16, .bool (!b9), J I 2, J I 16, .bool (b7 && (m1 || m2)), J I 2, J I 8, .bool (b6 && cg), J I 2, J I 32]) ∧ Below w.heap.size w wx)
 case first =>
  cases b7
  · have e : HN = H := by rw [← HHN.out, if_neg (of_decide_eq_false HB7.out)]
    subst e
    go_wp2_with fail
    go_meet
    exact ⟨O4.out, O2.out, OW.out, BL.out⟩
  · have e : HN = -H := by rw [← HHN.out, if_pos (of_decide_eq_true HB7.out)]
    subst e
    go_wp2_with fail
    have O4 := Hi ((O4.out.set 2 (J I (-H))).cells (show _ = (List.toArray [J I (s.size : Int), J I W, J I (-H), .bool true, J I dp, J I mt, J I co, J I 0, J I 0, J I 0, J I 0, J I 0, J I 0, J I 0, J I 0, J I 0]) from rfl))
    have O2 := Hi (O2.out.set_other ⟨w.heap.size + 1, 2, none⟩ (J I (-H)) (by simp))
    have OW := Hi (owns_set3 OW.out (OB := w.heap.size + 1) (o := 2) (J I (-H)) hgd.2)
    have BL := Hi (BL.out.setCell (p := ⟨w.heap.size + 1, 2, none⟩) (by simp) (J I (-H)))
    go_meet
    exact ⟨O4.out, O2.out, OW.out, BL.out⟩
 case rest =>
  clear c2 c3 c4 c6 f2 f6
  obtain ⟨h4, h2, hw, hb⟩ := hcut
  have O4 := Hi h4
  have O2 := Hi h2
  have OW := Hi hw
  have BL := Hi hb
  clear h4 h2 hw hb
  have c3 : wc.cell? ⟨w.heap.size + 1, 3, none⟩ = some (.bool b7) := (O4.out.cell 3).trans rfl
  have c2 : wc.cell? ⟨w.heap.size + 1, 2, none⟩ = some (J I HN) := (O4.out.cell 2).trans rfl
  have f2 : wc.frozen? ⟨w.heap.size + 1, 2, none⟩ = false := O4.out.frozen 2
  have c4 : wc.cell? ⟨w.heap.size + 1, 4, none⟩ = some (J I dp) := (O4.out.cell 4).trans rfl
  have c6 : wc.cell? ⟨w.heap.size + 1, 6, none⟩ = some (J I co) := (O4.out.cell 6).trans rfl
  have f6 : wc.frozen? ⟨w.heap.size + 1, 6, none⟩ = false := O4.out.frozen 6
  go_upto_region 6 with (fail)
  obtain ⟨zd, hzd⟩ : ∃ b, (z0 && d8) = b := ⟨_, rfl⟩
  have HZD := Hi hzd
  clear hzd
  go_cut [90] from 83 to 90 (fun c wx => c = .bool zd ∧ wx = wc)
  case first =>
   cases z0
   all_goals
    go_wp2_with ((with_reducible refine aE rfl ?_ ?_); rfl; intro _)
    go_meet
    exact ⟨by rw [← HZD.out]; rfl, rfl⟩
  case rest =>
   obtain ⟨rfl, rfl⟩ := hcut
   go_upto_if 90 with (fail)
   go_cut [94] from 91 to 94 (fun _ wx => Obj1 wx (w.heap.size + 1) (List.toArray [J I (s.size : Int), J I W, J I HN, .bool b7, J I dp, J I mt, J I CN, J I 0, J I 0, J I 0, J I 0, J I 0, J I 0, J I 0, J I 0, J I 0]) 63 ∧ Obj1 wx w.heap.size #[J I 0, J I 0, J I 0, .bool false, J I 0, J I 0, J I 0, J I 0, J I 0, J I 0, J I 0, J I 0, J I 0, J I 0, J I 0, J I 0] 63 ∧ wx.ownsRow w.heap.size 134 3 (.slice (some ⟨g, 0, none⟩) (4 + 6) cap) (4 + 6) ([.bool b1, J I 2, J I 4, .bool b2, J I 3, J I 4, .bool b3, J I 2, J I 8, .bool b4, J I 3, J I 8] ++ [.bool b5, J I 2, J I 12, .bool (!b6), J I 3, J I 14, .bool b8, J I 3, J I 16, .bool (!b9), J I 2, J I 16, .bool (b7 && (m1 || m2)), J I 2, J I 8, .bool (b6 && cg), J I 2, J I 32]) ∧ Below w.heap.size w wx)
   case first =>
    have hzd := HZD.out
    cases zd
    · have e : CN = co := by rw [← HCN.out, if_neg (fun hx => by rw [show z0 = true by rw [← HZ0.out, hx.1]; rfl, show d8 = true by rw [← HD8.out]; exact decide_eq_true hx.2] at hzd; cases hzd)]
      clear hzd
      subst e
      go_wp2_with fail
      go_meet
      exact ⟨O4.out, O2.out, OW.out, BL.out⟩
    · have hzd2 : z0 = true ∧ d8 = true := by simpa using hzd
      have e : CN = M := by rw [← HCN.out, if_pos ⟨by have := HZ0.out; rw [hzd2.1] at this; simpa using this, of_decide_eq_true (by rw [HD8.out]; exact hzd2.2)⟩]
      clear hzd hzd2
      subst e
      go_wp2_with (first | ((with_reducible refine aE rfl ?_ ?_); rfl; intro _) | ((go_at_call 104; (with_reducible refine (HM.out _).mono ?_); rintro e wl ⟨rfl, rfl⟩)))
      have O4 := Hi ((O4.out.set 6 (J I CN)).cells (show _ = (List.toArray [J I (s.size : Int), J I W, J I HN, .bool b7, J I dp, J I mt, J I CN, J I 0, J I 0, J I 0, J I 0, J I 0, J I 0, J I 0, J I 0, J I 0]) from rfl))
      have O2 := Hi (O2.out.set_other ⟨w.heap.size + 1, 6, none⟩ (J I CN) (by simp))
      have OW := Hi (owns_set3 OW.out (OB := w.heap.size + 1) (o := 6) (J I CN) hgd.2)
      have BL := Hi (BL.out.setCell (p := ⟨w.heap.size + 1, 6, none⟩) (by simp) (J I CN))
      go_meet
      exact ⟨O4.out, O2.out, OW.out, BL.out⟩
   case rest =>
    clear c2 c3 c4 c6 f2 f6
    obtain ⟨h4, h2, hw, hb⟩ := hcut
    have O4 := Hi h4
    have O2 := Hi h2
    have OW := Hi hw
    have BL := Hi hb
    clear h4 h2 hw hb
    go_wp2_with (first
     | (refine aL (by kernel_rfl) 63 16 _ rfl (w.heap.size + 1) [J I (s.size : Int), J I W, J I HN, .bool b7, J I dp, J I mt, J I CN, J I 0, J I 0, J I 0, J I 0, J I 0, J I 0, J I 0, J I 0, J I 0] rfl rfl O4.out Tryz.underlying63 rfl (by kernel_rfl) ?_; intro _)
     | (refine so 63 16 w.heap.size [J I (s.size : Int), J I W, J I HN, .bool b7, J I dp, J I mt, J I CN, J I 0, J I 0, J I 0, J I 0, J I 0, J I 0, J I 0, J I 0, J I 0] O2.out ?_; intro ws hst hO; have O2 := Hi hO; have O4 := Hi (hst.oth O4.out (by omega)); have BL := Hi (hst.below BL.out (by omega)); have OW := Hi (hst.owns OW.out hgd.1); clear hst hO))
    refine bodyPost_ret (v := .tuple #[.agg (List.toArray [J I (s.size : Int), J I W, J I HN, .bool b7, J I dp, J I mt, J I CN, J I 0, J I 0, J I 0, J I 0, J I 0, J I 0, J I 0, J I 0, J I 0]), .slice (some ⟨g, 0, none⟩) 10 cap]) ?_ rfl ⟨g, cap, by rw [HC.out], by rw [HR.out]; exact OW.out, BL.out⟩
    exact ag Tryz.results60 _ _ _ [J I (s.size : Int), J I W, J I HN, .bool b7, J I dp, J I mt, J I CN, J I 0, J I 0, J I 0, J I 0, J I 0, J I 0, J I 0, J I 0, J I 0] _ rfl O2.out.range0 Tryz.underlying63 rfl (by kernel_rfl)
end Go.Proofs.YtfchnibjjokmbaaGreat

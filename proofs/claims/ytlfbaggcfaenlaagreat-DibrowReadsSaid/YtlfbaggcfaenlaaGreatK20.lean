/- The reference of layer 20: bad, side, short; walked. -/
import Derived.Test.YtlfbaggcfaenlaaGreatK6
import Derived.Test.YtlfbaggcfaenlaaGreatK9
import Derived.Deep.CutRange
import Derived.Test.YtlfbaggcfaenlaaGreatK2
import Derived.Test.YtlfbaggcfaenlaaGreatK0
namespace Go.Proofs.YtlfbaggcfaenlaaGreat
open Go.RowKit
set_option linter.unusedVariables false
set_option linter.unusedSimpArgs false
def rBad20 (k a : Int) : List Value := [.int .i64 0, .int .i64 0, .int .i64 0, .bool false, .int .i64 0, .int .i64 0, .int .i64 0, .int .i64 0, .int .i64 0, .int .i64 0, .int .i64 0, .int .i64 0, .int .i64 0, .int .i64 k, .int .i64 a]
theorem rbad20_any (k a : Int) (w : World) : Calls Tryz.prog 85 #[.int .i64 k, .int .i64 a] w (RA w (rBad20 k a)) := by
  go_enter Tryz.func85, Tryz.ntmps85
  go_wp2
  refine bodyPost_ret (v := .agg (List.toArray (rBad20 k a))) ?_ rfl ⟨rfl, (Below.refl _ _).alloc (Nat.le_refl _) _⟩
  exact results_c Tryz.results85 _ _ _ (rBad20 k a) _ rfl (Obj1.range0 (cs := (rBad20 k a)) (obj1_new w _ _)) Tryz.underlying52 rfl (by kernel_rfl)
def sideK (v : Int) : Int := if v ≤ 0 then 2 else if v > 16384 then 3 else 0
theorem rside_any (v : Int) (w : World) : Calls Tryz.prog 89 #[.int .i64 v] w fun e w' => e = .returned (.int .i64 (sideK v)) ∧ w' = w := by
  by_cases h1 : v ≤ 0
  · have E := Hi (show sideK v = 2 by unfold sideK; rw [if_pos h1])
    go_enter Tryz.func89, Tryz.ntmps89
    go_wp2
    go_ret
    exact ⟨ret_i E.out.symm, rfl⟩
  by_cases h2 : v > 16384
  · have E := Hi (show sideK v = 3 by unfold sideK; rw [if_neg h1, if_pos h2])
    go_enter Tryz.func89, Tryz.ntmps89
    go_wp2
    go_ret
    exact ⟨ret_i E.out.symm, rfl⟩
  have E := Hi (show sideK v = 0 by unfold sideK; rw [if_neg h1, if_neg h2])
  go_enter Tryz.func89, Tryz.ntmps89
  go_wp2
  go_ret
  exact ⟨ret_i E.out.symm, rfl⟩
def rOk (a : Hd) (r g b m fr en : Int) : List Value := [.int .i64 a.sz, .int .i64 a.w, .int .i64 a.h, .bool a.top, .int .i64 a.dp, .int .i64 a.mt, .int .i64 a.co, .int .i64 r, .int .i64 g, .int .i64 b, .int .i64 m, .int .i64 fr, .int .i64 en, .int .i64 0, .int .i64 0]
def rShort (b : ByteArray) (p : Int) : List Value := if (firstW (smallF b)).2 = true then rBad20 (firstW (smallF b)).1.2.1 (p + (firstW (smallF b)).1.2.2) else rOk (smallH b) 0 0 0 0 p (p + 12)
theorem le_loww (s : ByteArray) (a b k : Nat) (V : Int) (w : World) (hk : b = a + k) (h4 : k ≤ 4) (hb : b ≤ s.size) (hV : lowK s a k = V) : Calls Tryz.prog 86 #[.string (s.extract a b)] w fun e w' => e = .returned (.int .i64 V) ∧ w' = w := by
  have hz : (s.extract a b).size = k := by rw [ByteArray.size_extract]; omega
  refine (rle_any (s.extract a b) w (by omega)).mono ?_
  rintro e w' ⟨h1, h2⟩
  exact ⟨by rw [h1, hz, lowK_lo s a b k (by omega) hb, hV], h2.symm⟩
set_option maxRecDepth 100000 in
set_option maxHeartbeats 8000000 in
theorem rshort_any (s : ByteArray) (p : Nat) (w : World) (h : s.size = 12) (hp : p ≤ 100000) : Calls Tryz.prog 87 #[.string s, .int .i64 p] w (RA w (rShort s p)) := by
  have HBD := Hi (fun k a w0 => rbad20_any k a w0)
  obtain ⟨R, hR⟩ : ∃ R, rShort s p = R := ⟨_, rfl⟩
  have E0 := hR
  unfold rShort smallF sidesF smallH at E0
  rw [hR]
  clear hR
  obtain ⟨W, hW⟩ : ∃ W, lowK s 4 2 = W := ⟨_, rfl⟩
  obtain ⟨H, hH⟩ : ∃ H, lowK s 6 2 = H := ⟨_, rfl⟩
  obtain ⟨P, hP⟩ : ∃ P, lowK s 8 2 = P := ⟨_, rfl⟩
  obtain ⟨dp, hdp⟩ : ∃ dp, lowK s 10 2 = dp := ⟨_, rfl⟩
  have bdp := lowK_bd s 10 2
  have bH := lowK_bd s 6 2
  have HW := Hi (fun w0 => le_loww s 4 6 2 W w0 rfl (by omega) (by omega) hW)
  have HH := Hi (fun w0 => le_loww s 6 8 2 H w0 rfl (by omega) (by omega) hH)
  have HP := Hi (fun w0 => le_loww s 8 10 2 P w0 rfl (by omega) (by omega) hP)
  have HDP := Hi (fun w0 => le_loww s 10 12 2 dp w0 rfl (by omega) (by omega) hdp)
  have HD := Hi (fun w0 => rdepth_any dp w0)
  have HSW := Hi (fun w0 => rside_any W w0)
  have HSH := Hi (fun w0 => rside_any H w0)
  rw [hdp] at bdp
  rw [hH] at bH
  have dp0 := bdp.1
  rw [hW, hH, hP, hdp] at E0
  obtain ⟨b1, hb1⟩ : ∃ x, decide (W ≤ 0) = x := ⟨_, rfl⟩
  obtain ⟨b2, hb2⟩ : ∃ x, decide (W > 16384) = x := ⟨_, rfl⟩
  obtain ⟨b3, hb3⟩ : ∃ x, (H == 0) = x := ⟨_, rfl⟩
  obtain ⟨b4, hb4⟩ : ∃ x, (decide (H > 16384) || decide (H < -16384)) = x := ⟨_, rfl⟩
  obtain ⟨b5, hb5⟩ : ∃ x, (P != 1) = x := ⟨_, rfl⟩
  obtain ⟨b6, hb6⟩ : ∃ x, dpB dp false = x := ⟨_, rfl⟩
  obtain ⟨dt, hdt⟩ : ∃ x, dpB dp true = x := ⟨_, rfl⟩
  obtain ⟨d16, hd16⟩ : ∃ x, (dp == 16) = x := ⟨_, rfl⟩
  obtain ⟨d32, hd32⟩ : ∃ x, (dp == 32) = x := ⟨_, rfl⟩
  have hbx : b6 = (dt && (!d16 && !d32)) := by
    rw [← hb6, ← hdt, ← hd16, ← hd32]; unfold dpB
    by_cases e1 : dp = 16
    · subst e1; rfl
    by_cases e2 : dp = 32
    · subst e2; rfl
    rw [eqf e1, eqf e2]; simp
  rw [hb1, hb2, hb3, hb4, hb5, hb6] at E0
  rw [hdt] at HD
  obtain ⟨kW, hkW⟩ : ∃ k, sideK W = k := ⟨_, rfl⟩
  obtain ⟨kH, hkH⟩ : ∃ k, sideK H = k := ⟨_, rfl⟩
  have ekW : kW = (if b1 = true then 2 else if b2 = true then 3 else 0) := by rw [← hkW, ← hb1, ← hb2]; unfold sideK; simp
  have ekH : kH = (if b3 = true then 2 else if b4 = true then 3 else 0) := by
    rw [← hkH, ← hb3, ← hb4]; unfold sideK
    by_cases e1 : H = 0
    · subst e1; rfl
    · rw [eqf e1, if_neg (by omega)]
      by_cases e2 : H > 16384
      · rw [if_pos e2]; simp [e2]
      · rw [if_neg e2]; simp [e2]; omega
  rw [hkW] at HSW
  rw [hkH] at HSH
  have EKW := Hi ekW
  have EKH := Hi ekH
  have HBX := Hi hbx
  have HE := Hi E0
  clear hW hH hP hdp hb1 hb2 hb3 hb4 hb6 hdt bdp bH ekW ekH hbx E0 hkW hkH
  have O4 := Hi (obj1_new w #[.int .i64 0, .int .i64 0, .int .i64 0, .bool false, .int .i64 0, .int .i64 0, .int .i64 0, .int .i64 0, .int .i64 0, .int .i64 0, .int .i64 0, .int .i64 0, .int .i64 0, .int .i64 0, .int .i64 0] 52)
  have BL := Hi ((Below.refl w.heap.size w).alloc (Nat.le_refl _) (.cells #[.int .i64 0, .int .i64 0, .int .i64 0, .bool false, .int .i64 0, .int .i64 0, .int .i64 0, .int .i64 0, .int .i64 0, .int .i64 0, .int .i64 0, .int .i64 0, .int .i64 0, .int .i64 0, .int .i64 0] 52))
  have q1 : (p : Int) + 12 ≤ 100012 := by omega
  go_enter Tryz.func87, Tryz.ntmps87
  go_upto_region 1 with (fail)
  generalize World.alloc _ _ = w1 at O4 BL ⊢
  refine wp_region_noPanic ?_
  refine wp_region_held_drew (S := fun w' => True) (by kernel_rfl) trivial (fun hHeld => ?_)
  refine wpAnyH_take (i := 0) (v := .string s) rfl (by kernel_rfl) (by kernel_rfl) (by kernel_rfl) (fun _ _ _ h => h) (Or.inl ⟨by rfl, fun w hS => by go_simp⟩) hHeld ?_
  simp only [Act.put, zq1, zq2, zq3, zq4, zq5, zq6]
  refine wpAnyH_take (i := 1) (v := .string (s.extract 4 6)) rfl (by kernel_rfl) (by kernel_rfl) (by kernel_rfl) (fun _ _ _ h => h) (Or.inl ⟨by rfl, fun w hS => by go_simp⟩) hHeld ?_
  simp only [Act.put, zq1, zq2, zq3, zq4, zq5, zq6]
  refine wpAnyH_take (i := 3) (v := .string s) rfl (by kernel_rfl) (by kernel_rfl) (by kernel_rfl) (fun _ _ _ h => h) (Or.inl ⟨by rfl, fun w hS => by go_simp⟩) hHeld ?_
  simp only [Act.put, zq1, zq2, zq3, zq4, zq5, zq6]
  refine wpAnyH_take (i := 4) (v := .string (s.extract 6 8)) rfl (by kernel_rfl) (by kernel_rfl) (by kernel_rfl) (fun _ _ _ h => h) (Or.inl ⟨by rfl, fun w hS => by go_simp⟩) hHeld ?_
  simp only [Act.put, zq1, zq2, zq3, zq4, zq5, zq6]
  refine wpAnyH_take (i := 6) (v := .string s) rfl (by kernel_rfl) (by kernel_rfl) (by kernel_rfl) (fun _ _ _ h => h) (Or.inl ⟨by rfl, fun w hS => by go_simp⟩) hHeld ?_
  simp only [Act.put, zq1, zq2, zq3, zq4, zq5, zq6]
  refine wpAnyH_take (i := 7) (v := .string (s.extract 10 12)) rfl (by kernel_rfl) (by kernel_rfl) (by kernel_rfl) (fun _ _ _ h => h) (Or.inl ⟨by rfl, fun w hS => by go_simp⟩) hHeld ?_
  simp only [Act.put, zq1, zq2, zq3, zq4, zq5, zq6]
  refine wpAnyH_take (i := 9) (v := .int .i64 p) rfl (by kernel_rfl) (by kernel_rfl) (by kernel_rfl) (fun _ _ _ h => h) (Or.inl ⟨by rfl, fun w hS => by go_simp⟩) hHeld ?_
  simp only [Act.put, zq1, zq2, zq3, zq4, zq5, zq6]
  refine wpAnyH_take (i := 10) (v := .int .i64 p) rfl (by kernel_rfl) (by kernel_rfl) (by kernel_rfl) (fun _ _ _ h => h) (Or.inl ⟨by rfl, fun w hS => by go_simp⟩) hHeld ?_
  simp only [Act.put, zq1, zq2, zq3, zq4, zq5, zq6]
  refine wpAnyH_take (i := 11) (v := .int .i64 ((p : Int) + 12)) rfl (by kernel_rfl) (by kernel_rfl) (by kernel_rfl) (fun _ _ _ h => h) (Or.inl ⟨by rfl, fun wx _ => by (go_simp) <;> exact i64_wraps _ (by omega) (by omega)⟩) hHeld ?_
  simp only [Act.put, zq1, zq2, zq3, zq4, zq5, zq6]
  refine wpAnyH_call2 (i := 2) (v := .int .i64 W) rfl (by kernel_rfl) (by kernel_rfl) (by kernel_rfl) (fun _ _ _ h => h) (Or.inr ⟨by rfl, fun wx _ => ⟨86, #[.string (s.extract 4 6)], by kernel_rfl, HW.out wx⟩⟩) hHeld ?_
  simp only [Act.put, zq1, zq2, zq3, zq4, zq5, zq6]
  refine wpAnyH_call2 (i := 5) (v := .int .i64 H) rfl (by kernel_rfl) (by kernel_rfl) (by kernel_rfl) (fun _ _ _ h => h) (Or.inr ⟨by rfl, fun wx _ => ⟨86, #[.string (s.extract 6 8)], by kernel_rfl, HH.out wx⟩⟩) hHeld ?_
  simp only [Act.put, zq1, zq2, zq3, zq4, zq5, zq6]
  refine wpAnyH_call2 (i := 8) (v := .int .i64 dp) rfl (by kernel_rfl) (by kernel_rfl) (by kernel_rfl) (fun _ _ _ h => h) (Or.inr ⟨by rfl, fun wx _ => ⟨86, #[.string (s.extract 10 12)], by kernel_rfl, HDP.out wx⟩⟩) hHeld ?_
  simp only [Act.put, zq1, zq2, zq3, zq4, zq5, zq6]
  refine wpAnyH_take (i := 12) (v := .agg (List.toArray [.int .i64 12, .int .i64 W, .int .i64 H, .bool false, .int .i64 dp, .int .i64 0, .int .i64 0, .int .i64 0, .int .i64 0, .int .i64 0, .int .i64 0, .int .i64 (p : Int), .int .i64 ((p : Int) + 12), .int .i64 0, .int .i64 0])) rfl (by kernel_rfl) (by kernel_rfl) (by kernel_rfl) (fun _ _ _ h => h) (Or.inl ⟨by rfl, fun w hS => by go_simp⟩) hHeld ?_
  simp only [Act.put, zq1, zq2, zq3, zq4, zq5, zq6]
  have O4 := Hi (O4.out.drew)
  have BL := Hi BL.out.drew
  generalize World.drew _ = wk at O4 BL ⊢
  refine wpAnyH_ready (rs := [13]) (by kernel_rfl) (by simp) ?_
  refine AllReadyH.cons (o := _) rfl (fun K' hK => ?_) AllReadyH.nil
  go_simp
  have O5 := Hi (obj1_new wk #[.int .i64 0, .int .i64 0, .int .i64 0, .bool false, .int .i64 0, .int .i64 0, .int .i64 0, .int .i64 0, .int .i64 0, .int .i64 0, .int .i64 0, .int .i64 0, .int .i64 0, .int .i64 0, .int .i64 0] 52)
  have l4k := O4.out.lt
  have O4 := Hi (O4.out.alloc (.cells #[.int .i64 0, .int .i64 0, .int .i64 0, .bool false, .int .i64 0, .int .i64 0, .int .i64 0, .int .i64 0, .int .i64 0, .int .i64 0, .int .i64 0, .int .i64 0, .int .i64 0, .int .i64 0, .int .i64 0] 52))
  have BL := Hi (BL.out.alloc BL.out.size (.cells #[.int .i64 0, .int .i64 0, .int .i64 0, .bool false, .int .i64 0, .int .i64 0, .int .i64 0, .int .i64 0, .int .i64 0, .int .i64 0, .int .i64 0, .int .i64 0, .int .i64 0, .int .i64 0, .int .i64 0] 52))
  obtain ⟨d, hd⟩ : ∃ d, wk.heap.size = d := ⟨_, rfl⟩
  rw [hd] at O5 l4k ⊢
  clear hd
  generalize World.alloc wk _ = wk2 at O4 O5 BL ⊢
  refine hK _ _ trivial (fun hA1 => ?_)
  clear hK K'
  try simp only [Act.put, zq1, zq2, zq3, zq4, zq5, zq6]
  obtain ⟨wk, rfl⟩ : ∃ z, z = wk2 := ⟨_, rfl⟩
  refine wpAnyH_ready (rs := [14]) (by kernel_rfl) (by simp) ?_
  refine AllReadyH.cons (o := _) rfl (fun K' hK => ?_) AllReadyH.nil
  rw [if_pos (by rfl)]
  refine wp_store_mid 52 _ _ rfl (d) 0 (List.toArray [.int .i64 12, .int .i64 W, .int .i64 H, .bool false, .int .i64 dp, .int .i64 0, .int .i64 0, .int .i64 0, .int .i64 0, .int .i64 0, .int .i64 0, .int .i64 (p : Int), .int .i64 ((p : Int) + 12), .int .i64 0, .int .i64 0]) rfl rfl (O5.out.there 0 15 (by simp)) (by kernel_rfl) (all_oneCell_toArray (List.all_eq_true.1 (by rfl))) ?_
  simp only [Act.put, zq1, zq2, zq3, zq4, zq5, zq6]
  have hst : Stored wk (d) 0 [.int .i64 12, .int .i64 W, .int .i64 H, .bool false, .int .i64 dp, .int .i64 0, .int .i64 0, .int .i64 0, .int .i64 0, .int .i64 0, .int .i64 0, .int .i64 (p : Int), .int .i64 ((p : Int) + 12), .int .i64 0, .int .i64 0] (wk.setCells (d) 0 [.int .i64 12, .int .i64 W, .int .i64 H, .bool false, .int .i64 dp, .int .i64 0, .int .i64 0, .int .i64 0, .int .i64 0, .int .i64 0, .int .i64 0, .int .i64 (p : Int), .int .i64 ((p : Int) + 12), .int .i64 0, .int .i64 0]) := rfl
  have O5 := Hi (hst.whole O5.out (by first | rfl | simp))
  have O4 := Hi (hst.oth O4.out (by omega))
  have BL := Hi (hst.below BL.out (by omega))
  generalize World.setCells _ _ _ _ = wk2 at O4 O5 BL ⊢
  clear hst
  refine hK _ _ trivial (fun hH1 => ?_)
  clear hK K'
  obtain ⟨wk, rfl⟩ : ∃ z, z = wk2 := ⟨_, rfl⟩
  refine wpAnyH_done (by kernel_rfl) ?_ _
  refine NoPanic.normal ?_
  have c1 : wk.cell? ⟨d, 1, none⟩ = some (.int .i64 W) := (O5.out.cell 1).trans rfl
  have c2 : wk.cell? ⟨d, 2, none⟩ = some (.int .i64 H) := (O5.out.cell 2).trans rfl
  have c4 : wk.cell? ⟨d, 4, none⟩ = some (.int .i64 dp) := (O5.out.cell 4).trans rfl
  have c6 : wk.cell? ⟨d, 6, none⟩ = some (.int .i64 0) := (O5.out.cell 6).trans rfl
  have f6 : wk.frozen? ⟨d, 6, none⟩ = false := O5.out.frozen 6
  have hd4 : w.heap.size ≠ d := by omega
  obtain ⟨nW, hnW⟩ : ∃ b, (kW != 0) = b := ⟨_, rfl⟩
  obtain ⟨nH, hnH⟩ : ∃ b, (kH != 0) = b := ⟨_, rfl⟩
  have HNW := Hi hnW
  have HNH := Hi hnH
  cases nW
  rotate_left
  · have E := Hi (show R = rBad20 kW ((p : Int) + 4) by
      have e := EKW.out; have h1 := HNW.out; rw [← HE.out]
      cases b1
      · cases b2
        · rw [e] at h1; exact absurd h1 (by decide)
        · rw [e]; rfl
      · rw [e]; rfl)
    clear HE
    go_wp2_with (first
      | ((go_at_call 89; (with_reducible refine (HSW.out _).mono ?_); rintro e wl ⟨rfl, hq⟩); have hq := hq.symm; subst hq)
      | ((go_at_call 85; (with_reducible refine (HBD.out _ _ _).mono ?_); rintro e wc ⟨rfl, hb⟩); have O4 := Hi (O4.out.below hb O4.out.lt); have O5 := Hi (O5.out.below hb O5.out.lt); have BL := Hi (bthen hb BL.out BL.out.size); clear hb)
      | (refine store_o rfl 52 15 _ _ rfl w.heap.size [.int .i64 0, .int .i64 0, .int .i64 0, .bool false, .int .i64 0, .int .i64 0, .int .i64 0, .int .i64 0, .int .i64 0, .int .i64 0, .int .i64 0, .int .i64 0, .int .i64 0, .int .i64 kW, .int .i64 ((p : Int) + 4)] rfl rfl (by kernel_rfl) (by kernel_rfl) (by kernel_rfl) O4.out (by first | rfl | simp) ?_; intro ws hst hO; have O4 := Hi hO; have O5 := Hi (hst.oth O5.out (by omega)); have BL := Hi (hst.below BL.out (by omega)); clear hst hO; refine gen_frame 4 (.pointer (some ⟨w.heap.size, 0, none⟩)) (by kernel_rfl) (by kernel_rfl) ?_; intro A hA hAd))
    refine bodyPost_ret (v := .agg (List.toArray [.int .i64 0, .int .i64 0, .int .i64 0, .bool false, .int .i64 0, .int .i64 0, .int .i64 0, .int .i64 0, .int .i64 0, .int .i64 0, .int .i64 0, .int .i64 0, .int .i64 0, .int .i64 kW, .int .i64 ((p : Int) + 4)])) ?_ hAd ⟨by rw [E.out] <;> rfl, BL.out⟩
    exact results_c Tryz.results87 _ _ _ [.int .i64 0, .int .i64 0, .int .i64 0, .bool false, .int .i64 0, .int .i64 0, .int .i64 0, .int .i64 0, .int .i64 0, .int .i64 0, .int .i64 0, .int .i64 0, .int .i64 0, .int .i64 kW, .int .i64 ((p : Int) + 4)] _ hA O4.out.range0 Tryz.underlying52 rfl (by kernel_rfl)
  obtain ⟨rfl, rfl⟩ : b1 = false ∧ b2 = false := by have e := EKW.out; have h1 := HNW.out; rw [e] at h1; cases b1 <;> cases b2 <;> simp_all
  go_upto_region 4 with ((go_at_call 89; (with_reducible refine (HSW.out _).mono ?_); rintro e wl ⟨rfl, hq⟩); have hq := hq.symm; subst hq)
  cases nH
  rotate_left
  · have E := Hi (show R = rBad20 kH ((p : Int) + 6) by
      have e := EKH.out; have h1 := HNH.out; rw [← HE.out]
      cases b3
      · cases b4
        · rw [e] at h1; exact absurd h1 (by decide)
        · rw [e]; rfl
      · rw [e]; rfl)
    clear HE
    go_wp2_with (first
      | ((go_at_call 89; (with_reducible refine (HSH.out _).mono ?_); rintro e wl ⟨rfl, hq⟩); have hq := hq.symm; subst hq)
      | ((go_at_call 85; (with_reducible refine (HBD.out _ _ _).mono ?_); rintro e wc ⟨rfl, hb⟩); have O4 := Hi (O4.out.below hb O4.out.lt); have O5 := Hi (O5.out.below hb O5.out.lt); have BL := Hi (bthen hb BL.out BL.out.size); clear hb)
      | (refine store_o rfl 52 15 _ _ rfl w.heap.size [.int .i64 0, .int .i64 0, .int .i64 0, .bool false, .int .i64 0, .int .i64 0, .int .i64 0, .int .i64 0, .int .i64 0, .int .i64 0, .int .i64 0, .int .i64 0, .int .i64 0, .int .i64 kH, .int .i64 ((p : Int) + 6)] rfl rfl (by kernel_rfl) (by kernel_rfl) (by kernel_rfl) O4.out (by first | rfl | simp) ?_; intro ws hst hO; have O4 := Hi hO; have O5 := Hi (hst.oth O5.out (by omega)); have BL := Hi (hst.below BL.out (by omega)); clear hst hO; refine gen_frame 4 (.pointer (some ⟨w.heap.size, 0, none⟩)) (by kernel_rfl) (by kernel_rfl) ?_; intro A hA hAd))
    refine bodyPost_ret (v := .agg (List.toArray [.int .i64 0, .int .i64 0, .int .i64 0, .bool false, .int .i64 0, .int .i64 0, .int .i64 0, .int .i64 0, .int .i64 0, .int .i64 0, .int .i64 0, .int .i64 0, .int .i64 0, .int .i64 kH, .int .i64 ((p : Int) + 6)])) ?_ hAd ⟨by rw [E.out] <;> rfl, BL.out⟩
    exact results_c Tryz.results87 _ _ _ [.int .i64 0, .int .i64 0, .int .i64 0, .bool false, .int .i64 0, .int .i64 0, .int .i64 0, .int .i64 0, .int .i64 0, .int .i64 0, .int .i64 0, .int .i64 0, .int .i64 0, .int .i64 kH, .int .i64 ((p : Int) + 6)] _ hA O4.out.range0 Tryz.underlying52 rfl (by kernel_rfl)
  obtain ⟨rfl, rfl⟩ : b3 = false ∧ b4 = false := by have e := EKH.out; have h1 := HNH.out; rw [e] at h1; cases b3 <;> cases b4 <;> simp_all
  go_upto_region 6 with ((go_at_call 89; (with_reducible refine (HSH.out _).mono ?_); rintro e wl ⟨rfl, hq⟩); have hq := hq.symm; subst hq)
  cases b5
  rotate_left
  · have E := Hi (show R = rBad20 2 ((p : Int) + 8) from HE.out.symm)
    clear HE
    go_wp2_with (first
      | ((go_at_call 86; (with_reducible refine (HP.out _).mono ?_); rintro e wl ⟨rfl, hq⟩); have hq := hq.symm; subst hq)
      | ((go_at_call 85; (with_reducible refine (HBD.out _ _ _).mono ?_); rintro e wc ⟨rfl, hb⟩); have O4 := Hi (O4.out.below hb O4.out.lt); have O5 := Hi (O5.out.below hb O5.out.lt); have BL := Hi (bthen hb BL.out BL.out.size); clear hb)
      | (refine store_o rfl 52 15 _ _ rfl w.heap.size [.int .i64 0, .int .i64 0, .int .i64 0, .bool false, .int .i64 0, .int .i64 0, .int .i64 0, .int .i64 0, .int .i64 0, .int .i64 0, .int .i64 0, .int .i64 0, .int .i64 0, .int .i64 2, .int .i64 ((p : Int) + 8)] rfl rfl (by kernel_rfl) (by kernel_rfl) (by kernel_rfl) O4.out (by first | rfl | simp) ?_; intro ws hst hO; have O4 := Hi hO; have O5 := Hi (hst.oth O5.out (by omega)); have BL := Hi (hst.below BL.out (by omega)); clear hst hO; refine gen_frame 4 (.pointer (some ⟨w.heap.size, 0, none⟩)) (by kernel_rfl) (by kernel_rfl) ?_; intro A hA hAd))
    refine bodyPost_ret (v := .agg (List.toArray [.int .i64 0, .int .i64 0, .int .i64 0, .bool false, .int .i64 0, .int .i64 0, .int .i64 0, .int .i64 0, .int .i64 0, .int .i64 0, .int .i64 0, .int .i64 0, .int .i64 0, .int .i64 2, .int .i64 ((p : Int) + 8)])) ?_ hAd ⟨by rw [E.out] <;> rfl, BL.out⟩
    exact results_c Tryz.results87 _ _ _ [.int .i64 0, .int .i64 0, .int .i64 0, .bool false, .int .i64 0, .int .i64 0, .int .i64 0, .int .i64 0, .int .i64 0, .int .i64 0, .int .i64 0, .int .i64 0, .int .i64 0, .int .i64 2, .int .i64 ((p : Int) + 8)] _ hA O4.out.range0 Tryz.underlying52 rfl (by kernel_rfl)
  go_upto_region 8 with ((go_at_call 86; (with_reducible refine (HP.out _).mono ?_); rintro e wl ⟨rfl, hq⟩); have hq := hq.symm; subst hq)
  obtain ⟨nb, hnb⟩ : ∃ x, (!b6) = x := ⟨_, rfl⟩
  have HNB := Hi hnb
  clear hnb
  go_cut [59] from 46 to 59 (fun c wx => c = .bool nb ∧ wx = wk)
  case first =>
    cases dt
    · go_wp2_with (first | ((with_reducible refine skip_g rfl ?_ ?_); rfl; intro _) | ((go_at_call 90; (with_reducible refine (HD.out _).mono ?_); rintro e wl ⟨rfl, hq⟩); have hq := hq.symm; subst hq))
      go_meet
      exact ⟨by rw [← HNB.out, HBX.out]; rfl, rfl⟩
    · cases d16 <;> cases d32
      all_goals
        go_wp2_with (first | ((with_reducible refine skip_g rfl ?_ ?_); rfl; intro _) | ((go_at_call 90; (with_reducible refine (HD.out _).mono ?_); rintro e wl ⟨rfl, hq⟩); have hq := hq.symm; subst hq))
        go_meet
        exact ⟨by rw [← HNB.out, HBX.out]; rfl, rfl⟩
  case rest =>
    obtain ⟨rfl, rfl⟩ := hcut
    cases nb
    rotate_left
    · obtain rfl : b6 = false := by have h1 := HNB.out; cases b6 <;> simp_all
      clear HBX HNB
      have E := Hi (show R = rBad20 3 ((p : Int) + 10) from HE.out.symm)
      clear HE
      go_upto_region 9 with (fail)
      go_wp2_with (first
        | ((go_at_call 85; (with_reducible refine (HBD.out _ _ _).mono ?_); rintro e wc ⟨rfl, hb⟩); have O4 := Hi (O4.out.below hb O4.out.lt); have O5 := Hi (O5.out.below hb O5.out.lt); have BL := Hi (bthen hb BL.out BL.out.size); clear hb)
        | (refine store_o rfl 52 15 _ _ rfl w.heap.size [.int .i64 0, .int .i64 0, .int .i64 0, .bool false, .int .i64 0, .int .i64 0, .int .i64 0, .int .i64 0, .int .i64 0, .int .i64 0, .int .i64 0, .int .i64 0, .int .i64 0, .int .i64 3, .int .i64 ((p : Int) + 10)] rfl rfl (by kernel_rfl) (by kernel_rfl) (by kernel_rfl) O4.out (by first | rfl | simp) ?_; intro ws hst hO; have O4 := Hi hO; have O5 := Hi (hst.oth O5.out (by omega)); have BL := Hi (hst.below BL.out (by omega)); clear hst hO; refine gen_frame 4 (.pointer (some ⟨w.heap.size, 0, none⟩)) (by kernel_rfl) (by kernel_rfl) ?_; intro A hA hAd))
      refine bodyPost_ret (v := .agg (List.toArray [.int .i64 0, .int .i64 0, .int .i64 0, .bool false, .int .i64 0, .int .i64 0, .int .i64 0, .int .i64 0, .int .i64 0, .int .i64 0, .int .i64 0, .int .i64 0, .int .i64 0, .int .i64 3, .int .i64 ((p : Int) + 10)])) ?_ hAd ⟨by rw [E.out] <;> rfl, BL.out⟩
      exact results_c Tryz.results87 _ _ _ [.int .i64 0, .int .i64 0, .int .i64 0, .bool false, .int .i64 0, .int .i64 0, .int .i64 0, .int .i64 0, .int .i64 0, .int .i64 0, .int .i64 0, .int .i64 0, .int .i64 0, .int .i64 3, .int .i64 ((p : Int) + 10)] _ hA O4.out.range0 Tryz.underlying52 rfl (by kernel_rfl)
    · obtain rfl : b6 = true := by have h1 := HNB.out; cases b6 <;> simp_all
      clear HBX HNB
      go_upto_region 10 with (fail)
      by_cases h8 : dp ≤ 8
      · have D8 : decide (dp ≤ 8) = true := decide_eq_true h8
        have E := Hi (show R = [.int .i64 12, .int .i64 W, .int .i64 H, .bool false, .int .i64 dp, .int .i64 0, .int .i64 (2 ^ dp.toNat), .int .i64 0, .int .i64 0, .int .i64 0, .int .i64 0, .int .i64 (p : Int), .int .i64 ((p : Int) + 12), .int .i64 0, .int .i64 0] by rw [← HE.out]; show rOk ⟨12, W, H, false, dp, 0, (if dp ≤ 8 then 2 ^ dp.toNat else 0), z8, 0⟩ 0 0 0 0 _ _ = _; rw [if_pos h8]; rfl)
        have HPW := Hi (fun w0 => power_any dp w0 dp0 (by omega))
        clear HE
        go_upto_region 12 with ((go_at_call 40; (with_reducible refine (HPW.out _).mono ?_); rintro e wl ⟨rfl, hq⟩); subst hq)
        have O5 := Hi ((O5.out.set 6 (.int .i64 (2 ^ dp.toNat))).cells (show _ = (List.toArray [.int .i64 12, .int .i64 W, .int .i64 H, .bool false, .int .i64 dp, .int .i64 0, .int .i64 (2 ^ dp.toNat), .int .i64 0, .int .i64 0, .int .i64 0, .int .i64 0, .int .i64 (p : Int), .int .i64 ((p : Int) + 12), .int .i64 0, .int .i64 0]) from rfl))
        have O4 := Hi (O4.out.set_other ⟨d, 6, none⟩ (.int .i64 (2 ^ dp.toNat)) (by simpa using hd4))
        have BL := Hi (BL.out.setCell (p := ⟨d, 6, none⟩) (by simp; omega) (.int .i64 (2 ^ dp.toNat)))
        clear c1 c2 c4 c6 f6
        generalize World.setCell _ _ _ = wv at O4 O5 BL ⊢
        go_wp2_with (first
          | (refine load_u (by kernel_rfl) 52 15 _ rfl d [.int .i64 12, .int .i64 W, .int .i64 H, .bool false, .int .i64 dp, .int .i64 0, .int .i64 (2 ^ dp.toNat), .int .i64 0, .int .i64 0, .int .i64 0, .int .i64 0, .int .i64 (p : Int), .int .i64 ((p : Int) + 12), .int .i64 0, .int .i64 0] rfl rfl O5.out Tryz.underlying52 rfl (by kernel_rfl) ?_; intro _)
          | (refine store_o rfl 52 15 _ _ rfl w.heap.size [.int .i64 12, .int .i64 W, .int .i64 H, .bool false, .int .i64 dp, .int .i64 0, .int .i64 (2 ^ dp.toNat), .int .i64 0, .int .i64 0, .int .i64 0, .int .i64 0, .int .i64 (p : Int), .int .i64 ((p : Int) + 12), .int .i64 0, .int .i64 0] rfl rfl (by kernel_rfl) (by kernel_rfl) (by kernel_rfl) O4.out (by first | rfl | simp) ?_; intro ws hst hO; have O4 := Hi hO; have O5 := Hi (hst.oth O5.out (by omega)); have BL := Hi (hst.below BL.out (by omega)); clear hst hO; refine gen_frame 4 (.pointer (some ⟨w.heap.size, 0, none⟩)) (by kernel_rfl) (by kernel_rfl) ?_; intro A hA hAd))
        refine bodyPost_ret (v := .agg (List.toArray [.int .i64 12, .int .i64 W, .int .i64 H, .bool false, .int .i64 dp, .int .i64 0, .int .i64 (2 ^ dp.toNat), .int .i64 0, .int .i64 0, .int .i64 0, .int .i64 0, .int .i64 (p : Int), .int .i64 ((p : Int) + 12), .int .i64 0, .int .i64 0])) ?_ hAd ⟨by rw [E.out] <;> rfl, BL.out⟩
        exact results_c Tryz.results87 _ _ _ [.int .i64 12, .int .i64 W, .int .i64 H, .bool false, .int .i64 dp, .int .i64 0, .int .i64 (2 ^ dp.toNat), .int .i64 0, .int .i64 0, .int .i64 0, .int .i64 0, .int .i64 (p : Int), .int .i64 ((p : Int) + 12), .int .i64 0, .int .i64 0] _ hA O4.out.range0 Tryz.underlying52 rfl (by kernel_rfl)
      · have D8 : decide (dp ≤ 8) = false := decide_eq_false h8
        have E := Hi (show R = [.int .i64 12, .int .i64 W, .int .i64 H, .bool false, .int .i64 dp, .int .i64 0, .int .i64 0, .int .i64 0, .int .i64 0, .int .i64 0, .int .i64 0, .int .i64 (p : Int), .int .i64 ((p : Int) + 12), .int .i64 0, .int .i64 0] by rw [← HE.out]; show rOk ⟨12, W, H, false, dp, 0, (if dp ≤ 8 then 2 ^ dp.toNat else 0), z8, 0⟩ 0 0 0 0 _ _ = _; rw [if_neg h8]; rfl)
        clear HE
        go_wp2_with (first
          | (refine load_u (by kernel_rfl) 52 15 _ rfl d [.int .i64 12, .int .i64 W, .int .i64 H, .bool false, .int .i64 dp, .int .i64 0, .int .i64 0, .int .i64 0, .int .i64 0, .int .i64 0, .int .i64 0, .int .i64 (p : Int), .int .i64 ((p : Int) + 12), .int .i64 0, .int .i64 0] rfl rfl O5.out Tryz.underlying52 rfl (by kernel_rfl) ?_; intro _)
          | (refine store_o rfl 52 15 _ _ rfl w.heap.size [.int .i64 12, .int .i64 W, .int .i64 H, .bool false, .int .i64 dp, .int .i64 0, .int .i64 0, .int .i64 0, .int .i64 0, .int .i64 0, .int .i64 0, .int .i64 (p : Int), .int .i64 ((p : Int) + 12), .int .i64 0, .int .i64 0] rfl rfl (by kernel_rfl) (by kernel_rfl) (by kernel_rfl) O4.out (by first | rfl | simp) ?_; intro ws hst hO; have O4 := Hi hO; have O5 := Hi (hst.oth O5.out (by omega)); have BL := Hi (hst.below BL.out (by omega)); clear hst hO; refine gen_frame 4 (.pointer (some ⟨w.heap.size, 0, none⟩)) (by kernel_rfl) (by kernel_rfl) ?_; intro A hA hAd))
        refine bodyPost_ret (v := .agg (List.toArray [.int .i64 12, .int .i64 W, .int .i64 H, .bool false, .int .i64 dp, .int .i64 0, .int .i64 0, .int .i64 0, .int .i64 0, .int .i64 0, .int .i64 0, .int .i64 (p : Int), .int .i64 ((p : Int) + 12), .int .i64 0, .int .i64 0])) ?_ hAd ⟨by rw [E.out] <;> rfl, BL.out⟩
        exact results_c Tryz.results87 _ _ _ [.int .i64 12, .int .i64 W, .int .i64 H, .bool false, .int .i64 dp, .int .i64 0, .int .i64 0, .int .i64 0, .int .i64 0, .int .i64 0, .int .i64 0, .int .i64 (p : Int), .int .i64 ((p : Int) + 12), .int .i64 0, .int .i64 0] _ hA O4.out.range0 Tryz.underlying52 rfl (by kernel_rfl)
end Go.Proofs.YtlfbaggcfaenlaaGreat

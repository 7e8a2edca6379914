/- token.Number, walked. -/
import Derived.Test.YtcjjfnghgajefaaGreatK4
import Derived.Test.YtcjjfnghgajefaaGreatK0
namespace Go.Proofs.YtcjjfnghgajefaaGreat
open Go.RowKit
set_option linter.unusedVariables false
set_option linter.unusedSimpArgs false
theorem first_zero (x : Sr) (l : Led) (h : (x.first l).2.2.1 = 0) : (x.first l).2.2 = (0, 0) := by
  unfold Sr.first at h ⊢
  by_cases h1 : (x.over l).2.1 ≠ 0
  · rw [if_pos h1] at h; exact absurd h h1
  rw [if_neg h1] at h ⊢
  by_cases h2 : ((x.over l).1.1.next (x.over l).1.2 1).2.2 = false
  · rw [if_pos h2] at h; exact absurd h (ftc_ne _ _)
  rw [if_neg h2]
theorem first_bd (x : Sr) (l : Led) : 0 ≤ (x.first l).2.1.1 ∧ (x.first l).2.1.1 < 256 := by
  unfold Sr.first
  repeat' split
  · exact ⟨Int.le_refl 0, (show (0 : Int) < 256 by decide)⟩
  · exact ⟨Int.le_refl 0, (show (0 : Int) < 256 by decide)⟩
  · exact byN_bd _ _
set_option maxRecDepth 100000 in
set_option maxHeartbeats 4000000 in
theorem tnumber_any {d0 : Nat} {w : World} {X : Nat} {x y : Sr} {m : Led} (h : Rdr d0 w X x y m) : Calls Tryz.prog 101 #[.pointer (some ⟨X, 0, none⟩)] w (RdPost d0 w X x (y.number m).1 (.tuple #[.int .i64 (y.number m).2.1.1, .int .i64 (y.number m).2.1.2, .agg (pf (y.number m).2.2).toArray])) := by
  suffices H : Calls Tryz.prog 101 #[.pointer (some ⟨X, 0, none⟩)] w (RdPost w.heap.size w X x (y.number m).1 (.tuple #[.int .i64 (y.number m).2.1.1, .int .i64 (y.number m).2.1.2, .agg (pf (y.number m).2.2).toArray])) from H.mono fun e w' hh => ⟨hh.1, hh.2.1.to h, hh.2.2⟩
  have PX := Hi (h.self.alloc (.cells #[.int .i64 0, .int .i64 0, .int .i64 0] 36))
  have OF := Hi (obj1_new w #[.int .i64 0, .int .i64 0, .int .i64 0] 36)
  have CH := Hi ((Chg.refl (two X x) w).alloc (.cells #[.int .i64 0, .int .i64 0, .int .i64 0] 36))
  have HSY := Hi h.es
  obtain ⟨R, hR⟩ : ∃ R, y.number m = R := ⟨_, rfl⟩
  rw [hR]
  have HRE := Hi hR
  obtain ⟨d, hd⟩ : ∃ d, w.heap.size = d := ⟨_, rfl⟩
  have HDe := Hi hd
  rw [hd] at PX OF ⊢
  clear h hR
  go_enter Tryz.func101, Tryz.ntmps101
  go_upto_region 1 with (fail)
  clear hd
  generalize World.alloc _ _ = wr at PX OF CH ⊢
  have HFC := Hi (fun w0 (h0 : Rdr d w0 X x y m) => tfirst_any h0)
  have HZO := Hi (first_zero y m)
  have HBD := Hi (first_bd y m)
  replace HRE := Hi (show (if (y.first m).2.2.1 ≠ 0 then ((y.first m).1, (((0 : Int), (0 : Int)), (y.first m).2.2))
  else if (y.first m).2.1.1 < 48 ∨ 57 < (y.first m).2.1.1 then ((y.first m).1, ((0, 0), (2, (y.first m).2.1.2)))
  else if ((y.first m).1.1.digits (y.first m).1.2 ((y.first m).2.1.1 - 48)).2.2.1 ≠ 0 then (((y.first m).1.1.digits (y.first m).1.2 ((y.first m).2.1.1 - 48)).1, ((0, 0), ((y.first m).1.1.digits (y.first m).1.2 ((y.first m).2.1.1 - 48)).2.2))
  else (((y.first m).1.1.digits (y.first m).1.2 ((y.first m).2.1.1 - 48)).1, ((((y.first m).1.1.digits (y.first m).1.2 ((y.first m).2.1.1 - 48)).2.1, (y.first m).2.1.2), (0, 0)))) = R from HRE.out)
  obtain ⟨⟨⟨z, n⟩, ⟨⟨b, a⟩, F0⟩⟩, hQ⟩ : ∃ q, y.first m = q := ⟨_, rfl⟩
  rw [hQ] at HFC HZO HBD HRE
  replace HRE := Hi (show (if F0.1 ≠ 0 then ((z, n), (((0 : Int), (0 : Int)), F0)) else if b < 48 ∨ 57 < b then ((z, n), ((0, 0), (2, a)))
    else if (z.digits n (b - 48)).2.2.1 ≠ 0 then ((z.digits n (b - 48)).1, ((0, 0), (z.digits n (b - 48)).2.2)) else ((z.digits n (b - 48)).1, (((z.digits n (b - 48)).2.1, a), (0, 0)))) = R from HRE.out)
  replace HBD := Hi (show 0 ≤ b ∧ b < 256 from HBD.out)
  replace HZO := Hi (show F0.1 = 0 → F0 = (0, 0) from HZO.out)
  clear hQ
  go_upto_region 2 with (first
    | ((go_at_call 119; (with_reducible refine (HFC.out _ PX.out).mono ?_); rintro e wp ⟨rfl, hp1, hc1⟩); have OF := Hi (hc1.obj OF.out (not_two PX.out (by omega))); have PX := Hi hp1; have CH := Hi (CH.out.trans hc1); clear hp1 hc1)
    | (refine store_o rfl 36 3 _ _ rfl (d) (pf F0) rfl rfl (by kernel_rfl) (by kernel_rfl) (by kernel_rfl) OF.out (by first | rfl | simp) ?_; intro ws hst hO; have OF := Hi hO; have PX := Hi (PX.out.into hst (by omega)); have CH := Hi (Stored.chg hst CH.out (by have := HDe.out; omega)); clear hst hO))
  have c0 := (OF.out.cell 0).trans (show _ = some (.int .i64 F0.1) from rfl)
  obtain ⟨k0, hk0⟩ : ∃ k0, F0.1 = k0 := ⟨_, rfl⟩
  rw [hk0] at c0
  by_cases hk : k0 = 0
  rotate_left
  · have g1 : (k0 != 0) = true := by rw [bne_iff_ne]; exact hk
    have E := Hi (show R = ((z, n), ((0, 0), F0)) by have := HRE.out; rw [if_pos (by rw [hk0]; exact hk)] at this; exact this.symm)
    clear hk hk0
    go_upto_region 3 with (fail)
    refine wp_region_noPanic ?_
    refine wp_region_held_drew (S := fun w' => w'.rangeAt (d) 0 (pf F0)) (by kernel_rfl) (Obj1.range0 (cs := (pf F0)) OF.out) (fun hHeld => ?_)
    refine wpAnyH_take (i := 0) rfl (by kernel_rfl) (by kernel_rfl) (by kernel_rfl) (fun _ _ _ h => h) (yieldsIf_load_mid (by rfl) 36 _ rfl (d) 0 rfl (pf F0) _ (fun _ h => h) Tryz.underlying36 rfl (by kernel_rfl)) hHeld ?_
    simp only [Act.put, zq1, zq2, zq3, zq4, zq5, zq6]
    refine wpAnyH_take (i := 1) (v := .int .i64 0) rfl (by kernel_rfl) (by kernel_rfl) (by kernel_rfl) (fun _ _ _ h => h) (Or.inl ⟨by rfl, fun w hS => by go_simp⟩) hHeld ?_
    simp only [Act.put, zq1, zq2, zq3, zq4, zq5, zq6]
    refine wpAnyH_take (i := 2) (v := .int .i64 0) rfl (by kernel_rfl) (by kernel_rfl) (by kernel_rfl) (fun _ _ _ h => h) (Or.inl ⟨by rfl, fun w hS => by go_simp⟩) hHeld ?_
    simp only [Act.put, zq1, zq2, zq3, zq4, zq5, zq6]
    have PX := Hi (PX.out.drew1)
    have CH := Hi (CH.out.drew)
    have OF := Hi (OF.out.drew)
    generalize World.drew _ = wk at PX CH OF ⊢
    refine wpAnyH_ready (rs := [3]) (by kernel_rfl) (by simp) ?_
    refine AllReadyH.cons (o := _) rfl (fun K' hK => ?_) AllReadyH.nil
    rw [if_pos (by rfl)]
    refine wp_store_mid 36 _ _ rfl (d) 0 (List.toArray (pf F0)) rfl rfl (OF.out.there 0 3 (by first | exact Nat.le_refl _ | simp)) (by kernel_rfl) (all_oneCell_toArray (List.all_eq_true.1 (by rfl))) ?_
    simp only [Act.put, zq1, zq2, zq3, zq4, zq5, zq6]
    have hst : Stored wk (d) 0 (pf F0) (wk.setCells (d) 0 (pf F0)) := rfl
    have OF := Hi (hst.whole OF.out (by first | rfl | simp))
    have PX := Hi (PX.out.into hst (by omega))
    have CH := Hi (Stored.chg hst CH.out (by have := HDe.out; omega))
    generalize World.setCells _ _ _ _ = wk2 at PX CH OF ⊢
    clear hst
    refine hK _ _ (Obj1.range0 (cs := (pf F0)) OF.out) (fun hH1 => ?_)
    clear hK K'
    obtain ⟨wk, rfl⟩ : ∃ z, z = wk2 := ⟨_, rfl⟩
    refine wpAnyH_done (by kernel_rfl) ?_ _
    refine NoPanic.normal ?_
    go_wp2_with fail
    refine bodyPost_ret (v := .tuple #[.int .i64 0, .int .i64 0, .agg (pf F0).toArray]) ?_ rfl ⟨by rw [E.out], by rw [E.out]; exact PX.out, CH.out⟩
    exact rs_2c Tryz.results101 _ _ _ (pf F0) _ rfl OF.out.range0 Tryz.underlying36 rfl (by kernel_rfl)
  have g1 : (k0 != 0) = false := by rw [hk]; rfl
  replace HRE := Hi (show (if b < 48 ∨ 57 < b then ((z, n), (((0 : Int), (0 : Int)), ((2 : Int), a))) else if (z.digits n (b - 48)).2.2.1 ≠ 0 then ((z.digits n (b - 48)).1, ((0, 0), (z.digits n (b - 48)).2.2)) else ((z.digits n (b - 48)).1, (((z.digits n (b - 48)).2.1, a), (0, 0)))) = R by have := HRE.out; rw [if_neg (by rw [hk0, hk]; decide)] at this; exact this)
  clear hk hk0
  go_upto_region 4 with (fail)
  clear c0 g1
  have HWR := Hi (fun w0 => twrong_any a w0)
  by_cases h1 : b < 48
  · have g2 : decide (b < 48) = true := by rw [decide_eq_true_iff]; exact h1
    have E := Hi (show R = ((z, n), ((0, 0), (2, a))) by have := HRE.out; rw [if_pos (Or.inl h1)] at this; exact this.symm)
    clear h1
    go_wp2_with (first
      | ((with_reducible refine skip_g rfl ?_ ?_); rfl; intro _)
      | ((go_at_call 102; (with_reducible refine (HWR.out _).mono ?_); rintro e wb ⟨rfl, hb⟩); have PX := Hi (PX.out.upon hb); have OF := Hi (OF.out.below hb OF.out.lt); have CH := Hi (CH.out.trans (chg_of_below hb _)); clear hb)
      | (refine store_o rfl 36 3 _ _ rfl (d) (pf (2, a)) rfl rfl (by kernel_rfl) (by kernel_rfl) (by kernel_rfl) OF.out (by first | rfl | simp) ?_; intro ws hst hO; have OF := Hi hO; have PX := Hi (PX.out.into hst (by omega)); have CH := Hi (Stored.chg hst CH.out (by have := HDe.out; omega)); clear hst hO))
    refine bodyPost_ret (v := .tuple #[.int .i64 0, .int .i64 0, .agg (pf (2, a)).toArray]) ?_ rfl ⟨by rw [E.out], by rw [E.out]; exact PX.out, CH.out⟩
    exact rs_2c Tryz.results101 _ _ _ (pf (2, a)) _ rfl OF.out.range0 Tryz.underlying36 rfl (by kernel_rfl)
  have g2 : decide (b < 48) = false := by rw [decide_eq_false_iff_not]; exact h1
  by_cases h2 : 57 < b
  · have g3 : decide (b > 57) = true := by rw [decide_eq_true_iff]; exact h2
    have E := Hi (show R = ((z, n), ((0, 0), (2, a))) by have := HRE.out; rw [if_pos (Or.inr h2)] at this; exact this.symm)
    clear h1 h2
    go_wp2_with (first
      | ((go_at_call 102; (with_reducible refine (HWR.out _).mono ?_); rintro e wb ⟨rfl, hb⟩); have PX := Hi (PX.out.upon hb); have OF := Hi (OF.out.below hb OF.out.lt); have CH := Hi (CH.out.trans (chg_of_below hb _)); clear hb)
      | (refine store_o rfl 36 3 _ _ rfl (d) (pf (2, a)) rfl rfl (by kernel_rfl) (by kernel_rfl) (by kernel_rfl) OF.out (by first | rfl | simp) ?_; intro ws hst hO; have OF := Hi hO; have PX := Hi (PX.out.into hst (by omega)); have CH := Hi (Stored.chg hst CH.out (by have := HDe.out; omega)); clear hst hO))
    refine bodyPost_ret (v := .tuple #[.int .i64 0, .int .i64 0, .agg (pf (2, a)).toArray]) ?_ rfl ⟨by rw [E.out], by rw [E.out]; exact PX.out, CH.out⟩
    exact rs_2c Tryz.results101 _ _ _ (pf (2, a)) _ rfl OF.out.range0 Tryz.underlying36 rfl (by kernel_rfl)
  have g3 : decide (b > 57) = false := by rw [decide_eq_false_iff_not]; exact h2
  have w1 : IntKind.i64.wrap (b - 48) = b - 48 := i64_wrap_id _ (by omega) (by omega)
  have HDG := Hi (fun w0 (h0 : Rdr d w0 X x z n) => digits_any h0 (b - 48) (by omega) (by omega))
  have HZD := Hi (digitsM_zero z.fu z n (b - 48))
  replace HRE := Hi (show (if (z.digits n (b - 48)).2.2.1 ≠ 0 then ((z.digits n (b - 48)).1, (((0 : Int), (0 : Int)), (z.digits n (b - 48)).2.2)) else ((z.digits n (b - 48)).1, (((z.digits n (b - 48)).2.1, a), (0, 0)))) = R by have := HRE.out; rw [if_neg (by omega)] at this; exact this)
  obtain ⟨⟨⟨z2, n2⟩, ⟨v, F2⟩⟩, hQ⟩ : ∃ q, z.digits n (b - 48) = q := ⟨_, rfl⟩
  rw [hQ] at HDG HRE
  replace HZD := Hi (show F2.1 = 0 → F2 = (0, 0) from fun h0 => by have h1 := HZD.out; rw [show digitsM z.fu z n (b - 48) = ((z2, n2), (v, F2)) from hQ] at h1; exact h1 h0)
  replace HRE := Hi (show (if F2.1 ≠ 0 then ((z2, n2), (((0 : Int), (0 : Int)), F2)) else ((z2, n2), ((v, a), (0, 0)))) = R from HRE.out)
  clear hQ h1 h2
  go_upto_region 7 with (first
    | ((go_at_call 120; (with_reducible refine (HDG.out _ PX.out).mono ?_); rintro e wp ⟨rfl, hp1, hc1⟩); have OF := Hi (hc1.obj OF.out (not_two PX.out (by omega))); have PX := Hi hp1; have CH := Hi (CH.out.trans hc1); clear hp1 hc1)
    | (refine store_o rfl 36 3 _ _ rfl (d) (pf F2) rfl rfl (by kernel_rfl) (by kernel_rfl) (by kernel_rfl) OF.out (by first | rfl | simp) ?_; intro ws hst hO; have OF := Hi hO; have PX := Hi (PX.out.into hst (by omega)); have CH := Hi (Stored.chg hst CH.out (by have := HDe.out; omega)); clear hst hO))
  clear g2 g3 w1
  have c0 := (OF.out.cell 0).trans (show _ = some (.int .i64 F2.1) from rfl)
  obtain ⟨k2, hk2⟩ : ∃ k0, F2.1 = k0 := ⟨_, rfl⟩
  rw [hk2] at c0
  by_cases hk : k2 = 0
  rotate_left
  · have g1 : (k2 != 0) = true := by rw [bne_iff_ne]; exact hk
    have E := Hi (show R = ((z2, n2), ((0, 0), F2)) by have := HRE.out; rw [if_pos (by rw [hk2]; exact hk)] at this; exact this.symm)
    clear hk hk2
    go_upto_region 8 with (fail)
    refine wp_region_noPanic ?_
    refine wp_region_held_drew (S := fun w' => w'.rangeAt (d) 0 (pf F2)) (by kernel_rfl) (Obj1.range0 (cs := (pf F2)) OF.out) (fun hHeld => ?_)
    refine wpAnyH_take (i := 0) rfl (by kernel_rfl) (by kernel_rfl) (by kernel_rfl) (fun _ _ _ h => h) (yieldsIf_load_mid (by rfl) 36 _ rfl (d) 0 rfl (pf F2) _ (fun _ h => h) Tryz.underlying36 rfl (by kernel_rfl)) hHeld ?_
    simp only [Act.put, zq1, zq2, zq3, zq4, zq5, zq6]
    refine wpAnyH_take (i := 1) (v := .int .i64 0) rfl (by kernel_rfl) (by kernel_rfl) (by kernel_rfl) (fun _ _ _ h => h) (Or.inl ⟨by rfl, fun w hS => by go_simp⟩) hHeld ?_
    simp only [Act.put, zq1, zq2, zq3, zq4, zq5, zq6]
    refine wpAnyH_take (i := 2) (v := .int .i64 0) rfl (by kernel_rfl) (by kernel_rfl) (by kernel_rfl) (fun _ _ _ h => h) (Or.inl ⟨by rfl, fun w hS => by go_simp⟩) hHeld ?_
    simp only [Act.put, zq1, zq2, zq3, zq4, zq5, zq6]
    have PX := Hi (PX.out.drew1)
    have CH := Hi (CH.out.drew)
    have OF := Hi (OF.out.drew)
    generalize World.drew _ = wk at PX CH OF ⊢
    refine wpAnyH_ready (rs := [3]) (by kernel_rfl) (by simp) ?_
    refine AllReadyH.cons (o := _) rfl (fun K' hK => ?_) AllReadyH.nil
    rw [if_pos (by rfl)]
    refine wp_store_mid 36 _ _ rfl (d) 0 (List.toArray (pf F2)) rfl rfl (OF.out.there 0 3 (by first | exact Nat.le_refl _ | simp)) (by kernel_rfl) (all_oneCell_toArray (List.all_eq_true.1 (by rfl))) ?_
    simp only [Act.put, zq1, zq2, zq3, zq4, zq5, zq6]
    have hst : Stored wk (d) 0 (pf F2) (wk.setCells (d) 0 (pf F2)) := rfl
    have OF := Hi (hst.whole OF.out (by first | rfl | simp))
    have PX := Hi (PX.out.into hst (by omega))
    have CH := Hi (Stored.chg hst CH.out (by have := HDe.out; omega))
    generalize World.setCells _ _ _ _ = wk2 at PX CH OF ⊢
    clear hst
    refine hK _ _ (Obj1.range0 (cs := (pf F2)) OF.out) (fun hH1 => ?_)
    clear hK K'
    obtain ⟨wk, rfl⟩ : ∃ z, z = wk2 := ⟨_, rfl⟩
    refine wpAnyH_done (by kernel_rfl) ?_ _
    refine NoPanic.normal ?_
    go_wp2_with fail
    refine bodyPost_ret (v := .tuple #[.int .i64 0, .int .i64 0, .agg (pf F2).toArray]) ?_ rfl ⟨by rw [E.out], by rw [E.out]; exact PX.out, CH.out⟩
    exact rs_2c Tryz.results101 _ _ _ (pf F2) _ rfl OF.out.range0 Tryz.underlying36 rfl (by kernel_rfl)
  have g1 : (k2 != 0) = false := by rw [hk]; rfl
  replace HRE := Hi (show ((z2, n2), ((v, a), ((0 : Int), (0 : Int)))) = R by have := HRE.out; rw [if_neg (by rw [hk2, hk]; decide)] at this; exact this)
  clear hk hk2
  go_upto_region 9 with (fail)
  clear c0 g1
  have E := Hi (show R = ((z2, n2), ((v, a), (0, 0))) from HRE.out.symm)
  go_wp2_with (first
    | (refine store_o rfl 36 3 _ _ rfl (d) (pf (0, 0)) rfl rfl (by kernel_rfl) (by kernel_rfl) (by kernel_rfl) OF.out (by first | rfl | simp) ?_; intro ws hst hO; have OF := Hi hO; have PX := Hi (PX.out.into hst (by omega)); have CH := Hi (Stored.chg hst CH.out (by have := HDe.out; omega)); clear hst hO))
  refine bodyPost_ret (v := .tuple #[.int .i64 v, .int .i64 a, .agg (pf (0, 0)).toArray]) ?_ rfl ⟨by rw [E.out], by rw [E.out]; exact PX.out, CH.out⟩
  exact rs_2c Tryz.results101 _ _ _ (pf (0, 0)) _ rfl OF.out.range0 Tryz.underlying36 rfl (by kernel_rfl)
end Go.Proofs.YtcjjfnghgajefaaGreat

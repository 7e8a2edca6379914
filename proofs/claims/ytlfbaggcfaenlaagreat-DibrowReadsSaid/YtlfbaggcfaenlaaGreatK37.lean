/- dibrow.Table of a table that is skipped; walked. -/
import Derived.Test.YtlfbaggcfaenlaaGreatK24
import Derived.Test.YtlfbaggcfaenlaaGreatK0
namespace Go.Proofs.YtlfbaggcfaenlaaGreat
open Go.RowKit
set_option linter.unusedVariables false
set_option linter.unusedSimpArgs false
def Table16Post (w : World) (X : Nat) (x : Sr) (l : Led) (n f : Int) (e : Ending) (w' : World) : Prop :=
  (if (x.next l n).2.2 = true then e = .returned (.tuple #[.pointer none, .agg (List.toArray [.int .i64 0, .int .i64 0, .int .i64 0])]) else e = .returned (.tuple #[.pointer none, .agg (faultL (x.next l n).1.1 (x.next l n).1.2 f).toArray])) ∧ Pair w' X (x.next l n).1.1 (x.next l n).1.2 ∧ Chg (two X x) w w'
set_option maxRecDepth 100000 in
set_option maxHeartbeats 8000000 in
theorem table16_any (sz W H : Int) (top : Bool) (dp mt : Int) (co : Nat) (k0 k1 k2 k3 k4 k5 k6 k7 fr : Int) (X : Nat) (x : Sr) (l : Led) (f : Int) (w : World) (h : Pair w X x l) (hdp : 8 < dp) (hco2 : co ≤ 65536) :
    Calls Tryz.prog 19 #[.pointer (some ⟨X, 0, none⟩), .agg (List.toArray [.int .i64 sz, .int .i64 W, .int .i64 H, .bool top, .int .i64 dp, .int .i64 mt, .int .i64 co, .int .i64 k0, .int .i64 k1, .int .i64 k2, .int .i64 k3, .int .i64 k4, .int .i64 k5, .int .i64 k6, .int .i64 k7, .int .i64 fr]), .int .i64 f] w (Table16Post w X x l ((if sz = 12 then 3 else 4) * (co : Int)) f) := by
  obtain ⟨d, hd⟩ : ∃ d, w.heap.size = d := ⟨_, rfl⟩
  have HDe := Hi hd
  have hXd := h.src.lt
  have hLd := h.led.lt
  have hXL := h.src.ne
  rw [hd] at hXd hLd
  have HEN := Hi (fun w0 => hentry_any sz W H top dp mt co k0 k1 k2 k3 k4 k5 k6 k7 fr w0)
  have OH := Hi ((obj1_new w (List.toArray [.int .i64 sz, .int .i64 W, .int .i64 H, .bool top, .int .i64 dp, .int .i64 mt, .int .i64 co, .int .i64 k0, .int .i64 k1, .int .i64 k2, .int .i64 k3, .int .i64 k4, .int .i64 k5, .int .i64 k6, .int .i64 k7, .int .i64 fr]) 37).alloc (.cells #[.int .i64 0, .int .i64 0, .int .i64 0] 39))
  have OF := Hi (obj1_new (w.alloc (.cells (List.toArray [.int .i64 sz, .int .i64 W, .int .i64 H, .bool top, .int .i64 dp, .int .i64 mt, .int .i64 co, .int .i64 k0, .int .i64 k1, .int .i64 k2, .int .i64 k3, .int .i64 k4, .int .i64 k5, .int .i64 k6, .int .i64 k7, .int .i64 fr]) 37)) #[.int .i64 0, .int .i64 0, .int .i64 0] 39)
  rw [show (w.alloc (.cells (List.toArray [.int .i64 sz, .int .i64 W, .int .i64 H, .bool top, .int .i64 dp, .int .i64 mt, .int .i64 co, .int .i64 k0, .int .i64 k1, .int .i64 k2, .int .i64 k3, .int .i64 k4, .int .i64 k5, .int .i64 k6, .int .i64 k7, .int .i64 fr]) 37)).heap.size = d + 1 by rw [← hd]; simp] at OF
  rw [hd] at OH
  have hC := ((Chg.refl (two X x) w).alloc (.cells (List.toArray [.int .i64 sz, .int .i64 W, .int .i64 H, .bool top, .int .i64 dp, .int .i64 mt, .int .i64 co, .int .i64 k0, .int .i64 k1, .int .i64 k2, .int .i64 k3, .int .i64 k4, .int .i64 k5, .int .i64 k6, .int .i64 k7, .int .i64 fr]) 37)).alloc (.cells #[.int .i64 0, .int .i64 0, .int .i64 0] 39)
  have CH := Hi hC
  have HPR := Hi ((h.alloc (.cells (List.toArray [.int .i64 sz, .int .i64 W, .int .i64 H, .bool top, .int .i64 dp, .int .i64 mt, .int .i64 co, .int .i64 k0, .int .i64 k1, .int .i64 k2, .int .i64 k3, .int .i64 k4, .int .i64 k5, .int .i64 k6, .int .i64 k7, .int .i64 fr]) 37)).alloc (.cells #[.int .i64 0, .int .i64 0, .int .i64 0] 39))
  clear h hC
  have hnb : (x.next l ((if sz = 12 then 3 else 4) * (co : Int))).1.1.L = x.L := nextL_8 _ _ _
  by_cases hs : sz = 12
  · have HEN := Hi (fun w0 => (HEN.out w0).mono (R' := fun e w' => e = .returned (.int .i64 3) ∧ Below w0.heap.size w0 w') fun e w' hh => by rw [if_pos hs] at hh; exact hh)
    rw [if_pos hs] at hnb ⊢
    clear hs
    have HSK := Hi (fun w0 (h0 : Pair w0 X x l) => skip_any X x l (3 * (co : Int)) w0 h0)
    unfold Table16Post
    unfold BoolPost at HSK
    obtain ⟨⟨⟨y, m⟩, sx, B⟩, hr⟩ : ∃ r, x.next l (3 * (co : Int)) = r := ⟨_, rfl⟩
    rw [hr] at HSK hnb ⊢
    have hyL : y.L = x.L := hnb
    clear hr hnb
    simp only at HSK ⊢
    go_enter Tryz.func19, Tryz.ntmps19
    go_upto_region 1 with (fail)
    clear hd
    generalize World.alloc _ _ = wr at OH OF CH HPR ⊢
    have c4 := (OH.out.cell 4).trans (show _ = some (.int .i64 dp) from rfl)
    go_upto_region 2 with (fail)
    clear c4
    have ld := OH.out.lt
    have lds := OF.out.lt
    refine wp_region_noPanic ?_
    refine wp_region_held_drew (S := fun w' => Chg (two X x) wr w') (by kernel_rfl) (Chg.refl _ _).drew (fun hHeld => ?_)
    refine wpAnyH_take (i := 0) (v := .pointer (some ⟨X, 0, none⟩)) rfl (by kernel_rfl) (by kernel_rfl) (by kernel_rfl) (fun _ _ _ h => h) (Or.inl ⟨by rfl, fun w hS => by (go_simp) <;> first | rfl | assumption | (intro hh; exfalso; omega) | (exact (i64_wraps _ (by omega) (by omega)).trans (by omega)) | omega⟩) hHeld ?_
    simp only [Act.put, zq1, zq2, zq3, zq4, zq5, zq6]
    refine wpAnyH_take (i := 1) (v := .agg (List.toArray ([.int .i64 sz, .int .i64 W, .int .i64 H, .bool top, .int .i64 dp, .int .i64 mt, .int .i64 co, .int .i64 k0, .int .i64 k1, .int .i64 k2, .int .i64 k3, .int .i64 k4, .int .i64 k5, .int .i64 k6, .int .i64 k7, .int .i64 fr]))) rfl (by kernel_rfl) (by kernel_rfl) (by kernel_rfl) (fun _ _ _ h => h) (yieldsIf_load_mid (by rfl) 37 _ rfl (d) (0) rfl ([.int .i64 sz, .int .i64 W, .int .i64 H, .bool top, .int .i64 dp, .int .i64 mt, .int .i64 co, .int .i64 k0, .int .i64 k1, .int .i64 k2, .int .i64 k3, .int .i64 k4, .int .i64 k5, .int .i64 k6, .int .i64 k7, .int .i64 fr]) _ (fun w hS => range_chgU OH.out.range0 hS (by omega) (show ¬ (d = X ∨ d = x.L) by omega)) Tryz.underlying37 rfl (by kernel_rfl)) hHeld ?_
    simp only [Act.put, zq1, zq2, zq3, zq4, zq5, zq6]
    refine wpAnyH_take (i := 3) (v := .pointer (some ⟨d, 6, none⟩)) rfl (by kernel_rfl) (by kernel_rfl) (by kernel_rfl) (fun _ _ _ h => h) (Or.inl ⟨by rfl, fun w hS => by (go_simp) <;> first | rfl | assumption | (intro hh; exfalso; omega) | (exact (i64_wraps _ (by omega) (by omega)).trans (by omega)) | omega⟩) hHeld ?_
    simp only [Act.put, zq1, zq2, zq3, zq4, zq5, zq6]
    refine wpAnyH_take (i := 4) (v := .int .i64 (co : Int)) rfl (by kernel_rfl) (by kernel_rfl) (by kernel_rfl) (fun _ _ _ h => h) (Or.inl ⟨by rfl, fun w hS => by (have hc : w.cell? ⟨d, 6, none⟩ = some (.int .i64 (co : Int)) := (hS.cell (b := d) (o := 6) (by omega) (show ¬ (d = X ∨ d = x.L) by omega)).trans ((OH.out.cell 6).trans rfl); go_simp)⟩) hHeld ?_
    simp only [Act.put, zq1, zq2, zq3, zq4, zq5, zq6]
    have hS := (Chg.refl (two X x) wr).drew
    have hF := (Chg.refl (fun _ => False) wr).drew
    generalize World.drew _ = wk at hS hF ⊢
    refine wpAnyH_ready (rs := [2]) (by kernel_rfl) (by simp) ?_
    refine AllReadyH.cons (o := _) rfl (fun K' hK => ?_) AllReadyH.nil
    go_simp
    with_reducible refine (HEN.out _).mono ?_
    rintro e5 w5 ⟨rfl, hb5⟩
    have hS := hS.trans (chg_of_below hb5 _)
    have hF := hF.trans (chg_of_below hb5 _)
    go_wp2_with fail
    refine hK _ _ hS (fun hH1 => ?_)
    clear hK K'
    try simp only [Act.put, zq1, zq2, zq3, zq4, zq5, zq6]
    refine wpAnyH_take (i := 5) (v := .int .i64 (3 * (co : Int))) rfl (by kernel_rfl) (by kernel_rfl) (by kernel_rfl) (fun _ _ _ h => h) (Or.inl ⟨by rfl, fun w hS => by (go_simp; rw [IntKind.wrap_i64]; omega)⟩) hH1 ?_
    simp only [Act.put, zq1, zq2, zq3, zq4, zq5, zq6]
    refine wpAnyH_ready (rs := [6]) (by kernel_rfl) (by simp) ?_
    refine AllReadyH.cons (o := _) rfl (fun K' hK => ?_) AllReadyH.nil
    go_simp
    with_reducible refine (HSK.out _ ⟨HPR.out.src.chg hF (fun h => h), HPR.out.led.chg hF (fun h => h)⟩).mono ?_
    rintro e6 w6 ⟨rfl, hP6, hC6⟩
    have hS2 := hS.trans hC6
    go_wp2_with fail
    refine hK _ _ hS2 (fun hH2 => ?_)
    clear hK K'
    try simp only [Act.put, zq1, zq2, zq3, zq4, zq5, zq6]
    refine wpAnyH_take (i := 7) (v := .bool (!B)) rfl (by kernel_rfl) (by kernel_rfl) (by kernel_rfl) (fun _ _ _ h => h) (Or.inl ⟨by rfl, fun w hS => by go_simp⟩) hH2 ?_
    simp only [Act.put, zq1, zq2, zq3, zq4, zq5, zq6]
    refine wpAnyH_done (by kernel_rfl) ?_ _
    refine NoPanic.normal ?_
    have HP1 := Hi hP6
    have OF := Hi (hS2.obj OF.out (show ¬ (d + 1 = X ∨ d + 1 = x.L) by omega))
    have CH := Hi (CH.out.trans hS2)
    clear hS hF hS2 hC6 hP6
    cases B with
    | true =>
      go_wp2_with (first
        | (refine store_o rfl 39 3 _ _ rfl (d + 1) [.int .i64 0, .int .i64 0, .int .i64 0] rfl rfl (by kernel_rfl) (by kernel_rfl) (by kernel_rfl) OF.out (by first | rfl | simp) ?_; intro ws hst hO; have OF := Hi hO; have HP1 := Hi (HP1.out.into hst (by omega) (by rw [hyL]; omega)); have CH := Hi (Stored.chgS hst CH.out (Or.inr (by have := HDe.out; omega))); clear hst hO))
      refine bodyPost_ret (v := .tuple #[.pointer none, .agg (List.toArray [.int .i64 0, .int .i64 0, .int .i64 0])]) ?_ rfl ?_
      · exact results_1c Tryz.results19 _ _ _ [.int .i64 0, .int .i64 0, .int .i64 0] _ rfl OF.out.range0 Tryz.underlying39 rfl (by kernel_rfl)
      · exact ⟨rfl, HP1.out, CH.out⟩
    | false =>
      have HFT := Hi (fun w0 (h0 : Pair w0 X (y) (m)) => fault8_any X (y) (m) f w0 h0)
      go_wp2_with (first
        | ((go_at_call 67; (with_reducible refine (HFT.out _ HP1.out).mono ?_); rintro e w9 ⟨rfl, hb⟩); have OF := Hi (OF.out.below hb OF.out.lt); have CH := Hi (CH.out.trans (chg_of_below hb _)); have HP1 := Hi (HP1.out.upon hb HP1.out.src.lt HP1.out.led.lt); clear hb)
        | (refine store_o rfl 39 3 _ _ rfl (d + 1) (faultL (y) (m) f) (faultL_len _ _ _) (faultL_one _ _ _) (by kernel_rfl) (by kernel_rfl) (by kernel_rfl) OF.out (by first | rfl | simp) ?_; intro ws hst hO; have OF := Hi hO; have HP1 := Hi (HP1.out.into hst (by omega) (by rw [hyL]; omega)); have CH := Hi (Stored.chgS hst CH.out (Or.inr (by have := HDe.out; omega))); clear hst hO))
      refine bodyPost_ret (v := .tuple #[.pointer none, .agg (faultL (y) (m) f).toArray]) ?_ rfl ?_
      · exact results_1c Tryz.results19 _ _ _ (faultL (y) (m) f) _ rfl OF.out.range0 Tryz.underlying39 rfl (by rw [faultL_len]; kernel_rfl)
      · exact ⟨rfl, HP1.out, CH.out⟩
  · have HEN := Hi (fun w0 => (HEN.out w0).mono (R' := fun e w' => e = .returned (.int .i64 4) ∧ Below w0.heap.size w0 w') fun e w' hh => by rw [if_neg hs] at hh; exact hh)
    rw [if_neg hs] at hnb ⊢
    clear hs
    have HSK := Hi (fun w0 (h0 : Pair w0 X x l) => skip_any X x l (4 * (co : Int)) w0 h0)
    unfold Table16Post
    unfold BoolPost at HSK
    obtain ⟨⟨⟨y, m⟩, sx, B⟩, hr⟩ : ∃ r, x.next l (4 * (co : Int)) = r := ⟨_, rfl⟩
    rw [hr] at HSK hnb ⊢
    have hyL : y.L = x.L := hnb
    clear hr hnb
    simp only at HSK ⊢
    go_enter Tryz.func19, Tryz.ntmps19
    go_upto_region 1 with (fail)
    clear hd
    generalize World.alloc _ _ = wr at OH OF CH HPR ⊢
    have c4 := (OH.out.cell 4).trans (show _ = some (.int .i64 dp) from rfl)
    go_upto_region 2 with (fail)
    clear c4
    have ld := OH.out.lt
    have lds := OF.out.lt
    refine wp_region_noPanic ?_
    refine wp_region_held_drew (S := fun w' => Chg (two X x) wr w') (by kernel_rfl) (Chg.refl _ _).drew (fun hHeld => ?_)
    refine wpAnyH_take (i := 0) (v := .pointer (some ⟨X, 0, none⟩)) rfl (by kernel_rfl) (by kernel_rfl) (by kernel_rfl) (fun _ _ _ h => h) (Or.inl ⟨by rfl, fun w hS => by (go_simp) <;> first | rfl | assumption | (intro hh; exfalso; omega) | (exact (i64_wraps _ (by omega) (by omega)).trans (by omega)) | omega⟩) hHeld ?_
    simp only [Act.put, zq1, zq2, zq3, zq4, zq5, zq6]
    refine wpAnyH_take (i := 1) (v := .agg (List.toArray ([.int .i64 sz, .int .i64 W, .int .i64 H, .bool top, .int .i64 dp, .int .i64 mt, .int .i64 co, .int .i64 k0, .int .i64 k1, .int .i64 k2, .int .i64 k3, .int .i64 k4, .int .i64 k5, .int .i64 k6, .int .i64 k7, .int .i64 fr]))) rfl (by kernel_rfl) (by kernel_rfl) (by kernel_rfl) (fun _ _ _ h => h) (yieldsIf_load_mid (by rfl) 37 _ rfl (d) (0) rfl ([.int .i64 sz, .int .i64 W, .int .i64 H, .bool top, .int .i64 dp, .int .i64 mt, .int .i64 co, .int .i64 k0, .int .i64 k1, .int .i64 k2, .int .i64 k3, .int .i64 k4, .int .i64 k5, .int .i64 k6, .int .i64 k7, .int .i64 fr]) _ (fun w hS => range_chgU OH.out.range0 hS (by omega) (show ¬ (d = X ∨ d = x.L) by omega)) Tryz.underlying37 rfl (by kernel_rfl)) hHeld ?_
    simp only [Act.put, zq1, zq2, zq3, zq4, zq5, zq6]
    refine wpAnyH_take (i := 3) (v := .pointer (some ⟨d, 6, none⟩)) rfl (by kernel_rfl) (by kernel_rfl) (by kernel_rfl) (fun _ _ _ h => h) (Or.inl ⟨by rfl, fun w hS => by (go_simp) <;> first | rfl | assumption | (intro hh; exfalso; omega) | (exact (i64_wraps _ (by omega) (by omega)).trans (by omega)) | omega⟩) hHeld ?_
    simp only [Act.put, zq1, zq2, zq3, zq4, zq5, zq6]
    refine wpAnyH_take (i := 4) (v := .int .i64 (co : Int)) rfl (by kernel_rfl) (by kernel_rfl) (by kernel_rfl) (fun _ _ _ h => h) (Or.inl ⟨by rfl, fun w hS => by (have hc : w.cell? ⟨d, 6, none⟩ = some (.int .i64 (co : Int)) := (hS.cell (b := d) (o := 6) (by omega) (show ¬ (d = X ∨ d = x.L) by omega)).trans ((OH.out.cell 6).trans rfl); go_simp)⟩) hHeld ?_
    simp only [Act.put, zq1, zq2, zq3, zq4, zq5, zq6]
    have hS := (Chg.refl (two X x) wr).drew
    have hF := (Chg.refl (fun _ => False) wr).drew
    generalize World.drew _ = wk at hS hF ⊢
    refine wpAnyH_ready (rs := [2]) (by kernel_rfl) (by simp) ?_
    refine AllReadyH.cons (o := _) rfl (fun K' hK => ?_) AllReadyH.nil
    go_simp
    with_reducible refine (HEN.out _).mono ?_
    rintro e5 w5 ⟨rfl, hb5⟩
    have hS := hS.trans (chg_of_below hb5 _)
    have hF := hF.trans (chg_of_below hb5 _)
    go_wp2_with fail
    refine hK _ _ hS (fun hH1 => ?_)
    clear hK K'
    try simp only [Act.put, zq1, zq2, zq3, zq4, zq5, zq6]
    refine wpAnyH_take (i := 5) (v := .int .i64 (4 * (co : Int))) rfl (by kernel_rfl) (by kernel_rfl) (by kernel_rfl) (fun _ _ _ h => h) (Or.inl ⟨by rfl, fun w hS => by (go_simp; rw [IntKind.wrap_i64]; omega)⟩) hH1 ?_
    simp only [Act.put, zq1, zq2, zq3, zq4, zq5, zq6]
    refine wpAnyH_ready (rs := [6]) (by kernel_rfl) (by simp) ?_
    refine AllReadyH.cons (o := _) rfl (fun K' hK => ?_) AllReadyH.nil
    go_simp
    with_reducible refine (HSK.out _ ⟨HPR.out.src.chg hF (fun h => h), HPR.out.led.chg hF (fun h => h)⟩).mono ?_
    rintro e6 w6 ⟨rfl, hP6, hC6⟩
    have hS2 := hS.trans hC6
    go_wp2_with fail
    refine hK _ _ hS2 (fun hH2 => ?_)
    clear hK K'
    try simp only [Act.put, zq1, zq2, zq3, zq4, zq5, zq6]
    refine wpAnyH_take (i := 7) (v := .bool (!B)) rfl (by kernel_rfl) (by kernel_rfl) (by kernel_rfl) (fun _ _ _ h => h) (Or.inl ⟨by rfl, fun w hS => by go_simp⟩) hH2 ?_
    simp only [Act.put, zq1, zq2, zq3, zq4, zq5, zq6]
    refine wpAnyH_done (by kernel_rfl) ?_ _
    refine NoPanic.normal ?_
    have HP1 := Hi hP6
    have OF := Hi (hS2.obj OF.out (show ¬ (d + 1 = X ∨ d + 1 = x.L) by omega))
    have CH := Hi (CH.out.trans hS2)
    clear hS hF hS2 hC6 hP6
    cases B with
    | true =>
      go_wp2_with (first
        | (refine store_o rfl 39 3 _ _ rfl (d + 1) [.int .i64 0, .int .i64 0, .int .i64 0] rfl rfl (by kernel_rfl) (by kernel_rfl) (by kernel_rfl) OF.out (by first | rfl | simp) ?_; intro ws hst hO; have OF := Hi hO; have HP1 := Hi (HP1.out.into hst (by omega) (by rw [hyL]; omega)); have CH := Hi (Stored.chgS hst CH.out (Or.inr (by have := HDe.out; omega))); clear hst hO))
      refine bodyPost_ret (v := .tuple #[.pointer none, .agg (List.toArray [.int .i64 0, .int .i64 0, .int .i64 0])]) ?_ rfl ?_
      · exact results_1c Tryz.results19 _ _ _ [.int .i64 0, .int .i64 0, .int .i64 0] _ rfl OF.out.range0 Tryz.underlying39 rfl (by kernel_rfl)
      · exact ⟨rfl, HP1.out, CH.out⟩
    | false =>
      have HFT := Hi (fun w0 (h0 : Pair w0 X (y) (m)) => fault8_any X (y) (m) f w0 h0)
      go_wp2_with (first
        | ((go_at_call 67; (with_reducible refine (HFT.out _ HP1.out).mono ?_); rintro e w9 ⟨rfl, hb⟩); have OF := Hi (OF.out.below hb OF.out.lt); have CH := Hi (CH.out.trans (chg_of_below hb _)); have HP1 := Hi (HP1.out.upon hb HP1.out.src.lt HP1.out.led.lt); clear hb)
        | (refine store_o rfl 39 3 _ _ rfl (d + 1) (faultL (y) (m) f) (faultL_len _ _ _) (faultL_one _ _ _) (by kernel_rfl) (by kernel_rfl) (by kernel_rfl) OF.out (by first | rfl | simp) ?_; intro ws hst hO; have OF := Hi hO; have HP1 := Hi (HP1.out.into hst (by omega) (by rw [hyL]; omega)); have CH := Hi (Stored.chgS hst CH.out (Or.inr (by have := HDe.out; omega))); clear hst hO))
      refine bodyPost_ret (v := .tuple #[.pointer none, .agg (faultL (y) (m) f).toArray]) ?_ rfl ?_
      · exact results_1c Tryz.results19 _ _ _ (faultL (y) (m) f) _ rfl OF.out.range0 Tryz.underlying39 rfl (by rw [faultL_len]; kernel_rfl)
      · exact ⟨rfl, HP1.out, CH.out⟩
end Go.Proofs.YtlfbaggcfaenlaaGreat

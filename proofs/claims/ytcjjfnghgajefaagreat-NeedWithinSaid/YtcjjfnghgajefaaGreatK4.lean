/- token.first, Number, One, walked. -/
import Derived.Test.YtcjjfnghgajefaaGreatK3
import Derived.Test.YtcjjfnghgajefaaGreatK0
namespace Go.Proofs.YtcjjfnghgajefaaGreat
open Go.RowKit
set_option linter.unusedVariables false
set_option linter.unusedSimpArgs false
theorem overM_zero : ∀ (f : Nat) (x : Sr) (l : Led) (rm : Bool), (overM f x l rm).2.1 = 0 → (overM f x l rm).2 = (0, 0)
  | 0, x, l, rm, h => rfl
  | f + 1, x, l, rm, h => by
    rw [overM] at h ⊢
    by_cases h1 : (x.next l 1).2.2 = false
    · rw [if_pos h1] at h ⊢
      by_cases h2 : (x.next l 1).1.2.br = true
      · rw [if_pos h2] at h
        exact absurd h (ftc_ne _ _)
      · rw [if_neg h2]
    rw [if_neg h1] at h ⊢
    by_cases h2 : rm = true
    · rw [if_pos h2] at h ⊢
      exact overM_zero _ _ _ _ h
    rw [if_neg h2] at h ⊢
    by_cases h3 : byN x.s x.p = 35
    · rw [if_pos h3] at h ⊢
      exact overM_zero _ _ _ _ h
    rw [if_neg h3] at h ⊢
    by_cases h4 : tblankB (byN x.s x.p) = true
    · rw [if_pos h4] at h ⊢
      exact overM_zero _ _ _ _ h
    rw [if_neg h4]
theorem digitsM_zero : ∀ (f : Nat) (x : Sr) (l : Led) (v : Int), (digitsM f x l v).2.2.1 = 0 → (digitsM f x l v).2.2 = (0, 0)
  | 0, x, l, v, h => rfl
  | f + 1, x, l, v, h => by
    rw [digitsM] at h ⊢
    by_cases h0 : x.e ≤ x.p
    · rw [if_pos h0]
    rw [if_neg h0] at h ⊢
    by_cases h1 : (x.next l 1).2.2 = false
    · rw [if_pos h1] at h
      exact absurd h (ftc_ne _ _)
    rw [if_neg h1] at h ⊢
    by_cases h2 : byN x.s x.p < 48 ∨ 57 < byN x.s x.p
    · rw [if_pos h2]
    rw [if_neg h2] at h ⊢
    exact digitsM_zero _ _ _ _ h
set_option maxRecDepth 100000 in
set_option maxHeartbeats 4000000 in
theorem one_any {d0 : Nat} {w : World} {X : Nat} {x y : Sr} {m : Led} (h : Rdr d0 w X x y m) : Calls Tryz.prog 65 #[.pointer (some ⟨X, 0, none⟩)] w (RdPost d0 w X x (y.one m).1 (.agg (pf (y.one m).2).toArray)) := by
  suffices H : Calls Tryz.prog 65 #[.pointer (some ⟨X, 0, none⟩)] w (RdPost w.heap.size w X x (y.one m).1 (.agg (pf (y.one m).2).toArray)) from H.mono fun e w' hh => ⟨hh.1, hh.2.1.to h, hh.2.2⟩
  have PX := Hi (h.self.alloc (.cells #[.int .i64 0, .int .i64 0, .int .i64 0] 36))
  have OF := Hi (obj1_new w #[.int .i64 0, .int .i64 0, .int .i64 0] 36)
  have CH := Hi ((Chg.refl (two X x) w).alloc (.cells #[.int .i64 0, .int .i64 0, .int .i64 0] 36))
  have HSY := Hi h.es
  obtain ⟨R, hR⟩ : ∃ R, y.one m = R := ⟨_, rfl⟩
  rw [hR]
  have HRE := Hi hR
  obtain ⟨d, hd⟩ : ∃ d, w.heap.size = d := ⟨_, rfl⟩
  have HDe := Hi hd
  rw [hd] at PX OF ⊢
  clear h hR
  go_enter Tryz.func65, Tryz.ntmps65
  go_upto_region 1 with (fail)
  clear hd
  generalize World.alloc _ _ = wr at PX OF CH ⊢
  cases hok : (y.next m 1).2.2 with
  | false =>
      have HU := Hi (fun w0 (h0 : Rdr d w0 X x y m) => rd_no h0 hok)
      have e1 := (n1_no hok).1
      obtain ⟨n1, hn1⟩ : ∃ n1, (y.next m 1).1.2 = n1 := ⟨_, rfl⟩
      have e2 : (y.next m 1).1 = (y, n1) := Prod.ext e1 hn1
      rw [hn1] at HU
      obtain ⟨F, hF⟩ : ∃ F, y.ftc n1 = F := ⟨_, rfl⟩
      have HFL := Hi (fun w0 (h0 : Rdr d w0 X x y n1) => (rd_fault h0).mono (R' := fun e w' => e = .returned (.agg (pf F).toArray) ∧ Below w0.heap.size w0 w') fun e w' hh => by rw [hF] at hh; exact hh)
      have E := Hi (show R = ((y, n1), F) by have := HRE.out; rw [Sr.one, if_pos hok, e2, hF] at this; exact this.symm)
      clear hok e1 e2 hn1 hF
      go_wp2_with (first
        | ((go_at_call 48; (with_reducible refine (rd_at PX.out).mono ?_); rintro e ws1 ⟨rfl, rfl⟩))
        | ((go_at_call 99; (with_reducible refine (HU.out _ PX.out).mono ?_); rintro e wp ⟨rfl, hp1, hc1⟩); have OF := Hi (hc1.obj OF.out (not_two PX.out (by omega))); have PX := Hi hp1; have CH := Hi (CH.out.trans hc1); clear hp1 hc1)
        | ((go_at_call 50; (with_reducible refine (HFL.out _ PX.out).mono ?_); rintro e wb ⟨rfl, hb⟩); have PX := Hi (PX.out.upon hb); have OF := Hi (OF.out.below hb OF.out.lt); have CH := Hi (CH.out.trans (chg_of_below hb _)); clear hb)
        | (refine store_o rfl 36 3 _ _ rfl (d) (pf F) rfl rfl (by kernel_rfl) (by kernel_rfl) (by kernel_rfl) OF.out (by first | rfl | simp) ?_; intro ws hst hO; have OF := Hi hO; have PX := Hi (PX.out.into hst (by omega)); have CH := Hi (Stored.chg hst CH.out (by have := HDe.out; omega)); clear hst hO))
      refine bodyPost_ret (v := .agg (pf F).toArray) ?_ rfl ⟨by rw [E.out], by rw [E.out]; exact PX.out, CH.out⟩
      exact results_c Tryz.results65 _ _ _ (pf F) _ rfl OF.out.range0 Tryz.underlying36 rfl (by kernel_rfl)
  | true =>
      have HU := Hi (fun w0 (h0 : Rdr d w0 X x y m) => rd_yes h0 hok)
      obtain ⟨b, hb⟩ : ∃ b, byN y.s y.p = b := ⟨_, rfl⟩
      obtain ⟨n1, hn1⟩ : ∃ n1, (y.next m 1).1.2 = n1 := ⟨_, rfl⟩
      rw [hn1, hb] at HU
      have e2 : (y.next m 1).1 = ({ y with p := y.p + 1 }, n1) := Prod.ext (n1_ok PX.out.pr.src.ok hok).2.1 hn1
      obtain ⟨z1, hz1⟩ : ∃ q, ({ y with p := y.p + 1 } : Sr) = q := ⟨_, rfl⟩
      rw [hz1] at HU e2
      have HOV := Hi (show (if tblankB b = false then ((z1, n1), ((2 : Int), (y.p : Int))) else ((z1, n1), ((0 : Int), (0 : Int)))) = R by have := HRE.out; rw [Sr.one, if_neg (by rw [hok]; decide), e2, hb] at this; exact this)
      have HBL := Hi (fun w0 => tblank_any b w0)
      have HWR := Hi (fun w0 => twrong_any (y.p : Int) w0)
      obtain ⟨g, hg⟩ : ∃ g, tblankB b = g := ⟨_, rfl⟩
      rw [hg] at HOV HBL
      clear hok hb hn1 e2 hz1 hg
      cases g with
      | false =>
        have E := Hi (show R = ((z1, n1), (2, (y.p : Int))) by have := HOV.out; rw [if_pos rfl] at this; exact this.symm)
        go_wp2_with (first
          | ((go_at_call 48; (with_reducible refine (rd_at PX.out).mono ?_); rintro e ws1 ⟨rfl, rfl⟩))
          | ((go_at_call 99; (with_reducible refine (HU.out _ PX.out).mono ?_); rintro e wp ⟨rfl, hp1, hc1⟩); have OF := Hi (hc1.obj OF.out (not_two PX.out (by omega))); have PX := Hi hp1; have CH := Hi (CH.out.trans hc1); clear hp1 hc1)
          | ((go_at_call 79; (with_reducible refine (HBL.out _).mono ?_); rintro e ws1 ⟨rfl, rfl⟩))
          | ((go_at_call 102; (with_reducible refine (HWR.out _).mono ?_); rintro e wb ⟨rfl, hb⟩); have PX := Hi (PX.out.upon hb); have OF := Hi (OF.out.below hb OF.out.lt); have CH := Hi (CH.out.trans (chg_of_below hb _)); clear hb)
          | (refine store_o rfl 36 3 _ _ rfl (d) (pf (2, (y.p : Int))) rfl rfl (by kernel_rfl) (by kernel_rfl) (by kernel_rfl) OF.out (by first | rfl | simp) ?_; intro ws hst hO; have OF := Hi hO; have PX := Hi (PX.out.into hst (by omega)); have CH := Hi (Stored.chg hst CH.out (by have := HDe.out; omega)); clear hst hO))
        refine bodyPost_ret (v := .agg (pf (2, (y.p : Int))).toArray) ?_ rfl ⟨by rw [E.out], by rw [E.out]; exact PX.out, CH.out⟩
        exact results_c Tryz.results65 _ _ _ (pf (2, (y.p : Int))) _ rfl OF.out.range0 Tryz.underlying36 rfl (by kernel_rfl)
      | true =>
        have E := Hi (show R = ((z1, n1), (0, 0)) by have := HOV.out; rw [if_neg (by decide)] at this; exact this.symm)
        go_wp2_with (first
          | ((go_at_call 48; (with_reducible refine (rd_at PX.out).mono ?_); rintro e ws1 ⟨rfl, rfl⟩))
          | ((go_at_call 99; (with_reducible refine (HU.out _ PX.out).mono ?_); rintro e wp ⟨rfl, hp1, hc1⟩); have OF := Hi (hc1.obj OF.out (not_two PX.out (by omega))); have PX := Hi hp1; have CH := Hi (CH.out.trans hc1); clear hp1 hc1)
          | ((go_at_call 79; (with_reducible refine (HBL.out _).mono ?_); rintro e ws1 ⟨rfl, rfl⟩))
          | (refine store_o rfl 36 3 _ _ rfl (d) (pf (0, 0)) rfl rfl (by kernel_rfl) (by kernel_rfl) (by kernel_rfl) OF.out (by first | rfl | simp) ?_; intro ws hst hO; have OF := Hi hO; have PX := Hi (PX.out.into hst (by omega)); have CH := Hi (Stored.chg hst CH.out (by have := HDe.out; omega)); clear hst hO))
        refine bodyPost_ret (v := .agg (pf (0, 0)).toArray) ?_ rfl ⟨by rw [E.out], by rw [E.out]; exact PX.out, CH.out⟩
        exact results_c Tryz.results65 _ _ _ (pf (0, 0)) _ rfl OF.out.range0 Tryz.underlying36 rfl (by kernel_rfl)
set_option maxRecDepth 100000 in
set_option maxHeartbeats 4000000 in
theorem tfirst_any {d0 : Nat} {w : World} {X : Nat} {x y : Sr} {m : Led} (h : Rdr d0 w X x y m) : Calls Tryz.prog 119 #[.pointer (some ⟨X, 0, none⟩)] w (RdPost d0 w X x (y.first m).1 (.tuple #[.int .i64 (y.first m).2.1.1, .int .i64 (y.first m).2.1.2, .agg (pf (y.first m).2.2).toArray])) := by
  suffices H : Calls Tryz.prog 119 #[.pointer (some ⟨X, 0, none⟩)] w (RdPost w.heap.size w X x (y.first m).1 (.tuple #[.int .i64 (y.first m).2.1.1, .int .i64 (y.first m).2.1.2, .agg (pf (y.first m).2.2).toArray])) from H.mono fun e w' hh => ⟨hh.1, hh.2.1.to h, hh.2.2⟩
  have PX := Hi (h.self.alloc (.cells #[.int .i64 0, .int .i64 0, .int .i64 0] 36))
  have OF := Hi (obj1_new w #[.int .i64 0, .int .i64 0, .int .i64 0] 36)
  have CH := Hi ((Chg.refl (two X x) w).alloc (.cells #[.int .i64 0, .int .i64 0, .int .i64 0] 36))
  have HSY := Hi h.es
  obtain ⟨R, hR⟩ : ∃ R, y.first m = R := ⟨_, rfl⟩
  rw [hR]
  have HRE := Hi hR
  obtain ⟨d, hd⟩ : ∃ d, w.heap.size = d := ⟨_, rfl⟩
  have HDe := Hi hd
  rw [hd] at PX OF ⊢
  clear h hR
  go_enter Tryz.func119, Tryz.ntmps119
  go_upto_region 1 with (fail)
  clear hd
  generalize World.alloc _ _ = wr at PX OF CH ⊢
  have HOVC := Hi (fun w0 (h0 : Rdr d w0 X x y m) => over_any h0)
  have HZO := Hi (overM_zero y.fu y m false)
  obtain ⟨⟨⟨z, n⟩, F0⟩, hQ⟩ : ∃ q, y.over m = q := ⟨_, rfl⟩
  have HRE := Hi (show (if F0.1 ≠ 0 then ((z, n), (((0 : Int), (0 : Int)), F0)) else if (z.next n 1).2.2 = false then ((z.next n 1).1, ((0, 0), (z.next n 1).1.1.ftc (z.next n 1).1.2)) else ((z.next n 1).1, ((byN y.s z.p, (z.p : Int)), (0, 0)))) = R by have := HRE.out; rw [Sr.first, hQ] at this; exact this)
  rw [hQ] at HOVC
  replace HZO := Hi (show F0.1 = 0 → F0 = (0, 0) from fun h0 => by have h1 := HZO.out; rw [show overM y.fu y m false = ((z, n), F0) from hQ] at h1; exact h1 h0)
  clear hQ
  go_upto_region 2 with (first
    | ((go_at_call 134; (with_reducible refine (HOVC.out _ PX.out).mono ?_); rintro e wp ⟨rfl, hp1, hc1⟩); have OF := Hi (hc1.obj OF.out (not_two PX.out (by omega))); have PX := Hi hp1; have CH := Hi (CH.out.trans hc1); clear hp1 hc1)
    | (refine store_o rfl 36 3 _ _ rfl (d) (pf F0) rfl rfl (by kernel_rfl) (by kernel_rfl) (by kernel_rfl) OF.out (by first | rfl | simp) ?_; intro ws hst hO; have OF := Hi hO; have PX := Hi (PX.out.into hst (by omega)); have CH := Hi (Stored.chg hst CH.out (by have := HDe.out; omega)); clear hst hO))
  have c0 := (OF.out.cell 0).trans (show _ = some (.int .i64 F0.1) from rfl)
  obtain ⟨k0, hk0⟩ : ∃ k0, F0.1 = k0 := ⟨_, rfl⟩
  rw [hk0] at c0
  have HZS := Hi (show z.s = y.s from PX.out.es.trans HSY.out.symm)
  have HK0 := Hi hk0
  by_cases hk : k0 = 0
  rotate_left
  · have g1 : (k0 != 0) = true := by rw [bne_iff_ne]; exact hk
    have E := Hi (show R = ((z, n), ((0, 0), F0)) by have := HRE.out; rw [if_pos (by rw [hk0]; exact hk)] at this; exact this.symm)
    clear hk hk0
    go_upto_region 3 with (fail)
    refine wp_region_noPanic ?_
    refine wp_region_held_drew (S := fun w' => w'.rangeAt (d) 0 (pf F0)) (by kernel_rfl) (Obj1.range0 (cs := (pf F0)) OF.out) (fun hHeld => ?_)
    refine wpAnyH_take (i := 0) rfl (by kernel_rfl) (by kernel_rfl) (by kernel_rfl) (fun _ _ _ h => h) (yieldsIf_load_mid (by rfl) 36 _ rfl (d) 0 rfl (pf F0) _ (fun _ h => h) Tryz.underlying36 rfl (by kernel_rfl)) hHeld ?_
    simp only [Act.put, zq1, zq2, zq3, zq4, zq5, zq6]
    refine wpAnyH_take (i := 1) (v := .int .i64 0) rfl (by kernel_rfl) (by kernel_rfl) (by kernel_rfl) (fun _ _ _ h => h) (Or.inl ⟨by rfl, fun w hS => by go_simp⟩) hHeld ?_
    simp only [Act.put, zq1, zq2, zq3, zq4, zq5, zq6]
    refine wpAnyH_take (i := 2) (v := .int .i64 0) rfl (by kernel_rfl) (by kernel_rfl) (by kernel_rfl) (fun _ _ _ h => h) (Or.inl ⟨by rfl, fun w hS => by go_simp⟩) hHeld ?_
    simp only [Act.put, zq1, zq2, zq3, zq4, zq5, zq6]
    have PX := Hi (PX.out.drew1)
    have CH := Hi (CH.out.drew)
    have OF := Hi (OF.out.drew)
    generalize World.drew _ = wk at PX CH OF ⊢
    refine wpAnyH_ready (rs := [3]) (by kernel_rfl) (by simp) ?_
    refine AllReadyH.cons (o := _) rfl (fun K' hK => ?_) AllReadyH.nil
    rw [if_pos (by rfl)]
    refine wp_store_mid 36 _ _ rfl (d) 0 (List.toArray (pf F0)) rfl rfl (OF.out.there 0 3 (by first | exact Nat.le_refl _ | simp)) (by kernel_rfl) (all_oneCell_toArray (List.all_eq_true.1 (by rfl))) ?_
    simp only [Act.put, zq1, zq2, zq3, zq4, zq5, zq6]
    have hst : Stored wk (d) 0 (pf F0) (wk.setCells (d) 0 (pf F0)) := rfl
    have OF := Hi (hst.whole OF.out (by first | rfl | simp))
    have PX := Hi (PX.out.into hst (by omega))
    have CH := Hi (Stored.chg hst CH.out (by have := HDe.out; omega))
    generalize World.setCells _ _ _ _ = wk2 at PX CH OF ⊢
    clear hst
    refine hK _ _ (Obj1.range0 (cs := (pf F0)) OF.out) (fun hH1 => ?_)
    clear hK K'
    obtain ⟨wk, rfl⟩ : ∃ z, z = wk2 := ⟨_, rfl⟩
    refine wpAnyH_done (by kernel_rfl) ?_ _
    refine NoPanic.normal ?_
    go_wp2_with fail
    refine bodyPost_ret (v := .tuple #[.int .i64 0, .int .i64 0, .agg (pf F0).toArray]) ?_ rfl ⟨by rw [E.out], by rw [E.out]; exact PX.out, CH.out⟩
    exact rs_2c Tryz.results119 _ _ _ (pf F0) _ rfl OF.out.range0 Tryz.underlying36 rfl (by kernel_rfl)
  have g1 : (k0 != 0) = false := by rw [hk]; rfl
  have HF0 := Hi (HZO.out (hk0.trans hk))
  have OF := Hi (show Obj1 _ d (pf (0, 0)).toArray 36 from by rw [← HF0.out]; exact OF.out)
  have HRE := Hi (show (if (z.next n 1).2.2 = false then ((z.next n 1).1, (((0 : Int), (0 : Int)), (z.next n 1).1.1.ftc (z.next n 1).1.2)) else ((z.next n 1).1, ((byN y.s z.p, (z.p : Int)), (0, 0)))) = R by have := HRE.out; rw [if_neg (by rw [hk0, hk]; decide)] at this; exact this)
  clear hk hk0
  go_upto_region 4 with (fail)
  clear c0 g1
  cases hok : (z.next n 1).2.2 with
  | false =>
      have HU := Hi (fun w0 (h0 : Rdr d w0 X x z n) => rd_no h0 hok)
      have e1 := (n1_no hok).1
      obtain ⟨n1, hn1⟩ : ∃ n1, (z.next n 1).1.2 = n1 := ⟨_, rfl⟩
      have e2 : (z.next n 1).1 = (z, n1) := Prod.ext e1 hn1
      rw [hn1] at HU
      obtain ⟨F, hF⟩ : ∃ F, z.ftc n1 = F := ⟨_, rfl⟩
      have HFL := Hi (fun w0 (h0 : Rdr d w0 X x z n1) => (rd_fault h0).mono (R' := fun e w' => e = .returned (.agg (pf F).toArray) ∧ Below w0.heap.size w0 w') fun e w' hh => by rw [hF] at hh; exact hh)
      have E := Hi (show R = ((z, n1), ((0, 0), F)) by have := HRE.out; rw [if_pos hok, e2, hF] at this; exact this.symm)
      clear hok e1 e2 hn1 hF
      go_wp2_with (first
        | ((go_at_call 48; (with_reducible refine (rd_at PX.out).mono ?_); rintro e ws1 ⟨rfl, rfl⟩))
        | ((go_at_call 99; (with_reducible refine (HU.out _ PX.out).mono ?_); rintro e wp ⟨rfl, hp1, hc1⟩); have OF := Hi (hc1.obj OF.out (not_two PX.out (by omega))); have PX := Hi hp1; have CH := Hi (CH.out.trans hc1); clear hp1 hc1)
        | ((go_at_call 50; (with_reducible refine (HFL.out _ PX.out).mono ?_); rintro e wb ⟨rfl, hb⟩); have PX := Hi (PX.out.upon hb); have OF := Hi (OF.out.below hb OF.out.lt); have CH := Hi (CH.out.trans (chg_of_below hb _)); clear hb)
        | (refine store_o rfl 36 3 _ _ rfl (d) (pf F) rfl rfl (by kernel_rfl) (by kernel_rfl) (by kernel_rfl) OF.out (by first | rfl | simp) ?_; intro ws hst hO; have OF := Hi hO; have PX := Hi (PX.out.into hst (by omega)); have CH := Hi (Stored.chg hst CH.out (by have := HDe.out; omega)); clear hst hO))
      refine bodyPost_ret (v := .tuple #[.int .i64 0, .int .i64 0, .agg (pf F).toArray]) ?_ rfl ⟨by rw [E.out], by rw [E.out]; exact PX.out, CH.out⟩
      exact rs_2c Tryz.results119 _ _ _ (pf F) _ rfl OF.out.range0 Tryz.underlying36 rfl (by kernel_rfl)
  | true =>
      have HU := Hi (fun w0 (h0 : Rdr d w0 X x z n) => rd_yes h0 hok)
      obtain ⟨b, hb⟩ : ∃ b, byN z.s z.p = b := ⟨_, rfl⟩
      obtain ⟨n1, hn1⟩ : ∃ n1, (z.next n 1).1.2 = n1 := ⟨_, rfl⟩
      rw [hn1, hb] at HU
      have e2 : (z.next n 1).1 = ({ z with p := z.p + 1 }, n1) := Prod.ext (n1_ok PX.out.pr.src.ok hok).2.1 hn1
      obtain ⟨z1, hz1⟩ : ∃ q, ({ z with p := z.p + 1 } : Sr) = q := ⟨_, rfl⟩
      rw [hz1] at HU e2
      have E := Hi (show R = ((z1, n1), ((b, (z.p : Int)), (0, 0))) by have := HRE.out; rw [if_neg (by rw [hok]; decide), e2, ← HZS.out, hb] at this; exact this.symm)
      clear hok hb hn1 e2 hz1
      go_wp2_with (first
        | ((go_at_call 48; (with_reducible refine (rd_at PX.out).mono ?_); rintro e ws1 ⟨rfl, rfl⟩))
        | ((go_at_call 99; (with_reducible refine (HU.out _ PX.out).mono ?_); rintro e wp ⟨rfl, hp1, hc1⟩); have OF := Hi (hc1.obj OF.out (not_two PX.out (by omega))); have PX := Hi hp1; have CH := Hi (CH.out.trans hc1); clear hp1 hc1)
        | (refine store_o rfl 36 3 _ _ rfl (d) (pf (0, 0)) rfl rfl (by kernel_rfl) (by kernel_rfl) (by kernel_rfl) OF.out (by first | rfl | simp) ?_; intro ws hst hO; have OF := Hi hO; have PX := Hi (PX.out.into hst (by omega)); have CH := Hi (Stored.chg hst CH.out (by have := HDe.out; omega)); clear hst hO))
      refine bodyPost_ret (v := .tuple #[.int .i64 b, .int .i64 (z.p : Int), .agg (pf (0, 0)).toArray]) ?_ rfl ⟨by rw [E.out], by rw [E.out]; exact PX.out, CH.out⟩
      exact rs_2c Tryz.results119 _ _ _ (pf (0, 0)) _ rfl OF.out.range0 Tryz.underlying36 rfl (by kernel_rfl)
end Go.Proofs.YtcjjfnghgajefaaGreat

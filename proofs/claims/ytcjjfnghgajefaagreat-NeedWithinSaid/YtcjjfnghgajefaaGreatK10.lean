/- need.ofPNM, walked. -/
import Derived.Test.YtcjjfnghgajefaaGreatK9
import Derived.Test.YtcjjfnghgajefaaGreatK0
namespace Go.Proofs.YtcjjfnghgajefaaGreat
open Go.RowKit
set_option linter.unusedVariables false
set_option linter.unusedSimpArgs false
def pcolB (k : Int) : Bool := decide (k = 3 ∨ k = 6)
theorem pcol_any (k : Int) (w : World) : Calls Tryz.prog 34 #[.int .i64 k] w fun e w' => e = .returned (.bool (pcolB k)) ∧ w = w' := by
  rcases (show k = 3 ∨ k = 6 ∨ (k ≠ 3 ∧ k ≠ 6) by omega) with rfl | rfl | ⟨h1, h2⟩
  · go_enter Tryz.func34, Tryz.ntmps34
    go_wp2_with ((with_reducible refine skip_g rfl ?_ ?_); rfl; intro _)
    go_ret
    exact ⟨rfl, rfl⟩
  · go_enter Tryz.func34, Tryz.ntmps34
    go_wp2
    go_ret
    exact ⟨rfl, rfl⟩
  · have E := Hi (show pcolB k = false by unfold pcolB; rw [decide_eq_false_iff_not]; omega)
    rw [E.out]
    have g1 : (k == 3) = false := by rw [beq_eq_false_iff_ne]; exact h1
    have g2 : (k == 6) = false := by rw [beq_eq_false_iff_ne]; exact h2
    clear h1 h2
    go_enter Tryz.func34, Tryz.ntmps34
    go_wp2
    go_ret
    exact ⟨rfl, rfl⟩
def planL (f W H b C R : Int) : List Value := [.int .i64 f, .int .i64 W, .int .i64 H, .int .i64 b, .int .i64 C, .int .i64 R]
def pbits (h : PH) : Int := (if pbitB h.k = true then 1 else if 255 < h.M then 16 else 8) * (if pcolB h.k = true then 3 else 1)
def Sr.ppnm (x : Sr) (l : Led) : SL × (List Value × (Int × Int)) :=
  if (x.phead l).2.2.1 ≠ 0 then ((x.phead l).1, (planL 0 0 0 0 0 0, (x.phead l).2.2))
  else ((x.phead l).1, (planL 0 (x.phead l).2.1.W (x.phead l).2.1.H (pbits (x.phead l).2.1) 0 0, (0, 0)))
theorem ph_zero (x : Sr) (l : Led) (h : (x.phead l).2.2.1 = 0) : (x.phead l).2.2 = (0, 0) := by
  have a4 : ∀ k W H M (x : Sr) l, (ph4 k W H M x l).2.2.1 = 0 → (ph4 k W H M x l).2.2 = (0, 0) := by
    intro k W H M x l h
    unfold ph4 at h ⊢
    by_cases h1 : ptxtB k = true
    · rw [if_pos h1]
    rw [if_neg h1] at h ⊢
    by_cases h2 : (x.one l).2.1 ≠ 0
    · rw [if_pos h2] at h; exact absurd h h2
    rw [if_neg h2]
  have a3 : ∀ k W H (x : Sr) l, (ph3 k W H x l).2.2.1 = 0 → (ph3 k W H x l).2.2 = (0, 0) := by
    intro k W H x l h
    unfold ph3 at h ⊢
    by_cases h1 : pbitB k = true
    · rw [if_pos h1] at h ⊢; exact a4 _ _ _ _ _ _ h
    rw [if_neg h1] at h ⊢
    by_cases h2 : (x.hnum l 65535 2).2.2.1 ≠ 0
    · rw [if_pos h2] at h; exact absurd h h2
    rw [if_neg h2] at h ⊢; exact a4 _ _ _ _ _ _ h
  unfold Sr.phead at h ⊢
  by_cases h1 : (x.kind l).2.2.1 ≠ 0
  · rw [if_pos h1] at h; exact absurd h h1
  rw [if_neg h1] at h ⊢
  unfold ph1 at h ⊢
  by_cases h2 : ((x.kind l).1.1.hnum (x.kind l).1.2 16384 3).2.2.1 ≠ 0
  · rw [if_pos h2] at h; exact absurd h h2
  rw [if_neg h2] at h ⊢
  unfold ph2 at h ⊢
  by_cases h3 : (((x.kind l).1.1.hnum (x.kind l).1.2 16384 3).1.1.hnum ((x.kind l).1.1.hnum (x.kind l).1.2 16384 3).1.2 16384 3).2.2.1 ≠ 0
  · rw [if_pos h3] at h; exact absurd h h3
  rw [if_neg h3] at h ⊢
  exact a3 _ _ _ _ _ h
set_option maxRecDepth 100000 in
set_option maxHeartbeats 4000000 in
theorem ofpnm_any {d0 : Nat} {w : World} {X : Nat} {x y : Sr} {m : Led} (h : Rdr d0 w X x y m) : Calls Tryz.prog 20 #[.pointer (some ⟨X, 0, none⟩)] w (RdPost d0 w X x (y.ppnm m).1 (.tuple #[.agg (y.ppnm m).2.1.toArray, .agg (pf (y.ppnm m).2.2).toArray])) := by
  suffices H : Calls Tryz.prog 20 #[.pointer (some ⟨X, 0, none⟩)] w (RdPost w.heap.size w X x (y.ppnm m).1 (.tuple #[.agg (y.ppnm m).2.1.toArray, .agg (pf (y.ppnm m).2.2).toArray])) from H.mono fun e w' hh => ⟨hh.1, hh.2.1.to h, hh.2.2⟩
  have PX := Hi ((h.self.alloc (.cells #[.int .i64 0, .int .i64 0, .int .i64 0, .int .i64 0, .int .i64 0, .int .i64 0] 23)).alloc (.cells #[.int .i64 0, .int .i64 0, .int .i64 0] 36))
  have O2 := Hi ((obj1_new w #[.int .i64 0, .int .i64 0, .int .i64 0, .int .i64 0, .int .i64 0, .int .i64 0] 23).alloc (.cells #[.int .i64 0, .int .i64 0, .int .i64 0] 36))
  have O3 := Hi (obj1_new (w.alloc (.cells #[.int .i64 0, .int .i64 0, .int .i64 0, .int .i64 0, .int .i64 0, .int .i64 0] 23)) #[.int .i64 0, .int .i64 0, .int .i64 0] 36)
  have CH := Hi (((Chg.refl (two X x) w).alloc (.cells #[.int .i64 0, .int .i64 0, .int .i64 0, .int .i64 0, .int .i64 0, .int .i64 0] 23)).alloc (.cells #[.int .i64 0, .int .i64 0, .int .i64 0] 36))
  obtain ⟨R, hR⟩ : ∃ R, y.ppnm m = R := ⟨_, rfl⟩
  rw [hR]
  unfold Sr.ppnm at hR
  have HRE := Hi hR
  obtain ⟨d, hd⟩ : ∃ d, w.heap.size = d := ⟨_, rfl⟩
  have HDe := Hi hd
  rw [show (w.alloc (.cells #[.int .i64 0, .int .i64 0, .int .i64 0, .int .i64 0, .int .i64 0, .int .i64 0] 23)).heap.size = d + 1 by rw [← hd]; simp] at O3
  rw [hd] at PX O2 ⊢
  have HPC := Hi (fun d w0 (h0 : Rdr d w0 X x y m) => phead_any h0)
  have HPZ := Hi (ph_zero y m)
  clear h hR
  go_enter Tryz.func20, Tryz.ntmps20
  go_upto_region 1 with (fail)
  clear hd
  generalize World.alloc (World.alloc _ _) _ = wr at PX O2 O3 CH ⊢
  obtain ⟨⟨⟨z, n⟩, ⟨g, F⟩⟩, hQ⟩ : ∃ q, y.phead m = q := ⟨_, rfl⟩
  rw [hQ] at HPC HPZ HRE
  replace HRE := Hi (show (if F.1 ≠ 0 then ((z, n), (planL 0 0 0 0 0 0, F)) else ((z, n), (planL 0 g.W g.H (pbits g) 0 0, (0, 0)))) = R from HRE.out)
  replace HPC := Hi (show ∀ d w0, Rdr d w0 X x y m → Calls Tryz.prog 33 #[.pointer (some ⟨X, 0, none⟩)] w0 (fun e w' => e = .returned (.tuple #[.agg (g.cells).toArray, .agg (pf F).toArray]) ∧ Rdr d w' X x z n ∧ Chg (two X x) w0 w') from HPC.out)
  clear hQ HPZ
  obtain ⟨k, W, H, M, A⟩ := g
  go_wp2_with fail
  with_reducible refine (HPC.out _ _ PX.out).mono ?_
  rintro e w6 ⟨rfl, hp1, hc1⟩
  have O2 := Hi (hc1.obj O2.out (not_two PX.out (by omega)))
  have O3 := Hi (hc1.obj O3.out (not_two PX.out (by omega)))
  have PX := Hi hp1
  have CH := Hi (CH.out.trans hc1)
  clear hp1 hc1
  rw [show (PH.mk k W H M A).cells = ph5L k W H M A from rfl]
  clear HPC
  obtain ⟨b4, hb4⟩ : ∃ b, w6.heap.size = b := ⟨_, rfl⟩
  have lzb4 := O3.out.lt
  have O4 := Hi (obj1_new w6 #[.int .i64 0, .int .i64 0, .int .i64 0, .int .i64 0, .int .i64 0] 95)
  rw [hb4] at O4 lzb4
  have PX := Hi (PX.out.alloc (.cells #[.int .i64 0, .int .i64 0, .int .i64 0, .int .i64 0, .int .i64 0] 95))
  have CH := Hi (CH.out.alloc (.cells #[.int .i64 0, .int .i64 0, .int .i64 0, .int .i64 0, .int .i64 0] 95))
  have O2 := Hi (O2.out.alloc (.cells #[.int .i64 0, .int .i64 0, .int .i64 0, .int .i64 0, .int .i64 0] 95))
  have O3 := Hi (O3.out.alloc (.cells #[.int .i64 0, .int .i64 0, .int .i64 0, .int .i64 0, .int .i64 0] 95))
  have lzz : (w6.alloc (Obj.cells #[.int .i64 0, .int .i64 0, .int .i64 0, .int .i64 0, .int .i64 0] 95)).heap.size = b4 + 1 := by rw [World.size_alloc, hb4]
  have lz5 : b4 < b4 + 1 := Nat.lt_succ_self b4
  have O5 := Hi (obj1_new (w6.alloc (Obj.cells #[.int .i64 0, .int .i64 0, .int .i64 0, .int .i64 0, .int .i64 0] 95)) #[.int .i64 0, .int .i64 0, .int .i64 0] 36)
  rw [lzz] at O5
  clear lzz
  have PX := Hi (PX.out.alloc (.cells #[.int .i64 0, .int .i64 0, .int .i64 0] 36))
  have CH := Hi (CH.out.alloc (.cells #[.int .i64 0, .int .i64 0, .int .i64 0] 36))
  have O2 := Hi (O2.out.alloc (.cells #[.int .i64 0, .int .i64 0, .int .i64 0] 36))
  have O3 := Hi (O3.out.alloc (.cells #[.int .i64 0, .int .i64 0, .int .i64 0] 36))
  have O4 := Hi (O4.out.alloc (.cells #[.int .i64 0, .int .i64 0, .int .i64 0] 36))
  go_upto_region 2 with (first
    | (refine store_o rfl 95 5 _ _ rfl (b4) (ph5L k W H M A) rfl rfl (by kernel_rfl) (by kernel_rfl) (by kernel_rfl) O4.out (by first | rfl | simp) ?_; intro ws hst hO; have O4 := Hi hO; have O2 := Hi (hst.oth O2.out (by omega)); have O3 := Hi (hst.oth O3.out (by omega)); have O5 := Hi (hst.oth O5.out (by omega)); have PX := Hi (PX.out.into hst (by omega)); have CH := Hi (Stored.chg hst CH.out (by have := HDe.out; omega)); clear hst hO)
    | (refine store_o rfl 36 3 _ _ rfl (b4 + 1) (pf F) rfl rfl (by kernel_rfl) (by kernel_rfl) (by kernel_rfl) O5.out (by first | rfl | simp) ?_; intro ws hst hO; have O5 := Hi hO; have O2 := Hi (hst.oth O2.out (by omega)); have O3 := Hi (hst.oth O3.out (by omega)); have O4 := Hi (hst.oth O4.out (by omega)); have PX := Hi (PX.out.into hst (by omega)); have CH := Hi (Stored.chg hst CH.out (by have := HDe.out; omega)); clear hst hO))
  clear hb4
  have c0 := (O5.out.cell 0).trans (show _ = some (.int .i64 F.1) from rfl)
  obtain ⟨f, hf⟩ : ∃ k0, F.1 = k0 := ⟨_, rfl⟩
  rw [hf] at c0
  by_cases hk : f = 0
  rotate_left
  · have g1 : (f != 0) = true := by rw [bne_iff_ne]; exact hk
    have E := Hi (show R = ((z, n), (planL 0 0 0 0 0 0, F)) by have := HRE.out; rw [if_pos (by rw [hf]; exact hk)] at this; exact this.symm)
    clear hk hf
    go_upto_region 3 with (fail)
    refine wp_region_noPanic ?_
    refine wp_region_held_drew (S := fun w' => w'.rangeAt (b4 + 1) 0 (pf F)) (by kernel_rfl) (Obj1.range0 (cs := (pf F)) O5.out) (fun hHeld => ?_)
    refine wpAnyH_take (i := 0) (v := .agg (List.toArray [.int .i64 0, .int .i64 0, .int .i64 0, .int .i64 0, .int .i64 0, .int .i64 0])) rfl (by kernel_rfl) (by kernel_rfl) (by kernel_rfl) (fun _ _ _ h => h) (Or.inl ⟨by rfl, fun w hS => by go_simp⟩) hHeld ?_
    simp only [Act.put, zq1, zq2, zq3, zq4, zq5, zq6]
    refine wpAnyH_take (i := 1) rfl (by kernel_rfl) (by kernel_rfl) (by kernel_rfl) (fun _ _ _ h => h) (yieldsIf_load_mid (by rfl) 36 _ rfl (b4 + 1) 0 rfl (pf F) _ (fun _ h => h) Tryz.underlying36 rfl (by kernel_rfl)) hHeld ?_
    simp only [Act.put, zq1, zq2, zq3, zq4, zq5, zq6]
    have PX := Hi (PX.out.drew1)
    have CH := Hi (CH.out.drew)
    have O2 := Hi (O2.out.drew)
    have O3 := Hi (O3.out.drew)
    have O4 := Hi (O4.out.drew)
    have O5 := Hi (O5.out.drew)
    generalize World.drew _ = wk at PX CH O2 O3 O4 O5 ⊢
    refine wpAnyH_ready (rs := [2]) (by kernel_rfl) (by simp) ?_
    refine AllReadyH.cons (o := _) rfl (fun K' hK => ?_) AllReadyH.nil
    rw [if_pos (by rfl)]
    refine wp_store_mid 23 _ _ rfl (d) 0 (List.toArray [.int .i64 0, .int .i64 0, .int .i64 0, .int .i64 0, .int .i64 0, .int .i64 0]) rfl rfl (O2.out.there 0 6 (by first | exact Nat.le_refl _ | simp)) (by kernel_rfl) (all_oneCell_toArray (List.all_eq_true.1 (by rfl))) ?_
    simp only [Act.put, zq1, zq2, zq3, zq4, zq5, zq6]
    have hst : Stored wk (d) 0 [.int .i64 0, .int .i64 0, .int .i64 0, .int .i64 0, .int .i64 0, .int .i64 0] (wk.setCells (d) 0 [.int .i64 0, .int .i64 0, .int .i64 0, .int .i64 0, .int .i64 0, .int .i64 0]) := rfl
    have O2 := Hi (hst.whole O2.out (by first | rfl | simp))
    have O3 := Hi (hst.oth O3.out (by omega))
    have O4 := Hi (hst.oth O4.out (by omega))
    have O5 := Hi (hst.oth O5.out (by omega))
    have PX := Hi (PX.out.into hst (by omega))
    have CH := Hi (Stored.chg hst CH.out (by have := HDe.out; omega))
    generalize World.setCells _ _ _ _ = wk2 at PX CH O2 O3 O4 O5 ⊢
    clear hst
    refine hK _ _ (Obj1.range0 (cs := (pf F)) O5.out) (fun hH1 => ?_)
    clear hK K'
    obtain ⟨wk, rfl⟩ : ∃ z, z = wk2 := ⟨_, rfl⟩
    refine wpAnyH_ready (rs := [3]) (by kernel_rfl) (by simp) ?_
    refine AllReadyH.cons (o := _) rfl (fun K' hK => ?_) AllReadyH.nil
    rw [if_pos (by rfl)]
    refine wp_store_mid 36 _ _ rfl (d + 1) 0 (List.toArray (pf F)) rfl rfl (O3.out.there 0 3 (by first | exact Nat.le_refl _ | simp)) (by kernel_rfl) (all_oneCell_toArray (List.all_eq_true.1 (by rfl))) ?_
    simp only [Act.put, zq1, zq2, zq3, zq4, zq5, zq6]
    have hst : Stored wk (d + 1) 0 (pf F) (wk.setCells (d + 1) 0 (pf F)) := rfl
    have O3 := Hi (hst.whole O3.out (by first | rfl | simp))
    have O2 := Hi (hst.oth O2.out (by omega))
    have O4 := Hi (hst.oth O4.out (by omega))
    have O5 := Hi (hst.oth O5.out (by omega))
    have PX := Hi (PX.out.into hst (by omega))
    have CH := Hi (Stored.chg hst CH.out (by have := HDe.out; omega))
    generalize World.setCells _ _ _ _ = wk2 at PX CH O2 O3 O4 O5 ⊢
    clear hst
    refine hK _ _ (Obj1.range0 (cs := (pf F)) O5.out) (fun hH2 => ?_)
    clear hK K'
    obtain ⟨wk, rfl⟩ : ∃ z, z = wk2 := ⟨_, rfl⟩
    refine wpAnyH_done (by kernel_rfl) ?_ _
    refine NoPanic.normal ?_
    go_wp2_with fail
    refine bodyPost_ret (v := .tuple #[.agg (List.toArray ([.int .i64 0, .int .i64 0, .int .i64 0, .int .i64 0, .int .i64 0, .int .i64 0])), .agg (List.toArray (pf F))]) ?_ rfl ⟨by rw [E.out] <;> rfl, by rw [E.out]; exact PX.out, CH.out⟩
    exact results_cc Tryz.results20 _ _ _ _ ([.int .i64 0, .int .i64 0, .int .i64 0, .int .i64 0, .int .i64 0, .int .i64 0]) (pf F) _ _ rfl O2.out.range0 Tryz.underlying23 rfl (by kernel_rfl) rfl O3.out.range0 Tryz.underlying36 rfl (by kernel_rfl)
  have g1 : (f != 0) = false := by rw [hk]; rfl
  replace HRE := Hi (show ((z, n), (planL 0 W H (pbits ⟨k, W, H, M, A⟩) 0 0, ((0 : Int), (0 : Int)))) = R by have := HRE.out; rw [if_neg (by rw [hf, hk]; decide)] at this; exact this)
  clear hk hf
  go_upto_region 4 with (fail)
  clear c0 g1
  have q1 := (O4.out.cell 1).trans (show _ = some (.int .i64 W) from rfl)
  have q2 := (O4.out.cell 2).trans (show _ = some (.int .i64 H) from rfl)
  obtain ⟨b6, hb6⟩ : ∃ b, ws.heap.size = b := ⟨_, rfl⟩
  have lzb6 := O5.out.lt
  have O6 := Hi (obj1_new ws #[.int .i64 0, .int .i64 0, .int .i64 0, .int .i64 0, .int .i64 0, .int .i64 0] 23)
  rw [hb6] at O6 lzb6
  have PX := Hi (PX.out.alloc (.cells #[.int .i64 0, .int .i64 0, .int .i64 0, .int .i64 0, .int .i64 0, .int .i64 0] 23))
  have CH := Hi (CH.out.alloc (.cells #[.int .i64 0, .int .i64 0, .int .i64 0, .int .i64 0, .int .i64 0, .int .i64 0] 23))
  have O2 := Hi (O2.out.alloc (.cells #[.int .i64 0, .int .i64 0, .int .i64 0, .int .i64 0, .int .i64 0, .int .i64 0] 23))
  have O3 := Hi (O3.out.alloc (.cells #[.int .i64 0, .int .i64 0, .int .i64 0, .int .i64 0, .int .i64 0, .int .i64 0] 23))
  have O4 := Hi (O4.out.alloc (.cells #[.int .i64 0, .int .i64 0, .int .i64 0, .int .i64 0, .int .i64 0, .int .i64 0] 23))
  have O5 := Hi (O5.out.alloc (.cells #[.int .i64 0, .int .i64 0, .int .i64 0, .int .i64 0, .int .i64 0, .int .i64 0] 23))
  go_upto_region 5 with (first
    | (refine store_o rfl 23 6 _ _ rfl (b6) (planL 0 W H 8 0 0) rfl rfl (by kernel_rfl) (by kernel_rfl) (by kernel_rfl) O6.out (by first | rfl | simp) ?_; intro w7 hst hO; have O6 := Hi hO; have O2 := Hi (hst.oth O2.out (by omega)); have O3 := Hi (hst.oth O3.out (by omega)); have O4 := Hi (hst.oth O4.out (by omega)); have O5 := Hi (hst.oth O5.out (by omega)); have PX := Hi (PX.out.into hst (by omega)); have CH := Hi (Stored.chg hst CH.out (by have := HDe.out; omega)); clear hst hO))
  clear hb6 q1 q2
  have q0 := (O4.out.cell 0).trans (show _ = some (.int .i64 k) from rfl)
  have q3 := (O4.out.cell 3).trans (show _ = some (.int .i64 M) from rfl)
  have HCO := Hi (fun w0 => pcol_any k w0)
  by_cases h1 : k = 1
  · have hcol : pcolB k = false := by rw [h1]; rfl
    replace HCO := Hi (fun w0 => (HCO.out w0).mono (R' := fun e w' => e = .returned (.bool false) ∧ w0 = w') fun e w' hh => by rw [hcol] at hh; exact hh)
    have E := Hi (show R = ((z, n), (planL 0 W H 1 0 0, ((0 : Int), (0 : Int)))) by have := HRE.out; rw [show pbits ⟨k, W, H, M, A⟩ = 1 from by unfold pbits; rw [hcol, h1]; rfl] at this; exact this.symm)
    have g2 : (k == 1) = true := by rw [beq_iff_eq]; exact h1
    clear hcol h1
    go_upto_region 9 with (first
      | ((with_reducible refine skip_g rfl ?_ ?_); rfl; intro _)
      | (refine store_c rfl 3 _ _ rfl (b6) 3 (.int .i64 1) rfl rfl (by kernel_rfl) (by kernel_rfl) (by kernel_rfl) O6.out (show 3 < 6 by decide) (cs' := List.toArray (planL 0 W H 1 0 0)) rfl ?_; intro ws hst hO; have O6 := Hi hO; have O2 := Hi (hst.oth O2.out (by omega)); have O3 := Hi (hst.oth O3.out (by omega)); have O4 := Hi (hst.oth O4.out (by omega)); have O5 := Hi (hst.oth O5.out (by omega)); have PX := Hi (PX.out.into hst (by omega)); have CH := Hi (Stored.chg hst CH.out (by have := HDe.out; omega)); clear hst hO))
    clear q0 q3
    have q0 := (O4.out.cell 0).trans (show _ = some (.int .i64 k) from rfl)
    have q3 := (O4.out.cell 3).trans (show _ = some (.int .i64 M) from rfl)
    go_upto_region 11 with (first
      | ((go_at_call 34; (with_reducible refine (HCO.out _).mono ?_); rintro e ws1 ⟨rfl, rfl⟩)))
    clear q0 q3
    go_wp2_with (first
      | (refine load_u (by kernel_rfl) 23 6 _ rfl (b6) (planL 0 W H 1 0 0) rfl rfl O6.out Tryz.underlying23 rfl (by kernel_rfl) ?_; intro _)
      | (refine store_o rfl 23 6 _ _ rfl (d) (planL 0 W H 1 0 0) rfl rfl (by kernel_rfl) (by kernel_rfl) (by kernel_rfl) O2.out (by first | rfl | simp) ?_; intro ws hst hO; have O2 := Hi hO; have O3 := Hi (hst.oth O3.out (by omega)); have O4 := Hi (hst.oth O4.out (by omega)); have O5 := Hi (hst.oth O5.out (by omega)); have O6 := Hi (hst.oth O6.out (by omega)); have PX := Hi (PX.out.into hst (by omega)); have CH := Hi (Stored.chg hst CH.out (by have := HDe.out; omega)); clear hst hO)
      | (refine store_o rfl 36 3 _ _ rfl (d + 1) (pf (0, 0)) rfl rfl (by kernel_rfl) (by kernel_rfl) (by kernel_rfl) O3.out (by first | rfl | simp) ?_; intro ws hst hO; have O3 := Hi hO; have O2 := Hi (hst.oth O2.out (by omega)); have O4 := Hi (hst.oth O4.out (by omega)); have O5 := Hi (hst.oth O5.out (by omega)); have O6 := Hi (hst.oth O6.out (by omega)); have PX := Hi (PX.out.into hst (by omega)); have CH := Hi (Stored.chg hst CH.out (by have := HDe.out; omega)); clear hst hO))
    refine bodyPost_ret (v := .tuple #[.agg (List.toArray (planL 0 W H 1 0 0)), .agg (List.toArray (pf (0, 0)))]) ?_ rfl ⟨by rw [E.out] <;> rfl, by rw [E.out]; exact PX.out, CH.out⟩
    exact results_cc Tryz.results20 _ _ _ _ (planL 0 W H 1 0 0) (pf (0, 0)) _ _ rfl O2.out.range0 Tryz.underlying23 rfl (by kernel_rfl) rfl O3.out.range0 Tryz.underlying36 rfl (by kernel_rfl)
  by_cases h4 : k = 4
  · have hcol : pcolB k = false := by rw [h4]; rfl
    replace HCO := Hi (fun w0 => (HCO.out w0).mono (R' := fun e w' => e = .returned (.bool false) ∧ w0 = w') fun e w' hh => by rw [hcol] at hh; exact hh)
    have E := Hi (show R = ((z, n), (planL 0 W H 1 0 0, ((0 : Int), (0 : Int)))) by have := HRE.out; rw [show pbits ⟨k, W, H, M, A⟩ = 1 from by unfold pbits; rw [hcol, h4]; rfl] at this; exact this.symm)
    have g1 : (k == 1) = false := by rw [beq_eq_false_iff_ne]; exact h1
    have g2 : (k == 4) = true := by rw [beq_iff_eq]; exact h4
    clear hcol h1 h4
    go_upto_region 9 with (first
      | (refine store_c rfl 3 _ _ rfl (b6) 3 (.int .i64 1) rfl rfl (by kernel_rfl) (by kernel_rfl) (by kernel_rfl) O6.out (show 3 < 6 by decide) (cs' := List.toArray (planL 0 W H 1 0 0)) rfl ?_; intro ws hst hO; have O6 := Hi hO; have O2 := Hi (hst.oth O2.out (by omega)); have O3 := Hi (hst.oth O3.out (by omega)); have O4 := Hi (hst.oth O4.out (by omega)); have O5 := Hi (hst.oth O5.out (by omega)); have PX := Hi (PX.out.into hst (by omega)); have CH := Hi (Stored.chg hst CH.out (by have := HDe.out; omega)); clear hst hO))
    clear q0 q3
    have q0 := (O4.out.cell 0).trans (show _ = some (.int .i64 k) from rfl)
    have q3 := (O4.out.cell 3).trans (show _ = some (.int .i64 M) from rfl)
    go_upto_region 11 with (first
      | ((go_at_call 34; (with_reducible refine (HCO.out _).mono ?_); rintro e ws1 ⟨rfl, rfl⟩)))
    clear q0 q3
    go_wp2_with (first
      | (refine load_u (by kernel_rfl) 23 6 _ rfl (b6) (planL 0 W H 1 0 0) rfl rfl O6.out Tryz.underlying23 rfl (by kernel_rfl) ?_; intro _)
      | (refine store_o rfl 23 6 _ _ rfl (d) (planL 0 W H 1 0 0) rfl rfl (by kernel_rfl) (by kernel_rfl) (by kernel_rfl) O2.out (by first | rfl | simp) ?_; intro ws hst hO; have O2 := Hi hO; have O3 := Hi (hst.oth O3.out (by omega)); have O4 := Hi (hst.oth O4.out (by omega)); have O5 := Hi (hst.oth O5.out (by omega)); have O6 := Hi (hst.oth O6.out (by omega)); have PX := Hi (PX.out.into hst (by omega)); have CH := Hi (Stored.chg hst CH.out (by have := HDe.out; omega)); clear hst hO)
      | (refine store_o rfl 36 3 _ _ rfl (d + 1) (pf (0, 0)) rfl rfl (by kernel_rfl) (by kernel_rfl) (by kernel_rfl) O3.out (by first | rfl | simp) ?_; intro ws hst hO; have O3 := Hi hO; have O2 := Hi (hst.oth O2.out (by omega)); have O4 := Hi (hst.oth O4.out (by omega)); have O5 := Hi (hst.oth O5.out (by omega)); have O6 := Hi (hst.oth O6.out (by omega)); have PX := Hi (PX.out.into hst (by omega)); have CH := Hi (Stored.chg hst CH.out (by have := HDe.out; omega)); clear hst hO))
    refine bodyPost_ret (v := .tuple #[.agg (List.toArray (planL 0 W H 1 0 0)), .agg (List.toArray (pf (0, 0)))]) ?_ rfl ⟨by rw [E.out] <;> rfl, by rw [E.out]; exact PX.out, CH.out⟩
    exact results_cc Tryz.results20 _ _ _ _ (planL 0 W H 1 0 0) (pf (0, 0)) _ _ rfl O2.out.range0 Tryz.underlying23 rfl (by kernel_rfl) rfl O3.out.range0 Tryz.underlying36 rfl (by kernel_rfl)
  have g1 : (k == 1) = false := by rw [beq_eq_false_iff_ne]; exact h1
  have g2 : (k == 4) = false := by rw [beq_eq_false_iff_ne]; exact h4
  have hbit : pbitB k = false := by unfold pbitB; rw [decide_eq_false_iff_not]; omega
  clear h1 h4
  by_cases hM : 255 < M
  · have g3 : decide (M > 255) = true := by rw [decide_eq_true_iff]; exact hM
    by_cases hcol : pcolB k = true
    · replace HCO := Hi (fun w0 => (HCO.out w0).mono (R' := fun e w' => e = .returned (.bool true) ∧ w0 = w') fun e w' hh => by rw [hcol] at hh; exact hh)
      have E := Hi (show R = ((z, n), (planL 0 W H 48 0 0, ((0 : Int), (0 : Int)))) by have := HRE.out; rw [show pbits ⟨k, W, H, M, A⟩ = 48 from by unfold pbits; rw [hcol, hbit, if_neg (by decide), if_pos hM]; rfl] at this; exact this.symm)
      clear hcol hbit hM
      go_upto_region 9 with (first
        | (refine store_c rfl 3 _ _ rfl (b6) 3 (.int .i64 16) rfl rfl (by kernel_rfl) (by kernel_rfl) (by kernel_rfl) O6.out (show 3 < 6 by decide) (cs' := List.toArray (planL 0 W H 16 0 0)) rfl ?_; intro ws hst hO; have O6 := Hi hO; have O2 := Hi (hst.oth O2.out (by omega)); have O3 := Hi (hst.oth O3.out (by omega)); have O4 := Hi (hst.oth O4.out (by omega)); have O5 := Hi (hst.oth O5.out (by omega)); have PX := Hi (PX.out.into hst (by omega)); have CH := Hi (Stored.chg hst CH.out (by have := HDe.out; omega)); clear hst hO))
      clear q0 q3
      have q0 := (O4.out.cell 0).trans (show _ = some (.int .i64 k) from rfl)
      have q3 := (O4.out.cell 3).trans (show _ = some (.int .i64 M) from rfl)
      have q6 := (O6.out.cell 3).trans (show _ = some (.int .i64 16) from rfl)
      go_upto_region 11 with (first
        | ((go_at_call 34; (with_reducible refine (HCO.out _).mono ?_); rintro e ws1 ⟨rfl, rfl⟩))
        | (refine store_c rfl 3 _ _ rfl (b6) 3 (.int .i64 48) rfl rfl (by kernel_rfl) (by kernel_rfl) (by kernel_rfl) O6.out (show 3 < 6 by decide) (cs' := List.toArray (planL 0 W H 48 0 0)) rfl ?_; intro ws hst hO; have O6 := Hi hO; have O2 := Hi (hst.oth O2.out (by omega)); have O3 := Hi (hst.oth O3.out (by omega)); have O4 := Hi (hst.oth O4.out (by omega)); have O5 := Hi (hst.oth O5.out (by omega)); have PX := Hi (PX.out.into hst (by omega)); have CH := Hi (Stored.chg hst CH.out (by have := HDe.out; omega)); clear hst hO))
      clear q0 q3
      go_wp2_with (first
        | (refine load_u (by kernel_rfl) 23 6 _ rfl (b6) (planL 0 W H 48 0 0) rfl rfl O6.out Tryz.underlying23 rfl (by kernel_rfl) ?_; intro _)
        | (refine store_o rfl 23 6 _ _ rfl (d) (planL 0 W H 48 0 0) rfl rfl (by kernel_rfl) (by kernel_rfl) (by kernel_rfl) O2.out (by first | rfl | simp) ?_; intro ws hst hO; have O2 := Hi hO; have O3 := Hi (hst.oth O3.out (by omega)); have O4 := Hi (hst.oth O4.out (by omega)); have O5 := Hi (hst.oth O5.out (by omega)); have O6 := Hi (hst.oth O6.out (by omega)); have PX := Hi (PX.out.into hst (by omega)); have CH := Hi (Stored.chg hst CH.out (by have := HDe.out; omega)); clear hst hO)
        | (refine store_o rfl 36 3 _ _ rfl (d + 1) (pf (0, 0)) rfl rfl (by kernel_rfl) (by kernel_rfl) (by kernel_rfl) O3.out (by first | rfl | simp) ?_; intro ws hst hO; have O3 := Hi hO; have O2 := Hi (hst.oth O2.out (by omega)); have O4 := Hi (hst.oth O4.out (by omega)); have O5 := Hi (hst.oth O5.out (by omega)); have O6 := Hi (hst.oth O6.out (by omega)); have PX := Hi (PX.out.into hst (by omega)); have CH := Hi (Stored.chg hst CH.out (by have := HDe.out; omega)); clear hst hO))
      refine bodyPost_ret (v := .tuple #[.agg (List.toArray (planL 0 W H 48 0 0)), .agg (List.toArray (pf (0, 0)))]) ?_ rfl ⟨by rw [E.out] <;> rfl, by rw [E.out]; exact PX.out, CH.out⟩
      exact results_cc Tryz.results20 _ _ _ _ (planL 0 W H 48 0 0) (pf (0, 0)) _ _ rfl O2.out.range0 Tryz.underlying23 rfl (by kernel_rfl) rfl O3.out.range0 Tryz.underlying36 rfl (by kernel_rfl)
    · replace hcol := Bool.eq_false_iff.2 hcol
      replace HCO := Hi (fun w0 => (HCO.out w0).mono (R' := fun e w' => e = .returned (.bool false) ∧ w0 = w') fun e w' hh => by rw [hcol] at hh; exact hh)
      have E := Hi (show R = ((z, n), (planL 0 W H 16 0 0, ((0 : Int), (0 : Int)))) by have := HRE.out; rw [show pbits ⟨k, W, H, M, A⟩ = 16 from by unfold pbits; rw [hcol, hbit, if_neg (by decide), if_pos hM]; rfl] at this; exact this.symm)
      clear hcol hbit hM
      go_upto_region 9 with (first
        | (refine store_c rfl 3 _ _ rfl (b6) 3 (.int .i64 16) rfl rfl (by kernel_rfl) (by kernel_rfl) (by kernel_rfl) O6.out (show 3 < 6 by decide) (cs' := List.toArray (planL 0 W H 16 0 0)) rfl ?_; intro ws hst hO; have O6 := Hi hO; have O2 := Hi (hst.oth O2.out (by omega)); have O3 := Hi (hst.oth O3.out (by omega)); have O4 := Hi (hst.oth O4.out (by omega)); have O5 := Hi (hst.oth O5.out (by omega)); have PX := Hi (PX.out.into hst (by omega)); have CH := Hi (Stored.chg hst CH.out (by have := HDe.out; omega)); clear hst hO))
      clear q0 q3
      have q0 := (O4.out.cell 0).trans (show _ = some (.int .i64 k) from rfl)
      have q3 := (O4.out.cell 3).trans (show _ = some (.int .i64 M) from rfl)
      go_upto_region 11 with (first
        | ((go_at_call 34; (with_reducible refine (HCO.out _).mono ?_); rintro e ws1 ⟨rfl, rfl⟩)))
      clear q0 q3
      go_wp2_with (first
        | (refine load_u (by kernel_rfl) 23 6 _ rfl (b6) (planL 0 W H 16 0 0) rfl rfl O6.out Tryz.underlying23 rfl (by kernel_rfl) ?_; intro _)
        | (refine store_o rfl 23 6 _ _ rfl (d) (planL 0 W H 16 0 0) rfl rfl (by kernel_rfl) (by kernel_rfl) (by kernel_rfl) O2.out (by first | rfl | simp) ?_; intro ws hst hO; have O2 := Hi hO; have O3 := Hi (hst.oth O3.out (by omega)); have O4 := Hi (hst.oth O4.out (by omega)); have O5 := Hi (hst.oth O5.out (by omega)); have O6 := Hi (hst.oth O6.out (by omega)); have PX := Hi (PX.out.into hst (by omega)); have CH := Hi (Stored.chg hst CH.out (by have := HDe.out; omega)); clear hst hO)
        | (refine store_o rfl 36 3 _ _ rfl (d + 1) (pf (0, 0)) rfl rfl (by kernel_rfl) (by kernel_rfl) (by kernel_rfl) O3.out (by first | rfl | simp) ?_; intro ws hst hO; have O3 := Hi hO; have O2 := Hi (hst.oth O2.out (by omega)); have O4 := Hi (hst.oth O4.out (by omega)); have O5 := Hi (hst.oth O5.out (by omega)); have O6 := Hi (hst.oth O6.out (by omega)); have PX := Hi (PX.out.into hst (by omega)); have CH := Hi (Stored.chg hst CH.out (by have := HDe.out; omega)); clear hst hO))
      refine bodyPost_ret (v := .tuple #[.agg (List.toArray (planL 0 W H 16 0 0)), .agg (List.toArray (pf (0, 0)))]) ?_ rfl ⟨by rw [E.out] <;> rfl, by rw [E.out]; exact PX.out, CH.out⟩
      exact results_cc Tryz.results20 _ _ _ _ (planL 0 W H 16 0 0) (pf (0, 0)) _ _ rfl O2.out.range0 Tryz.underlying23 rfl (by kernel_rfl) rfl O3.out.range0 Tryz.underlying36 rfl (by kernel_rfl)
  · have g3 : decide (M > 255) = false := by rw [decide_eq_false_iff_not]; exact hM
    by_cases hcol : pcolB k = true
    · replace HCO := Hi (fun w0 => (HCO.out w0).mono (R' := fun e w' => e = .returned (.bool true) ∧ w0 = w') fun e w' hh => by rw [hcol] at hh; exact hh)
      have E := Hi (show R = ((z, n), (planL 0 W H 24 0 0, ((0 : Int), (0 : Int)))) by have := HRE.out; rw [show pbits ⟨k, W, H, M, A⟩ = 24 from by unfold pbits; rw [hcol, hbit, if_neg (by decide), if_neg hM]; rfl] at this; exact this.symm)
      clear hcol hbit hM
      go_upto_region 9 with (fail)
      clear q0 q3
      have q0 := (O4.out.cell 0).trans (show _ = some (.int .i64 k) from rfl)
      have q3 := (O4.out.cell 3).trans (show _ = some (.int .i64 M) from rfl)
      have q6 := (O6.out.cell 3).trans (show _ = some (.int .i64 8) from rfl)
      go_upto_region 11 with (first
        | ((go_at_call 34; (with_reducible refine (HCO.out _).mono ?_); rintro e ws1 ⟨rfl, rfl⟩))
        | (refine store_c rfl 3 _ _ rfl (b6) 3 (.int .i64 24) rfl rfl (by kernel_rfl) (by kernel_rfl) (by kernel_rfl) O6.out (show 3 < 6 by decide) (cs' := List.toArray (planL 0 W H 24 0 0)) rfl ?_; intro ws hst hO; have O6 := Hi hO; have O2 := Hi (hst.oth O2.out (by omega)); have O3 := Hi (hst.oth O3.out (by omega)); have O4 := Hi (hst.oth O4.out (by omega)); have O5 := Hi (hst.oth O5.out (by omega)); have PX := Hi (PX.out.into hst (by omega)); have CH := Hi (Stored.chg hst CH.out (by have := HDe.out; omega)); clear hst hO))
      clear q0 q3
      go_wp2_with (first
        | (refine load_u (by kernel_rfl) 23 6 _ rfl (b6) (planL 0 W H 24 0 0) rfl rfl O6.out Tryz.underlying23 rfl (by kernel_rfl) ?_; intro _)
        | (refine store_o rfl 23 6 _ _ rfl (d) (planL 0 W H 24 0 0) rfl rfl (by kernel_rfl) (by kernel_rfl) (by kernel_rfl) O2.out (by first | rfl | simp) ?_; intro ws hst hO; have O2 := Hi hO; have O3 := Hi (hst.oth O3.out (by omega)); have O4 := Hi (hst.oth O4.out (by omega)); have O5 := Hi (hst.oth O5.out (by omega)); have O6 := Hi (hst.oth O6.out (by omega)); have PX := Hi (PX.out.into hst (by omega)); have CH := Hi (Stored.chg hst CH.out (by have := HDe.out; omega)); clear hst hO)
        | (refine store_o rfl 36 3 _ _ rfl (d + 1) (pf (0, 0)) rfl rfl (by kernel_rfl) (by kernel_rfl) (by kernel_rfl) O3.out (by first | rfl | simp) ?_; intro ws hst hO; have O3 := Hi hO; have O2 := Hi (hst.oth O2.out (by omega)); have O4 := Hi (hst.oth O4.out (by omega)); have O5 := Hi (hst.oth O5.out (by omega)); have O6 := Hi (hst.oth O6.out (by omega)); have PX := Hi (PX.out.into hst (by omega)); have CH := Hi (Stored.chg hst CH.out (by have := HDe.out; omega)); clear hst hO))
      refine bodyPost_ret (v := .tuple #[.agg (List.toArray (planL 0 W H 24 0 0)), .agg (List.toArray (pf (0, 0)))]) ?_ rfl ⟨by rw [E.out] <;> rfl, by rw [E.out]; exact PX.out, CH.out⟩
      exact results_cc Tryz.results20 _ _ _ _ (planL 0 W H 24 0 0) (pf (0, 0)) _ _ rfl O2.out.range0 Tryz.underlying23 rfl (by kernel_rfl) rfl O3.out.range0 Tryz.underlying36 rfl (by kernel_rfl)
    · replace hcol := Bool.eq_false_iff.2 hcol
      replace HCO := Hi (fun w0 => (HCO.out w0).mono (R' := fun e w' => e = .returned (.bool false) ∧ w0 = w') fun e w' hh => by rw [hcol] at hh; exact hh)
      have E := Hi (show R = ((z, n), (planL 0 W H 8 0 0, ((0 : Int), (0 : Int)))) by have := HRE.out; rw [show pbits ⟨k, W, H, M, A⟩ = 8 from by unfold pbits; rw [hcol, hbit, if_neg (by decide), if_neg hM]; rfl] at this; exact this.symm)
      clear hcol hbit hM
      go_upto_region 9 with (fail)
      clear q0 q3
      have q0 := (O4.out.cell 0).trans (show _ = some (.int .i64 k) from rfl)
      have q3 := (O4.out.cell 3).trans (show _ = some (.int .i64 M) from rfl)
      go_upto_region 11 with (first
        | ((go_at_call 34; (with_reducible refine (HCO.out _).mono ?_); rintro e ws1 ⟨rfl, rfl⟩)))
      clear q0 q3
      go_wp2_with (first
        | (refine load_u (by kernel_rfl) 23 6 _ rfl (b6) (planL 0 W H 8 0 0) rfl rfl O6.out Tryz.underlying23 rfl (by kernel_rfl) ?_; intro _)
        | (refine store_o rfl 23 6 _ _ rfl (d) (planL 0 W H 8 0 0) rfl rfl (by kernel_rfl) (by kernel_rfl) (by kernel_rfl) O2.out (by first | rfl | simp) ?_; intro ws hst hO; have O2 := Hi hO; have O3 := Hi (hst.oth O3.out (by omega)); have O4 := Hi (hst.oth O4.out (by omega)); have O5 := Hi (hst.oth O5.out (by omega)); have O6 := Hi (hst.oth O6.out (by omega)); have PX := Hi (PX.out.into hst (by omega)); have CH := Hi (Stored.chg hst CH.out (by have := HDe.out; omega)); clear hst hO)
        | (refine store_o rfl 36 3 _ _ rfl (d + 1) (pf (0, 0)) rfl rfl (by kernel_rfl) (by kernel_rfl) (by kernel_rfl) O3.out (by first | rfl | simp) ?_; intro ws hst hO; have O3 := Hi hO; have O2 := Hi (hst.oth O2.out (by omega)); have O4 := Hi (hst.oth O4.out (by omega)); have O5 := Hi (hst.oth O5.out (by omega)); have O6 := Hi (hst.oth O6.out (by omega)); have PX := Hi (PX.out.into hst (by omega)); have CH := Hi (Stored.chg hst CH.out (by have := HDe.out; omega)); clear hst hO))
      refine bodyPost_ret (v := .tuple #[.agg (List.toArray (planL 0 W H 8 0 0)), .agg (List.toArray (pf (0, 0)))]) ?_ rfl ⟨by rw [E.out] <;> rfl, by rw [E.out]; exact PX.out, CH.out⟩
      exact results_cc Tryz.results20 _ _ _ _ (planL 0 W H 8 0 0) (pf (0, 0)) _ _ rfl O2.out.range0 Tryz.underlying23 rfl (by kernel_rfl) rfl O3.out.range0 Tryz.underlying36 rfl (by kernel_rfl)
end Go.Proofs.YtcjjfnghgajefaaGreat

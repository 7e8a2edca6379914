/- pnmhead.Read, walked. -/
import Derived.Test.YtcjjfnghgajefaaGreatK7
import Derived.Test.YtcjjfnghgajefaaGreatK0
namespace Go.Proofs.YtcjjfnghgajefaaGreat
open Go.RowKit
set_option linter.unusedVariables false
set_option linter.unusedSimpArgs false
structure PH where
  k : Int
  W : Int
  H : Int
  M : Int
  A : Int
def ph5L (k W H M A : Int) : List Value := [.int .i64 k, .int .i64 W, .int .i64 H, .int .i64 M, .int .i64 A]
def PH.cells (h : PH) : List Value := ph5L h.k h.W h.H h.M h.A
abbrev PHR := SL × (PH × (Int × Int))
def ph4 (k W H M : Int) (x : Sr) (l : Led) : PHR :=
  if ptxtB k = true then ((x, l), (⟨k, W, H, M, x.p⟩, (0, 0)))
  else if (x.one l).2.1 ≠ 0 then ((x.one l).1, (⟨0, 0, 0, 0, 0⟩, (x.one l).2))
  else ((x.one l).1, (⟨k, W, H, M, (x.one l).1.1.p⟩, (0, 0)))
def ph3 (k W H : Int) (x : Sr) (l : Led) : PHR :=
  if pbitB k = true then ph4 k W H 1 x l
  else if (x.hnum l 65535 2).2.2.1 ≠ 0 then ((x.hnum l 65535 2).1, (⟨0, 0, 0, 0, 0⟩, (x.hnum l 65535 2).2.2))
  else ph4 k W H (x.hnum l 65535 2).2.1 (x.hnum l 65535 2).1.1 (x.hnum l 65535 2).1.2
def ph2 (k W : Int) (x : Sr) (l : Led) : PHR :=
  if (x.hnum l 16384 3).2.2.1 ≠ 0 then ((x.hnum l 16384 3).1, (⟨0, 0, 0, 0, 0⟩, (x.hnum l 16384 3).2.2))
  else ph3 k W (x.hnum l 16384 3).2.1 (x.hnum l 16384 3).1.1 (x.hnum l 16384 3).1.2
def ph1 (k : Int) (x : Sr) (l : Led) : PHR :=
  if (x.hnum l 16384 3).2.2.1 ≠ 0 then ((x.hnum l 16384 3).1, (⟨0, 0, 0, 0, 0⟩, (x.hnum l 16384 3).2.2))
  else ph2 k (x.hnum l 16384 3).2.1 (x.hnum l 16384 3).1.1 (x.hnum l 16384 3).1.2
def Sr.phead (x : Sr) (l : Led) : PHR :=
  if (x.kind l).2.2.1 ≠ 0 then ((x.kind l).1, (⟨0, 0, 0, 0, 0⟩, (x.kind l).2.2))
  else ph1 (x.kind l).2.1 (x.kind l).1.1 (x.kind l).1.2
theorem pidx0 (b : Nat) (w : World) : (Instr.index 135 (.agg #[.pointer (some ⟨b, 1, none⟩), .pointer (some ⟨b, 2, none⟩)]) (.int .i64 0)).run Tryz.prog w = .ok (.pointer (some ⟨b, 1, none⟩)) w := by kernel_rfl
theorem pidx1 (b : Nat) (w : World) : (Instr.index 135 (.agg #[.pointer (some ⟨b, 1, none⟩), .pointer (some ⟨b, 2, none⟩)]) (.int .i64 1)).run Tryz.prog w = .ok (.pointer (some ⟨b, 2, none⟩)) w := by kernel_rfl
set_option maxRecDepth 100000 in
set_option maxHeartbeats 4000000 in
theorem phead_any {d0 : Nat} {w : World} {X : Nat} {x y : Sr} {m : Led} (h : Rdr d0 w X x y m) : Calls Tryz.prog 33 #[.pointer (some ⟨X, 0, none⟩)] w (RdPost d0 w X x (y.phead m).1 (.tuple #[.agg (y.phead m).2.1.cells.toArray, .agg (pf (y.phead m).2.2).toArray])) := by
  suffices H : Calls Tryz.prog 33 #[.pointer (some ⟨X, 0, none⟩)] w (RdPost w.heap.size w X x (y.phead m).1 (.tuple #[.agg (y.phead m).2.1.cells.toArray, .agg (pf (y.phead m).2.2).toArray])) from H.mono fun e w' hh => ⟨hh.1, hh.2.1.to h, hh.2.2⟩
  have PX := Hi ((h.self.alloc (.cells #[.int .i64 0, .int .i64 0, .int .i64 0, .int .i64 0, .int .i64 0] 95)).alloc (.cells #[.int .i64 0, .int .i64 0, .int .i64 0] 36))
  have O2 := Hi ((obj1_new w #[.int .i64 0, .int .i64 0, .int .i64 0, .int .i64 0, .int .i64 0] 95).alloc (.cells #[.int .i64 0, .int .i64 0, .int .i64 0] 36))
  have O3 := Hi (obj1_new (w.alloc (.cells #[.int .i64 0, .int .i64 0, .int .i64 0, .int .i64 0, .int .i64 0] 95)) #[.int .i64 0, .int .i64 0, .int .i64 0] 36)
  have CH := Hi (((Chg.refl (two X x) w).alloc (.cells #[.int .i64 0, .int .i64 0, .int .i64 0, .int .i64 0, .int .i64 0] 95)).alloc (.cells #[.int .i64 0, .int .i64 0, .int .i64 0] 36))
  obtain ⟨R, hR⟩ : ∃ R, y.phead m = R := ⟨_, rfl⟩
  rw [hR]
  unfold Sr.phead at hR
  have HRE := Hi hR
  obtain ⟨d, hd⟩ : ∃ d, w.heap.size = d := ⟨_, rfl⟩
  have HDe := Hi hd
  rw [show (w.alloc (.cells #[.int .i64 0, .int .i64 0, .int .i64 0, .int .i64 0, .int .i64 0] 95)).heap.size = d + 1 by rw [← hd]; simp] at O3
  rw [hd] at PX O2 ⊢
  have HKC := Hi (fun d w0 (h0 : Rdr d w0 X x y m) => kind_any h0)
  have HKZ := Hi (kind_zero y m)
  clear h hR
  go_enter Tryz.func33, Tryz.ntmps33
  go_upto_region 1 with (fail)
  clear hd
  generalize World.alloc (World.alloc _ _) _ = wr at PX O2 O3 CH ⊢
  obtain ⟨b4, hb4⟩ : ∃ b, wr.heap.size = b := ⟨_, rfl⟩
  have lzb4 := O3.out.lt
  have O4 := Hi (obj1_new wr #[.int .i64 0, .int .i64 0, .int .i64 0, .int .i64 0, .int .i64 0] 95)
  rw [hb4] at O4 lzb4
  have PX := Hi (PX.out.alloc (.cells #[.int .i64 0, .int .i64 0, .int .i64 0, .int .i64 0, .int .i64 0] 95))
  have CH := Hi (CH.out.alloc (.cells #[.int .i64 0, .int .i64 0, .int .i64 0, .int .i64 0, .int .i64 0] 95))
  have O2 := Hi (O2.out.alloc (.cells #[.int .i64 0, .int .i64 0, .int .i64 0, .int .i64 0, .int .i64 0] 95))
  have O3 := Hi (O3.out.alloc (.cells #[.int .i64 0, .int .i64 0, .int .i64 0, .int .i64 0, .int .i64 0] 95))
  go_upto_region 2 with (first
    | (refine store_o rfl 95 5 _ _ rfl (b4) (ph5L 0 0 0 1 0) rfl rfl (by kernel_rfl) (by kernel_rfl) (by kernel_rfl) O4.out (by first | rfl | simp) ?_; intro w4 hst hO; have O4 := Hi hO; have O2 := Hi (hst.oth O2.out (by omega)); have O3 := Hi (hst.oth O3.out (by omega)); have PX := Hi (PX.out.into hst (by omega)); have CH := Hi (Stored.chg hst CH.out (by have := HDe.out; omega)); clear hst hO))
  clear hb4
  obtain ⟨b5, hb5⟩ : ∃ b, w4.heap.size = b := ⟨_, rfl⟩
  have lzb5 := O4.out.lt
  have O5 := Hi (obj1_new w4 #[.int .i64 0, .int .i64 0, .int .i64 0] 36)
  rw [hb5] at O5 lzb5
  have PX := Hi (PX.out.alloc (.cells #[.int .i64 0, .int .i64 0, .int .i64 0] 36))
  have CH := Hi (CH.out.alloc (.cells #[.int .i64 0, .int .i64 0, .int .i64 0] 36))
  have O2 := Hi (O2.out.alloc (.cells #[.int .i64 0, .int .i64 0, .int .i64 0] 36))
  have O3 := Hi (O3.out.alloc (.cells #[.int .i64 0, .int .i64 0, .int .i64 0] 36))
  have O4 := Hi (O4.out.alloc (.cells #[.int .i64 0, .int .i64 0, .int .i64 0] 36))
  go_upto_region 3 with (fail)
  clear hb5
  generalize World.alloc w4 _ = w5 at PX CH O2 O3 O4 O5 ⊢
  obtain ⟨⟨⟨z, n⟩, ⟨k, F⟩⟩, hQ⟩ : ∃ q, y.kind m = q := ⟨_, rfl⟩
  rw [hQ] at HKC HKZ HRE
  replace HRE := Hi (show (if F.1 ≠ 0 then ((z, n), ((⟨0, 0, 0, 0, 0⟩ : PH), F)) else ph1 k z n) = R from HRE.out)
  clear hQ HKZ
  go_wp2_with fail
  with_reducible refine (HKC.out _ _ PX.out).mono ?_
  rintro e w6 ⟨rfl, hp1, hc1⟩
  have O2 := Hi (hc1.obj O2.out (not_two PX.out (by omega)))
  have O3 := Hi (hc1.obj O3.out (not_two PX.out (by omega)))
  have O4 := Hi (hc1.obj O4.out (not_two PX.out (by omega)))
  have O5 := Hi (hc1.obj O5.out (not_two PX.out (by omega)))
  have PX := Hi hp1
  have CH := Hi (CH.out.trans hc1)
  clear hp1 hc1
  go_upto_region 4 with (first
    | (refine store_c rfl 3 _ _ rfl (b4) 0 (.int .i64 k) rfl rfl (by kernel_rfl) (by kernel_rfl) (by kernel_rfl) O4.out (show 0 < 5 by decide) (cs' := List.toArray (ph5L k 0 0 1 0)) rfl ?_; intro ws hst hO; have O4 := Hi hO; have O2 := Hi (hst.oth O2.out (by omega)); have O3 := Hi (hst.oth O3.out (by omega)); have O5 := Hi (hst.oth O5.out (by omega)); have PX := Hi (PX.out.into hst (by omega)); have CH := Hi (Stored.chg hst CH.out (by have := HDe.out; omega)); clear hst hO)
    | (refine store_o rfl 36 3 _ _ rfl (b5) (pf F) rfl rfl (by kernel_rfl) (by kernel_rfl) (by kernel_rfl) O5.out (by first | rfl | simp) ?_; intro ws hst hO; have O5 := Hi hO; have O2 := Hi (hst.oth O2.out (by omega)); have O3 := Hi (hst.oth O3.out (by omega)); have O4 := Hi (hst.oth O4.out (by omega)); have PX := Hi (PX.out.into hst (by omega)); have CH := Hi (Stored.chg hst CH.out (by have := HDe.out; omega)); clear hst hO))
  have c0 := (O5.out.cell 0).trans (show _ = some (.int .i64 F.1) from rfl)
  obtain ⟨f1, hf1⟩ : ∃ k0, F.1 = k0 := ⟨_, rfl⟩
  rw [hf1] at c0
  by_cases hk : f1 = 0
  rotate_left
  · have g1 : (f1 != 0) = true := by rw [bne_iff_ne]; exact hk
    have E := Hi (show R = ((z, n), (⟨0, 0, 0, 0, 0⟩, F)) by have := HRE.out; rw [if_pos (by rw [hf1]; exact hk)] at this; exact this.symm)
    clear hk hf1
    go_upto_region 5 with (fail)
    refine wp_region_noPanic ?_
    refine wp_region_held_drew (S := fun w' => w'.rangeAt (b5) 0 (pf F)) (by kernel_rfl) (Obj1.range0 (cs := (pf F)) O5.out) (fun hHeld => ?_)
    refine wpAnyH_take (i := 0) (v := .agg (List.toArray [.int .i64 0, .int .i64 0, .int .i64 0, .int .i64 0, .int .i64 0])) rfl (by kernel_rfl) (by kernel_rfl) (by kernel_rfl) (fun _ _ _ h => h) (Or.inl ⟨by rfl, fun w hS => by go_simp⟩) hHeld ?_
    simp only [Act.put, zq1, zq2, zq3, zq4, zq5, zq6]
    refine wpAnyH_take (i := 1) rfl (by kernel_rfl) (by kernel_rfl) (by kernel_rfl) (fun _ _ _ h => h) (yieldsIf_load_mid (by rfl) 36 _ rfl (b5) 0 rfl (pf F) _ (fun _ h => h) Tryz.underlying36 rfl (by kernel_rfl)) hHeld ?_
    simp only [Act.put, zq1, zq2, zq3, zq4, zq5, zq6]
    have PX := Hi (PX.out.drew1)
    have CH := Hi (CH.out.drew)
    have O2 := Hi (O2.out.drew)
    have O3 := Hi (O3.out.drew)
    have O4 := Hi (O4.out.drew)
    have O5 := Hi (O5.out.drew)
    generalize World.drew _ = wk at PX CH O2 O3 O4 O5 ⊢
    refine wpAnyH_ready (rs := [2]) (by kernel_rfl) (by simp) ?_
    refine AllReadyH.cons (o := _) rfl (fun K' hK => ?_) AllReadyH.nil
    rw [if_pos (by rfl)]
    refine wp_store_mid 95 _ _ rfl (d) 0 (List.toArray [.int .i64 0, .int .i64 0, .int .i64 0, .int .i64 0, .int .i64 0]) rfl rfl (O2.out.there 0 5 (by first | exact Nat.le_refl _ | simp)) (by kernel_rfl) (all_oneCell_toArray (List.all_eq_true.1 (by rfl))) ?_
    simp only [Act.put, zq1, zq2, zq3, zq4, zq5, zq6]
    have hst : Stored wk (d) 0 [.int .i64 0, .int .i64 0, .int .i64 0, .int .i64 0, .int .i64 0] (wk.setCells (d) 0 [.int .i64 0, .int .i64 0, .int .i64 0, .int .i64 0, .int .i64 0]) := rfl
    have O2 := Hi (hst.whole O2.out (by first | rfl | simp))
    have O3 := Hi (hst.oth O3.out (by omega))
    have O4 := Hi (hst.oth O4.out (by omega))
    have O5 := Hi (hst.oth O5.out (by omega))
    have PX := Hi (PX.out.into hst (by omega))
    have CH := Hi (Stored.chg hst CH.out (by have := HDe.out; omega))
    generalize World.setCells _ _ _ _ = wk2 at PX CH O2 O3 O4 O5 ⊢
    clear hst
    refine hK _ _ (Obj1.range0 (cs := (pf F)) O5.out) (fun hH1 => ?_)
    clear hK K'
    obtain ⟨wk, rfl⟩ : ∃ z, z = wk2 := ⟨_, rfl⟩
    refine wpAnyH_ready (rs := [3]) (by kernel_rfl) (by simp) ?_
    refine AllReadyH.cons (o := _) rfl (fun K' hK => ?_) AllReadyH.nil
    rw [if_pos (by rfl)]
    refine wp_store_mid 36 _ _ rfl (d + 1) 0 (List.toArray (pf F)) rfl rfl (O3.out.there 0 3 (by first | exact Nat.le_refl _ | simp)) (by kernel_rfl) (all_oneCell_toArray (List.all_eq_true.1 (by rfl))) ?_
    simp only [Act.put, zq1, zq2, zq3, zq4, zq5, zq6]
    have hst : Stored wk (d + 1) 0 (pf F) (wk.setCells (d + 1) 0 (pf F)) := rfl
    have O3 := Hi (hst.whole O3.out (by first | rfl | simp))
    have O2 := Hi (hst.oth O2.out (by omega))
    have O4 := Hi (hst.oth O4.out (by omega))
    have O5 := Hi (hst.oth O5.out (by omega))
    have PX := Hi (PX.out.into hst (by omega))
    have CH := Hi (Stored.chg hst CH.out (by have := HDe.out; omega))
    generalize World.setCells _ _ _ _ = wk2 at PX CH O2 O3 O4 O5 ⊢
    clear hst
    refine hK _ _ (Obj1.range0 (cs := (pf F)) O5.out) (fun hH2 => ?_)
    clear hK K'
    obtain ⟨wk, rfl⟩ : ∃ z, z = wk2 := ⟨_, rfl⟩
    refine wpAnyH_done (by kernel_rfl) ?_ _
    refine NoPanic.normal ?_
    go_wp2_with fail
    refine bodyPost_ret (v := .tuple #[.agg (List.toArray ([.int .i64 0, .int .i64 0, .int .i64 0, .int .i64 0, .int .i64 0])), .agg (List.toArray (pf F))]) ?_ rfl ⟨by rw [E.out]; rfl, by rw [E.out]; exact PX.out, CH.out⟩
    exact results_cc Tryz.results33 _ _ _ _ ([.int .i64 0, .int .i64 0, .int .i64 0, .int .i64 0, .int .i64 0]) (pf F) _ _ rfl O2.out.range0 Tryz.underlying95 rfl (by kernel_rfl) rfl O3.out.range0 Tryz.underlying36 rfl (by kernel_rfl)
  have g1 : (f1 != 0) = false := by rw [hk]; rfl
  replace HRE := Hi (show ph1 k z n = R by have := HRE.out; rw [if_neg (by rw [hf1, hk]; decide)] at this; exact this)
  clear hk hf1
  go_upto_region 6 with (fail)
  clear c0 g1
  unfold ph1 at HRE
  go_upto_region 7 with (fail)
  refine wp_loop_rounds 3 ?_
  rw [rounds_succ]
  have HN := Hi (fun d w0 (h0 : Rdr d w0 X x z n) => hnum_any h0 16384 3 (by decide))
  obtain ⟨⟨⟨z1, n1⟩, ⟨W, F1⟩⟩, hQ⟩ : ∃ q, z.hnum n 16384 3 = q := ⟨_, rfl⟩
  rw [hQ] at HN HRE
  replace HRE := Hi (show (if F1.1 ≠ 0 then ((z1, n1), ((⟨0, 0, 0, 0, 0⟩ : PH), F1)) else ph2 k W z1 n1) = R from HRE.out)
  clear hQ
  have i0 := fun w0 => pidx0 b4 w0
  go_wp2_with fail
  clear i0
  with_reducible refine (HN.out _ _ PX.out).mono ?_
  rintro e w7 ⟨rfl, hp1, hc1⟩
  have O2 := Hi (hc1.obj O2.out (not_two PX.out (by omega)))
  have O3 := Hi (hc1.obj O3.out (not_two PX.out (by omega)))
  have O4 := Hi (hc1.obj O4.out (not_two PX.out (by omega)))
  have O5 := Hi (hc1.obj O5.out (not_two PX.out (by omega)))
  have PX := Hi hp1
  have CH := Hi (CH.out.trans hc1)
  clear hp1 hc1
  go_upto_region 10 with (first
    | (refine store_c rfl 3 _ _ rfl (b4) 1 (.int .i64 W) rfl rfl (by kernel_rfl) (by kernel_rfl) (by kernel_rfl) O4.out (show 1 < 5 by decide) (cs' := List.toArray (ph5L k W 0 1 0)) rfl ?_; intro ws hst hO; have O4 := Hi hO; have O2 := Hi (hst.oth O2.out (by omega)); have O3 := Hi (hst.oth O3.out (by omega)); have O5 := Hi (hst.oth O5.out (by omega)); have PX := Hi (PX.out.into hst (by omega)); have CH := Hi (Stored.chg hst CH.out (by have := HDe.out; omega)); clear hst hO)
    | (refine store_o rfl 36 3 _ _ rfl (b5) (pf F1) rfl rfl (by kernel_rfl) (by kernel_rfl) (by kernel_rfl) O5.out (by first | rfl | simp) ?_; intro ws hst hO; have O5 := Hi hO; have O2 := Hi (hst.oth O2.out (by omega)); have O3 := Hi (hst.oth O3.out (by omega)); have O4 := Hi (hst.oth O4.out (by omega)); have PX := Hi (PX.out.into hst (by omega)); have CH := Hi (Stored.chg hst CH.out (by have := HDe.out; omega)); clear hst hO))
  clear HN
  have c0 := (O5.out.cell 0).trans (show _ = some (.int .i64 F1.1) from rfl)
  obtain ⟨f2, hf2⟩ : ∃ k0, F1.1 = k0 := ⟨_, rfl⟩
  rw [hf2] at c0
  by_cases hk : f2 = 0
  rotate_left
  · have g1 : (f2 != 0) = true := by rw [bne_iff_ne]; exact hk
    have E := Hi (show R = ((z1, n1), (⟨0, 0, 0, 0, 0⟩, F1)) by have := HRE.out; rw [if_pos (by rw [hf2]; exact hk)] at this; exact this.symm)
    clear hk hf2
    go_upto_region 11 with (fail)
    refine wp_region_noPanic ?_
    refine wp_region_held_drew (S := fun w' => w'.rangeAt (b5) 0 (pf F1)) (by kernel_rfl) (Obj1.range0 (cs := (pf F1)) O5.out) (fun hHeld => ?_)
    refine wpAnyH_take (i := 0) (v := .agg (List.toArray [.int .i64 0, .int .i64 0, .int .i64 0, .int .i64 0, .int .i64 0])) rfl (by kernel_rfl) (by kernel_rfl) (by kernel_rfl) (fun _ _ _ h => h) (Or.inl ⟨by rfl, fun w hS => by go_simp⟩) hHeld ?_
    simp only [Act.put, zq1, zq2, zq3, zq4, zq5, zq6]
    refine wpAnyH_take (i := 1) rfl (by kernel_rfl) (by kernel_rfl) (by kernel_rfl) (fun _ _ _ h => h) (yieldsIf_load_mid (by rfl) 36 _ rfl (b5) 0 rfl (pf F1) _ (fun _ h => h) Tryz.underlying36 rfl (by kernel_rfl)) hHeld ?_
    simp only [Act.put, zq1, zq2, zq3, zq4, zq5, zq6]
    have PX := Hi (PX.out.drew1)
    have CH := Hi (CH.out.drew)
    have O2 := Hi (O2.out.drew)
    have O3 := Hi (O3.out.drew)
    have O4 := Hi (O4.out.drew)
    have O5 := Hi (O5.out.drew)
    generalize World.drew _ = wk at PX CH O2 O3 O4 O5 ⊢
    refine wpAnyH_ready (rs := [2]) (by kernel_rfl) (by simp) ?_
    refine AllReadyH.cons (o := _) rfl (fun K' hK => ?_) AllReadyH.nil
    rw [if_pos (by rfl)]
    refine wp_store_mid 95 _ _ rfl (d) 0 (List.toArray [.int .i64 0, .int .i64 0, .int .i64 0, .int .i64 0, .int .i64 0]) rfl rfl (O2.out.there 0 5 (by first | exact Nat.le_refl _ | simp)) (by kernel_rfl) (all_oneCell_toArray (List.all_eq_true.1 (by rfl))) ?_
    simp only [Act.put, zq1, zq2, zq3, zq4, zq5, zq6]
    have hst : Stored wk (d) 0 [.int .i64 0, .int .i64 0, .int .i64 0, .int .i64 0, .int .i64 0] (wk.setCells (d) 0 [.int .i64 0, .int .i64 0, .int .i64 0, .int .i64 0, .int .i64 0]) := rfl
    have O2 := Hi (hst.whole O2.out (by first | rfl | simp))
    have O3 := Hi (hst.oth O3.out (by omega))
    have O4 := Hi (hst.oth O4.out (by omega))
    have O5 := Hi (hst.oth O5.out (by omega))
    have PX := Hi (PX.out.into hst (by omega))
    have CH := Hi (Stored.chg hst CH.out (by have := HDe.out; omega))
    generalize World.setCells _ _ _ _ = wk2 at PX CH O2 O3 O4 O5 ⊢
    clear hst
    refine hK _ _ (Obj1.range0 (cs := (pf F1)) O5.out) (fun hH1 => ?_)
    clear hK K'
    obtain ⟨wk, rfl⟩ : ∃ z, z = wk2 := ⟨_, rfl⟩
    refine wpAnyH_ready (rs := [3]) (by kernel_rfl) (by simp) ?_
    refine AllReadyH.cons (o := _) rfl (fun K' hK => ?_) AllReadyH.nil
    rw [if_pos (by rfl)]
    refine wp_store_mid 36 _ _ rfl (d + 1) 0 (List.toArray (pf F1)) rfl rfl (O3.out.there 0 3 (by first | exact Nat.le_refl _ | simp)) (by kernel_rfl) (all_oneCell_toArray (List.all_eq_true.1 (by rfl))) ?_
    simp only [Act.put, zq1, zq2, zq3, zq4, zq5, zq6]
    have hst : Stored wk (d + 1) 0 (pf F1) (wk.setCells (d + 1) 0 (pf F1)) := rfl
    have O3 := Hi (hst.whole O3.out (by first | rfl | simp))
    have O2 := Hi (hst.oth O2.out (by omega))
    have O4 := Hi (hst.oth O4.out (by omega))
    have O5 := Hi (hst.oth O5.out (by omega))
    have PX := Hi (PX.out.into hst (by omega))
    have CH := Hi (Stored.chg hst CH.out (by have := HDe.out; omega))
    generalize World.setCells _ _ _ _ = wk2 at PX CH O2 O3 O4 O5 ⊢
    clear hst
    refine hK _ _ (Obj1.range0 (cs := (pf F1)) O5.out) (fun hH2 => ?_)
    clear hK K'
    obtain ⟨wk, rfl⟩ : ∃ z, z = wk2 := ⟨_, rfl⟩
    refine wpAnyH_done (by kernel_rfl) ?_ _
    refine NoPanic.normal ?_
    go_wp2_with fail
    refine bodyPost_ret (v := .tuple #[.agg (List.toArray ([.int .i64 0, .int .i64 0, .int .i64 0, .int .i64 0, .int .i64 0])), .agg (List.toArray (pf F1))]) ?_ rfl ⟨by rw [E.out]; rfl, by rw [E.out]; exact PX.out, CH.out⟩
    exact results_cc Tryz.results33 _ _ _ _ ([.int .i64 0, .int .i64 0, .int .i64 0, .int .i64 0, .int .i64 0]) (pf F1) _ _ rfl O2.out.range0 Tryz.underlying95 rfl (by kernel_rfl) rfl O3.out.range0 Tryz.underlying36 rfl (by kernel_rfl)
  have g1 : (f2 != 0) = false := by rw [hk]; rfl
  replace HRE := Hi (show ph2 k W z1 n1 = R by have := HRE.out; rw [if_neg (by rw [hf2, hk]; decide)] at this; exact this)
  clear hk hf2
  go_upto_region 12 with (fail)
  clear c0 g1
  unfold ph2 at HRE
  go_wp2_with fail
  try rw [rounds_succ]
  go_upto_region 8 with (fail)
  have HN := Hi (fun d w0 (h0 : Rdr d w0 X x z1 n1) => hnum_any h0 16384 3 (by decide))
  obtain ⟨⟨⟨z2, n2⟩, ⟨H, F2⟩⟩, hQ⟩ : ∃ q, z1.hnum n1 16384 3 = q := ⟨_, rfl⟩
  rw [hQ] at HN HRE
  replace HRE := Hi (show (if F2.1 ≠ 0 then ((z2, n2), ((⟨0, 0, 0, 0, 0⟩ : PH), F2)) else ph3 k W H z2 n2) = R from HRE.out)
  clear hQ
  have i0 := fun w0 => pidx1 b4 w0
  go_wp2_with fail
  clear i0
  with_reducible refine (HN.out _ _ PX.out).mono ?_
  rintro e w8 ⟨rfl, hp1, hc1⟩
  have O2 := Hi (hc1.obj O2.out (not_two PX.out (by omega)))
  have O3 := Hi (hc1.obj O3.out (not_two PX.out (by omega)))
  have O4 := Hi (hc1.obj O4.out (not_two PX.out (by omega)))
  have O5 := Hi (hc1.obj O5.out (not_two PX.out (by omega)))
  have PX := Hi hp1
  have CH := Hi (CH.out.trans hc1)
  clear hp1 hc1
  go_upto_region 10 with (first
    | (refine store_c rfl 3 _ _ rfl (b4) 2 (.int .i64 H) rfl rfl (by kernel_rfl) (by kernel_rfl) (by kernel_rfl) O4.out (show 2 < 5 by decide) (cs' := List.toArray (ph5L k W H 1 0)) rfl ?_; intro ws hst hO; have O4 := Hi hO; have O2 := Hi (hst.oth O2.out (by omega)); have O3 := Hi (hst.oth O3.out (by omega)); have O5 := Hi (hst.oth O5.out (by omega)); have PX := Hi (PX.out.into hst (by omega)); have CH := Hi (Stored.chg hst CH.out (by have := HDe.out; omega)); clear hst hO)
    | (refine store_o rfl 36 3 _ _ rfl (b5) (pf F2) rfl rfl (by kernel_rfl) (by kernel_rfl) (by kernel_rfl) O5.out (by first | rfl | simp) ?_; intro ws hst hO; have O5 := Hi hO; have O2 := Hi (hst.oth O2.out (by omega)); have O3 := Hi (hst.oth O3.out (by omega)); have O4 := Hi (hst.oth O4.out (by omega)); have PX := Hi (PX.out.into hst (by omega)); have CH := Hi (Stored.chg hst CH.out (by have := HDe.out; omega)); clear hst hO))
  clear HN
  have c0 := (O5.out.cell 0).trans (show _ = some (.int .i64 F2.1) from rfl)
  obtain ⟨f3, hf3⟩ : ∃ k0, F2.1 = k0 := ⟨_, rfl⟩
  rw [hf3] at c0
  by_cases hk : f3 = 0
  rotate_left
  · have g1 : (f3 != 0) = true := by rw [bne_iff_ne]; exact hk
    have E := Hi (show R = ((z2, n2), (⟨0, 0, 0, 0, 0⟩, F2)) by have := HRE.out; rw [if_pos (by rw [hf3]; exact hk)] at this; exact this.symm)
    clear hk hf3
    go_upto_region 11 with (fail)
    refine wp_region_noPanic ?_
    refine wp_region_held_drew (S := fun w' => w'.rangeAt (b5) 0 (pf F2)) (by kernel_rfl) (Obj1.range0 (cs := (pf F2)) O5.out) (fun hHeld => ?_)
    refine wpAnyH_take (i := 0) (v := .agg (List.toArray [.int .i64 0, .int .i64 0, .int .i64 0, .int .i64 0, .int .i64 0])) rfl (by kernel_rfl) (by kernel_rfl) (by kernel_rfl) (fun _ _ _ h => h) (Or.inl ⟨by rfl, fun w hS => by go_simp⟩) hHeld ?_
    simp only [Act.put, zq1, zq2, zq3, zq4, zq5, zq6]
    refine wpAnyH_take (i := 1) rfl (by kernel_rfl) (by kernel_rfl) (by kernel_rfl) (fun _ _ _ h => h) (yieldsIf_load_mid (by rfl) 36 _ rfl (b5) 0 rfl (pf F2) _ (fun _ h => h) Tryz.underlying36 rfl (by kernel_rfl)) hHeld ?_
    simp only [Act.put, zq1, zq2, zq3, zq4, zq5, zq6]
    have PX := Hi (PX.out.drew1)
    have CH := Hi (CH.out.drew)
    have O2 := Hi (O2.out.drew)
    have O3 := Hi (O3.out.drew)
    have O4 := Hi (O4.out.drew)
    have O5 := Hi (O5.out.drew)
    generalize World.drew _ = wk at PX CH O2 O3 O4 O5 ⊢
    refine wpAnyH_ready (rs := [2]) (by kernel_rfl) (by simp) ?_
    refine AllReadyH.cons (o := _) rfl (fun K' hK => ?_) AllReadyH.nil
    rw [if_pos (by rfl)]
    refine wp_store_mid 95 _ _ rfl (d) 0 (List.toArray [.int .i64 0, .int .i64 0, .int .i64 0, .int .i64 0, .int .i64 0]) rfl rfl (O2.out.there 0 5 (by first | exact Nat.le_refl _ | simp)) (by kernel_rfl) (all_oneCell_toArray (List.all_eq_true.1 (by rfl))) ?_
    simp only [Act.put, zq1, zq2, zq3, zq4, zq5, zq6]
    have hst : Stored wk (d) 0 [.int .i64 0, .int .i64 0, .int .i64 0, .int .i64 0, .int .i64 0] (wk.setCells (d) 0 [.int .i64 0, .int .i64 0, .int .i64 0, .int .i64 0, .int .i64 0]) := rfl
    have O2 := Hi (hst.whole O2.out (by first | rfl | simp))
    have O3 := Hi (hst.oth O3.out (by omega))
    have O4 := Hi (hst.oth O4.out (by omega))
    have O5 := Hi (hst.oth O5.out (by omega))
    have PX := Hi (PX.out.into hst (by omega))
    have CH := Hi (Stored.chg hst CH.out (by have := HDe.out; omega))
    generalize World.setCells _ _ _ _ = wk2 at PX CH O2 O3 O4 O5 ⊢
    clear hst
    refine hK _ _ (Obj1.range0 (cs := (pf F2)) O5.out) (fun hH1 => ?_)
    clear hK K'
    obtain ⟨wk, rfl⟩ : ∃ z, z = wk2 := ⟨_, rfl⟩
    refine wpAnyH_ready (rs := [3]) (by kernel_rfl) (by simp) ?_
    refine AllReadyH.cons (o := _) rfl (fun K' hK => ?_) AllReadyH.nil
    rw [if_pos (by rfl)]
    refine wp_store_mid 36 _ _ rfl (d + 1) 0 (List.toArray (pf F2)) rfl rfl (O3.out.there 0 3 (by first | exact Nat.le_refl _ | simp)) (by kernel_rfl) (all_oneCell_toArray (List.all_eq_true.1 (by rfl))) ?_
    simp only [Act.put, zq1, zq2, zq3, zq4, zq5, zq6]
    have hst : Stored wk (d + 1) 0 (pf F2) (wk.setCells (d + 1) 0 (pf F2)) := rfl
    have O3 := Hi (hst.whole O3.out (by first | rfl | simp))
    have O2 := Hi (hst.oth O2.out (by omega))
    have O4 := Hi (hst.oth O4.out (by omega))
    have O5 := Hi (hst.oth O5.out (by omega))
    have PX := Hi (PX.out.into hst (by omega))
    have CH := Hi (Stored.chg hst CH.out (by have := HDe.out; omega))
    generalize World.setCells _ _ _ _ = wk2 at PX CH O2 O3 O4 O5 ⊢
    clear hst
    refine hK _ _ (Obj1.range0 (cs := (pf F2)) O5.out) (fun hH2 => ?_)
    clear hK K'
    obtain ⟨wk, rfl⟩ : ∃ z, z = wk2 := ⟨_, rfl⟩
    refine wpAnyH_done (by kernel_rfl) ?_ _
    refine NoPanic.normal ?_
    go_wp2_with fail
    refine bodyPost_ret (v := .tuple #[.agg (List.toArray ([.int .i64 0, .int .i64 0, .int .i64 0, .int .i64 0, .int .i64 0])), .agg (List.toArray (pf F2))]) ?_ rfl ⟨by rw [E.out]; rfl, by rw [E.out]; exact PX.out, CH.out⟩
    exact results_cc Tryz.results33 _ _ _ _ ([.int .i64 0, .int .i64 0, .int .i64 0, .int .i64 0, .int .i64 0]) (pf F2) _ _ rfl O2.out.range0 Tryz.underlying95 rfl (by kernel_rfl) rfl O3.out.range0 Tryz.underlying36 rfl (by kernel_rfl)
  have g1 : (f3 != 0) = false := by rw [hk]; rfl
  replace HRE := Hi (show ph3 k W H z2 n2 = R by have := HRE.out; rw [if_neg (by rw [hf3, hk]; decide)] at this; exact this)
  clear hk hf3
  go_upto_region 12 with (fail)
  clear c0 g1
  have HRE := Hi (show (if pbitB k = true then ph4 k W H 1 z2 n2
  else if (z2.hnum n2 65535 2).2.2.1 ≠ 0 then ((z2.hnum n2 65535 2).1, ((⟨0, 0, 0, 0, 0⟩ : PH), (z2.hnum n2 65535 2).2.2))
  else ph4 k W H (z2.hnum n2 65535 2).2.1 (z2.hnum n2 65535 2).1.1 (z2.hnum n2 65535 2).1.2) = R from HRE.out)
  have HBI := Hi (fun w0 => pbit_any k w0)
  have HTX := Hi (fun w0 => ptxt_any k w0)
  have q0 := (O4.out.cell 0).trans (show _ = some (.int .i64 k) from rfl)
  go_wp2_with fail
  rw [rounds_succ]
  go_wp2_with fail
  with_reducible refine (HBI.out _).mono ?_
  rintro e w9 ⟨rfl, rfl⟩
  clear HBI q0
  obtain ⟨g, hg⟩ : ∃ g, pbitB k = g := ⟨_, rfl⟩
  rw [hg] at HRE ⊢
  clear hg
  cases g with
  | true =>
    replace HRE := Hi (show ph4 k W H 1 z2 n2 = R by have := HRE.out; rw [if_pos rfl] at this; exact this)
    have HRE := Hi (show (if ptxtB k = true then ((z2, n2), ((⟨k, W, H, 1, z2.p⟩ : PH), ((0 : Int), (0 : Int)))) else if (z2.one n2).2.1 ≠ 0 then ((z2.one n2).1, (⟨0, 0, 0, 0, 0⟩, (z2.one n2).2)) else ((z2.one n2).1, (⟨k, W, H, 1, (z2.one n2).1.1.p⟩, (0, 0)))) = R from HRE.out)
    have q0 := (O4.out.cell 0).trans (show _ = some (.int .i64 k) from rfl)
    go_wp2_with fail
    with_reducible refine (HTX.out _).mono ?_
    rintro e w10 ⟨rfl, rfl⟩
    clear HTX q0
    obtain ⟨g, hg⟩ : ∃ g, ptxtB k = g := ⟨_, rfl⟩
    rw [hg] at HRE ⊢
    clear hg
    cases g with
    | true =>
      replace HRE := Hi (show ((z2, n2), ((⟨k, W, H, 1, z2.p⟩ : PH), ((0 : Int), (0 : Int)))) = R by have := HRE.out; rw [if_pos rfl] at this; exact this)
      have E := Hi HRE.out.symm
      go_upto_region 22 with (first
        | ((go_at_call 48; (with_reducible refine (rd_at PX.out).mono ?_); rintro e ws1 ⟨rfl, rfl⟩))
        | (refine store_c rfl 3 _ _ rfl (b4) 4 (.int .i64 (z2.p : Int)) rfl rfl (by kernel_rfl) (by kernel_rfl) (by kernel_rfl) O4.out (show 4 < 5 by decide) (cs' := List.toArray (ph5L k W H 1 (z2.p : Int))) rfl ?_; intro ws hst hO; have O4 := Hi hO; have O2 := Hi (hst.oth O2.out (by omega)); have O3 := Hi (hst.oth O3.out (by omega)); have O5 := Hi (hst.oth O5.out (by omega)); have PX := Hi (PX.out.into hst (by omega)); have CH := Hi (Stored.chg hst CH.out (by have := HDe.out; omega)); clear hst hO))
      go_wp2_with (first
        | (refine load_u (by kernel_rfl) 95 5 _ rfl (b4) (ph5L k W H 1 (z2.p : Int)) rfl rfl O4.out Tryz.underlying95 rfl (by kernel_rfl) ?_; intro _)
        | (refine store_o rfl 95 5 _ _ rfl (d) (ph5L k W H 1 (z2.p : Int)) rfl rfl (by kernel_rfl) (by kernel_rfl) (by kernel_rfl) O2.out (by first | rfl | simp) ?_; intro ws hst hO; have O2 := Hi hO; have O3 := Hi (hst.oth O3.out (by omega)); have O4 := Hi (hst.oth O4.out (by omega)); have O5 := Hi (hst.oth O5.out (by omega)); have PX := Hi (PX.out.into hst (by omega)); have CH := Hi (Stored.chg hst CH.out (by have := HDe.out; omega)); clear hst hO)
        | (refine store_o rfl 36 3 _ _ rfl (d + 1) (pf (0, 0)) rfl rfl (by kernel_rfl) (by kernel_rfl) (by kernel_rfl) O3.out (by first | rfl | simp) ?_; intro ws hst hO; have O3 := Hi hO; have O2 := Hi (hst.oth O2.out (by omega)); have O4 := Hi (hst.oth O4.out (by omega)); have O5 := Hi (hst.oth O5.out (by omega)); have PX := Hi (PX.out.into hst (by omega)); have CH := Hi (Stored.chg hst CH.out (by have := HDe.out; omega)); clear hst hO))
      refine bodyPost_ret (v := .tuple #[.agg (List.toArray (ph5L k W H 1 (z2.p : Int))), .agg (List.toArray (pf (0, 0)))]) ?_ rfl ⟨by rw [E.out]; rfl, by rw [E.out]; exact PX.out, CH.out⟩
      exact results_cc Tryz.results33 _ _ _ _ (ph5L k W H 1 (z2.p : Int)) (pf (0, 0)) _ _ rfl O2.out.range0 Tryz.underlying95 rfl (by kernel_rfl) rfl O3.out.range0 Tryz.underlying36 rfl (by kernel_rfl)
    | false =>
      have HON := Hi (fun d w0 (h0 : Rdr d w0 X x z2 n2) => one_any h0)
      obtain ⟨⟨⟨z7, n7⟩, F7⟩, hQ⟩ : ∃ q, z2.one n2 = q := ⟨_, rfl⟩
      have HRE := Hi (show (if F7.1 ≠ 0 then ((z7, n7), ((⟨0, 0, 0, 0, 0⟩ : PH), F7)) else ((z7, n7), (⟨k, W, H, 1, (z7.p : Int)⟩, (0, 0)))) = R by have := HRE.out; rw [if_neg (by decide), hQ] at this; exact this)
      rw [hQ] at HON
      clear hQ
      go_wp2_with fail
      with_reducible refine (HON.out _ _ PX.out).mono ?_
      rintro e w11 ⟨rfl, hp1, hc1⟩
      have O2 := Hi (hc1.obj O2.out (not_two PX.out (by omega)))
      have O3 := Hi (hc1.obj O3.out (not_two PX.out (by omega)))
      have O4 := Hi (hc1.obj O4.out (not_two PX.out (by omega)))
      have O5 := Hi (hc1.obj O5.out (not_two PX.out (by omega)))
      have PX := Hi hp1
      have CH := Hi (CH.out.trans hc1)
      clear hp1 hc1
      go_upto_region 19 with (first
        | (refine store_o rfl 36 3 _ _ rfl (b5) (pf F7) rfl rfl (by kernel_rfl) (by kernel_rfl) (by kernel_rfl) O5.out (by first | rfl | simp) ?_; intro ws hst hO; have O5 := Hi hO; have O2 := Hi (hst.oth O2.out (by omega)); have O3 := Hi (hst.oth O3.out (by omega)); have O4 := Hi (hst.oth O4.out (by omega)); have PX := Hi (PX.out.into hst (by omega)); have CH := Hi (Stored.chg hst CH.out (by have := HDe.out; omega)); clear hst hO))
      clear HON
      have c0 := (O5.out.cell 0).trans (show _ = some (.int .i64 F7.1) from rfl)
      obtain ⟨f7, hf7⟩ : ∃ k0, F7.1 = k0 := ⟨_, rfl⟩
      rw [hf7] at c0
      by_cases hk : f7 = 0
      rotate_left
      · have g1 : (f7 != 0) = true := by rw [bne_iff_ne]; exact hk
        have E := Hi (show R = ((z7, n7), (⟨0, 0, 0, 0, 0⟩, F7)) by have := HRE.out; rw [if_pos (by rw [hf7]; exact hk)] at this; exact this.symm)
        clear hk hf7
        go_upto_region 20 with (fail)
        refine wp_region_noPanic ?_
        refine wp_region_held_drew (S := fun w' => w'.rangeAt (b5) 0 (pf F7)) (by kernel_rfl) (Obj1.range0 (cs := (pf F7)) O5.out) (fun hHeld => ?_)
        refine wpAnyH_take (i := 0) (v := .agg (List.toArray [.int .i64 0, .int .i64 0, .int .i64 0, .int .i64 0, .int .i64 0])) rfl (by kernel_rfl) (by kernel_rfl) (by kernel_rfl) (fun _ _ _ h => h) (Or.inl ⟨by rfl, fun w hS => by go_simp⟩) hHeld ?_
        simp only [Act.put, zq1, zq2, zq3, zq4, zq5, zq6]
        refine wpAnyH_take (i := 1) rfl (by kernel_rfl) (by kernel_rfl) (by kernel_rfl) (fun _ _ _ h => h) (yieldsIf_load_mid (by rfl) 36 _ rfl (b5) 0 rfl (pf F7) _ (fun _ h => h) Tryz.underlying36 rfl (by kernel_rfl)) hHeld ?_
        simp only [Act.put, zq1, zq2, zq3, zq4, zq5, zq6]
        have PX := Hi (PX.out.drew1)
        have CH := Hi (CH.out.drew)
        have O2 := Hi (O2.out.drew)
        have O3 := Hi (O3.out.drew)
        have O4 := Hi (O4.out.drew)
        have O5 := Hi (O5.out.drew)
        generalize World.drew _ = wk at PX CH O2 O3 O4 O5 ⊢
        refine wpAnyH_ready (rs := [2]) (by kernel_rfl) (by simp) ?_
        refine AllReadyH.cons (o := _) rfl (fun K' hK => ?_) AllReadyH.nil
        rw [if_pos (by rfl)]
        refine wp_store_mid 95 _ _ rfl (d) 0 (List.toArray [.int .i64 0, .int .i64 0, .int .i64 0, .int .i64 0, .int .i64 0]) rfl rfl (O2.out.there 0 5 (by first | exact Nat.le_refl _ | simp)) (by kernel_rfl) (all_oneCell_toArray (List.all_eq_true.1 (by rfl))) ?_
        simp only [Act.put, zq1, zq2, zq3, zq4, zq5, zq6]
        have hst : Stored wk (d) 0 [.int .i64 0, .int .i64 0, .int .i64 0, .int .i64 0, .int .i64 0] (wk.setCells (d) 0 [.int .i64 0, .int .i64 0, .int .i64 0, .int .i64 0, .int .i64 0]) := rfl
        have O2 := Hi (hst.whole O2.out (by first | rfl | simp))
        have O3 := Hi (hst.oth O3.out (by omega))
        have O4 := Hi (hst.oth O4.out (by omega))
        have O5 := Hi (hst.oth O5.out (by omega))
        have PX := Hi (PX.out.into hst (by omega))
        have CH := Hi (Stored.chg hst CH.out (by have := HDe.out; omega))
        generalize World.setCells _ _ _ _ = wk2 at PX CH O2 O3 O4 O5 ⊢
        clear hst
        refine hK _ _ (Obj1.range0 (cs := (pf F7)) O5.out) (fun hH1 => ?_)
        clear hK K'
        obtain ⟨wk, rfl⟩ : ∃ z, z = wk2 := ⟨_, rfl⟩
        refine wpAnyH_ready (rs := [3]) (by kernel_rfl) (by simp) ?_
        refine AllReadyH.cons (o := _) rfl (fun K' hK => ?_) AllReadyH.nil
        rw [if_pos (by rfl)]
        refine wp_store_mid 36 _ _ rfl (d + 1) 0 (List.toArray (pf F7)) rfl rfl (O3.out.there 0 3 (by first | exact Nat.le_refl _ | simp)) (by kernel_rfl) (all_oneCell_toArray (List.all_eq_true.1 (by rfl))) ?_
        simp only [Act.put, zq1, zq2, zq3, zq4, zq5, zq6]
        have hst : Stored wk (d + 1) 0 (pf F7) (wk.setCells (d + 1) 0 (pf F7)) := rfl
        have O3 := Hi (hst.whole O3.out (by first | rfl | simp))
        have O2 := Hi (hst.oth O2.out (by omega))
        have O4 := Hi (hst.oth O4.out (by omega))
        have O5 := Hi (hst.oth O5.out (by omega))
        have PX := Hi (PX.out.into hst (by omega))
        have CH := Hi (Stored.chg hst CH.out (by have := HDe.out; omega))
        generalize World.setCells _ _ _ _ = wk2 at PX CH O2 O3 O4 O5 ⊢
        clear hst
        refine hK _ _ (Obj1.range0 (cs := (pf F7)) O5.out) (fun hH2 => ?_)
        clear hK K'
        obtain ⟨wk, rfl⟩ : ∃ z, z = wk2 := ⟨_, rfl⟩
        refine wpAnyH_done (by kernel_rfl) ?_ _
        refine NoPanic.normal ?_
        go_wp2_with fail
        refine bodyPost_ret (v := .tuple #[.agg (List.toArray ([.int .i64 0, .int .i64 0, .int .i64 0, .int .i64 0, .int .i64 0])), .agg (List.toArray (pf F7))]) ?_ rfl ⟨by rw [E.out]; rfl, by rw [E.out]; exact PX.out, CH.out⟩
        exact results_cc Tryz.results33 _ _ _ _ ([.int .i64 0, .int .i64 0, .int .i64 0, .int .i64 0, .int .i64 0]) (pf F7) _ _ rfl O2.out.range0 Tryz.underlying95 rfl (by kernel_rfl) rfl O3.out.range0 Tryz.underlying36 rfl (by kernel_rfl)
      have g1 : (f7 != 0) = false := by rw [hk]; rfl
      replace HRE := Hi (show ((z7, n7), ((⟨k, W, H, 1, (z7.p : Int)⟩ : PH), ((0 : Int), (0 : Int)))) = R by have := HRE.out; rw [if_neg (by rw [hf7, hk]; decide)] at this; exact this)
      clear hk hf7
      go_upto_region 21 with (fail)
      clear c0 g1
      have E := Hi HRE.out.symm
      go_upto_region 22 with (first
        | ((go_at_call 48; (with_reducible refine (rd_at PX.out).mono ?_); rintro e ws1 ⟨rfl, rfl⟩))
        | (refine store_c rfl 3 _ _ rfl (b4) 4 (.int .i64 (z7.p : Int)) rfl rfl (by kernel_rfl) (by kernel_rfl) (by kernel_rfl) O4.out (show 4 < 5 by decide) (cs' := List.toArray (ph5L k W H 1 (z7.p : Int))) rfl ?_; intro ws hst hO; have O4 := Hi hO; have O2 := Hi (hst.oth O2.out (by omega)); have O3 := Hi (hst.oth O3.out (by omega)); have O5 := Hi (hst.oth O5.out (by omega)); have PX := Hi (PX.out.into hst (by omega)); have CH := Hi (Stored.chg hst CH.out (by have := HDe.out; omega)); clear hst hO))
      go_wp2_with (first
        | (refine load_u (by kernel_rfl) 95 5 _ rfl (b4) (ph5L k W H 1 (z7.p : Int)) rfl rfl O4.out Tryz.underlying95 rfl (by kernel_rfl) ?_; intro _)
        | (refine store_o rfl 95 5 _ _ rfl (d) (ph5L k W H 1 (z7.p : Int)) rfl rfl (by kernel_rfl) (by kernel_rfl) (by kernel_rfl) O2.out (by first | rfl | simp) ?_; intro ws hst hO; have O2 := Hi hO; have O3 := Hi (hst.oth O3.out (by omega)); have O4 := Hi (hst.oth O4.out (by omega)); have O5 := Hi (hst.oth O5.out (by omega)); have PX := Hi (PX.out.into hst (by omega)); have CH := Hi (Stored.chg hst CH.out (by have := HDe.out; omega)); clear hst hO)
        | (refine store_o rfl 36 3 _ _ rfl (d + 1) (pf (0, 0)) rfl rfl (by kernel_rfl) (by kernel_rfl) (by kernel_rfl) O3.out (by first | rfl | simp) ?_; intro ws hst hO; have O3 := Hi hO; have O2 := Hi (hst.oth O2.out (by omega)); have O4 := Hi (hst.oth O4.out (by omega)); have O5 := Hi (hst.oth O5.out (by omega)); have PX := Hi (PX.out.into hst (by omega)); have CH := Hi (Stored.chg hst CH.out (by have := HDe.out; omega)); clear hst hO))
      refine bodyPost_ret (v := .tuple #[.agg (List.toArray (ph5L k W H 1 (z7.p : Int))), .agg (List.toArray (pf (0, 0)))]) ?_ rfl ⟨by rw [E.out]; rfl, by rw [E.out]; exact PX.out, CH.out⟩
      exact results_cc Tryz.results33 _ _ _ _ (ph5L k W H 1 (z7.p : Int)) (pf (0, 0)) _ _ rfl O2.out.range0 Tryz.underlying95 rfl (by kernel_rfl) rfl O3.out.range0 Tryz.underlying36 rfl (by kernel_rfl)
  | false =>
    replace HRE := Hi (show (if (z2.hnum n2 65535 2).2.2.1 ≠ 0 then ((z2.hnum n2 65535 2).1, ((⟨0, 0, 0, 0, 0⟩ : PH), (z2.hnum n2 65535 2).2.2)) else ph4 k W H (z2.hnum n2 65535 2).2.1 (z2.hnum n2 65535 2).1.1 (z2.hnum n2 65535 2).1.2) = R by have := HRE.out; rw [if_neg (by decide)] at this; exact this)
    have HN := Hi (fun d w0 (h0 : Rdr d w0 X x z2 n2) => hnum_any h0 65535 2 (by decide))
    obtain ⟨⟨⟨z3, n3⟩, ⟨M, F3⟩⟩, hQ⟩ : ∃ q, z2.hnum n2 65535 2 = q := ⟨_, rfl⟩
    rw [hQ] at HN HRE
    replace HRE := Hi (show (if F3.1 ≠ 0 then ((z3, n3), ((⟨0, 0, 0, 0, 0⟩ : PH), F3)) else ph4 k W H M z3 n3) = R from HRE.out)
    clear hQ
    go_wp2_with fail
    with_reducible refine (HN.out _ _ PX.out).mono ?_
    rintro e w12 ⟨rfl, hp1, hc1⟩
    have O2 := Hi (hc1.obj O2.out (not_two PX.out (by omega)))
    have O3 := Hi (hc1.obj O3.out (not_two PX.out (by omega)))
    have O4 := Hi (hc1.obj O4.out (not_two PX.out (by omega)))
    have O5 := Hi (hc1.obj O5.out (not_two PX.out (by omega)))
    have PX := Hi hp1
    have CH := Hi (CH.out.trans hc1)
    clear hp1 hc1
    go_upto_region 15 with (first
      | (refine store_c rfl 3 _ _ rfl (b4) 3 (.int .i64 M) rfl rfl (by kernel_rfl) (by kernel_rfl) (by kernel_rfl) O4.out (show 3 < 5 by decide) (cs' := List.toArray (ph5L k W H M 0)) rfl ?_; intro ws hst hO; have O4 := Hi hO; have O2 := Hi (hst.oth O2.out (by omega)); have O3 := Hi (hst.oth O3.out (by omega)); have O5 := Hi (hst.oth O5.out (by omega)); have PX := Hi (PX.out.into hst (by omega)); have CH := Hi (Stored.chg hst CH.out (by have := HDe.out; omega)); clear hst hO)
      | (refine store_o rfl 36 3 _ _ rfl (b5) (pf F3) rfl rfl (by kernel_rfl) (by kernel_rfl) (by kernel_rfl) O5.out (by first | rfl | simp) ?_; intro ws hst hO; have O5 := Hi hO; have O2 := Hi (hst.oth O2.out (by omega)); have O3 := Hi (hst.oth O3.out (by omega)); have O4 := Hi (hst.oth O4.out (by omega)); have PX := Hi (PX.out.into hst (by omega)); have CH := Hi (Stored.chg hst CH.out (by have := HDe.out; omega)); clear hst hO))
    clear HN
    have c0 := (O5.out.cell 0).trans (show _ = some (.int .i64 F3.1) from rfl)
    obtain ⟨f4, hf4⟩ : ∃ k0, F3.1 = k0 := ⟨_, rfl⟩
    rw [hf4] at c0
    by_cases hk : f4 = 0
    rotate_left
    · have g1 : (f4 != 0) = true := by rw [bne_iff_ne]; exact hk
      have E := Hi (show R = ((z3, n3), (⟨0, 0, 0, 0, 0⟩, F3)) by have := HRE.out; rw [if_pos (by rw [hf4]; exact hk)] at this; exact this.symm)
      clear hk hf4
      go_upto_region 16 with (fail)
      refine wp_region_noPanic ?_
      refine wp_region_held_drew (S := fun w' => w'.rangeAt (b5) 0 (pf F3)) (by kernel_rfl) (Obj1.range0 (cs := (pf F3)) O5.out) (fun hHeld => ?_)
      refine wpAnyH_take (i := 0) (v := .agg (List.toArray [.int .i64 0, .int .i64 0, .int .i64 0, .int .i64 0, .int .i64 0])) rfl (by kernel_rfl) (by kernel_rfl) (by kernel_rfl) (fun _ _ _ h => h) (Or.inl ⟨by rfl, fun w hS => by go_simp⟩) hHeld ?_
      simp only [Act.put, zq1, zq2, zq3, zq4, zq5, zq6]
      refine wpAnyH_take (i := 1) rfl (by kernel_rfl) (by kernel_rfl) (by kernel_rfl) (fun _ _ _ h => h) (yieldsIf_load_mid (by rfl) 36 _ rfl (b5) 0 rfl (pf F3) _ (fun _ h => h) Tryz.underlying36 rfl (by kernel_rfl)) hHeld ?_
      simp only [Act.put, zq1, zq2, zq3, zq4, zq5, zq6]
      have PX := Hi (PX.out.drew1)
      have CH := Hi (CH.out.drew)
      have O2 := Hi (O2.out.drew)
      have O3 := Hi (O3.out.drew)
      have O4 := Hi (O4.out.drew)
      have O5 := Hi (O5.out.drew)
      generalize World.drew _ = wk at PX CH O2 O3 O4 O5 ⊢
      refine wpAnyH_ready (rs := [2]) (by kernel_rfl) (by simp) ?_
      refine AllReadyH.cons (o := _) rfl (fun K' hK => ?_) AllReadyH.nil
      rw [if_pos (by rfl)]
      refine wp_store_mid 95 _ _ rfl (d) 0 (List.toArray [.int .i64 0, .int .i64 0, .int .i64 0, .int .i64 0, .int .i64 0]) rfl rfl (O2.out.there 0 5 (by first | exact Nat.le_refl _ | simp)) (by kernel_rfl) (all_oneCell_toArray (List.all_eq_true.1 (by rfl))) ?_
      simp only [Act.put, zq1, zq2, zq3, zq4, zq5, zq6]
      have hst : Stored wk (d) 0 [.int .i64 0, .int .i64 0, .int .i64 0, .int .i64 0, .int .i64 0] (wk.setCells (d) 0 [.int .i64 0, .int .i64 0, .int .i64 0, .int .i64 0, .int .i64 0]) := rfl
      have O2 := Hi (hst.whole O2.out (by first | rfl | simp))
      have O3 := Hi (hst.oth O3.out (by omega))
      have O4 := Hi (hst.oth O4.out (by omega))
      have O5 := Hi (hst.oth O5.out (by omega))
      have PX := Hi (PX.out.into hst (by omega))
      have CH := Hi (Stored.chg hst CH.out (by have := HDe.out; omega))
      generalize World.setCells _ _ _ _ = wk2 at PX CH O2 O3 O4 O5 ⊢
      clear hst
      refine hK _ _ (Obj1.range0 (cs := (pf F3)) O5.out) (fun hH1 => ?_)
      clear hK K'
      obtain ⟨wk, rfl⟩ : ∃ z, z = wk2 := ⟨_, rfl⟩
      refine wpAnyH_ready (rs := [3]) (by kernel_rfl) (by simp) ?_
      refine AllReadyH.cons (o := _) rfl (fun K' hK => ?_) AllReadyH.nil
      rw [if_pos (by rfl)]
      refine wp_store_mid 36 _ _ rfl (d + 1) 0 (List.toArray (pf F3)) rfl rfl (O3.out.there 0 3 (by first | exact Nat.le_refl _ | simp)) (by kernel_rfl) (all_oneCell_toArray (List.all_eq_true.1 (by rfl))) ?_
      simp only [Act.put, zq1, zq2, zq3, zq4, zq5, zq6]
      have hst : Stored wk (d + 1) 0 (pf F3) (wk.setCells (d + 1) 0 (pf F3)) := rfl
      have O3 := Hi (hst.whole O3.out (by first | rfl | simp))
      have O2 := Hi (hst.oth O2.out (by omega))
      have O4 := Hi (hst.oth O4.out (by omega))
      have O5 := Hi (hst.oth O5.out (by omega))
      have PX := Hi (PX.out.into hst (by omega))
      have CH := Hi (Stored.chg hst CH.out (by have := HDe.out; omega))
      generalize World.setCells _ _ _ _ = wk2 at PX CH O2 O3 O4 O5 ⊢
      clear hst
      refine hK _ _ (Obj1.range0 (cs := (pf F3)) O5.out) (fun hH2 => ?_)
      clear hK K'
      obtain ⟨wk, rfl⟩ : ∃ z, z = wk2 := ⟨_, rfl⟩
      refine wpAnyH_done (by kernel_rfl) ?_ _
      refine NoPanic.normal ?_
      go_wp2_with fail
      refine bodyPost_ret (v := .tuple #[.agg (List.toArray ([.int .i64 0, .int .i64 0, .int .i64 0, .int .i64 0, .int .i64 0])), .agg (List.toArray (pf F3))]) ?_ rfl ⟨by rw [E.out]; rfl, by rw [E.out]; exact PX.out, CH.out⟩
      exact results_cc Tryz.results33 _ _ _ _ ([.int .i64 0, .int .i64 0, .int .i64 0, .int .i64 0, .int .i64 0]) (pf F3) _ _ rfl O2.out.range0 Tryz.underlying95 rfl (by kernel_rfl) rfl O3.out.range0 Tryz.underlying36 rfl (by kernel_rfl)
    have g1 : (f4 != 0) = false := by rw [hk]; rfl
    replace HRE := Hi (show ph4 k W H M z3 n3 = R by have := HRE.out; rw [if_neg (by rw [hf4, hk]; decide)] at this; exact this)
    clear hk hf4
    go_upto_region 17 with (fail)
    clear c0 g1
    have HRE := Hi (show (if ptxtB k = true then ((z3, n3), ((⟨k, W, H, M, z3.p⟩ : PH), ((0 : Int), (0 : Int)))) else if (z3.one n3).2.1 ≠ 0 then ((z3.one n3).1, (⟨0, 0, 0, 0, 0⟩, (z3.one n3).2)) else ((z3.one n3).1, (⟨k, W, H, M, (z3.one n3).1.1.p⟩, (0, 0)))) = R from HRE.out)
    have q0 := (O4.out.cell 0).trans (show _ = some (.int .i64 k) from rfl)
    go_wp2_with fail
    with_reducible refine (HTX.out _).mono ?_
    rintro e w10 ⟨rfl, rfl⟩
    clear HTX q0
    obtain ⟨g, hg⟩ : ∃ g, ptxtB k = g := ⟨_, rfl⟩
    rw [hg] at HRE ⊢
    clear hg
    cases g with
    | true =>
      replace HRE := Hi (show ((z3, n3), ((⟨k, W, H, M, z3.p⟩ : PH), ((0 : Int), (0 : Int)))) = R by have := HRE.out; rw [if_pos rfl] at this; exact this)
      have E := Hi HRE.out.symm
      go_upto_region 22 with (first
        | ((go_at_call 48; (with_reducible refine (rd_at PX.out).mono ?_); rintro e ws1 ⟨rfl, rfl⟩))
        | (refine store_c rfl 3 _ _ rfl (b4) 4 (.int .i64 (z3.p : Int)) rfl rfl (by kernel_rfl) (by kernel_rfl) (by kernel_rfl) O4.out (show 4 < 5 by decide) (cs' := List.toArray (ph5L k W H M (z3.p : Int))) rfl ?_; intro ws hst hO; have O4 := Hi hO; have O2 := Hi (hst.oth O2.out (by omega)); have O3 := Hi (hst.oth O3.out (by omega)); have O5 := Hi (hst.oth O5.out (by omega)); have PX := Hi (PX.out.into hst (by omega)); have CH := Hi (Stored.chg hst CH.out (by have := HDe.out; omega)); clear hst hO))
      go_wp2_with (first
        | (refine load_u (by kernel_rfl) 95 5 _ rfl (b4) (ph5L k W H M (z3.p : Int)) rfl rfl O4.out Tryz.underlying95 rfl (by kernel_rfl) ?_; intro _)
        | (refine store_o rfl 95 5 _ _ rfl (d) (ph5L k W H M (z3.p : Int)) rfl rfl (by kernel_rfl) (by kernel_rfl) (by kernel_rfl) O2.out (by first | rfl | simp) ?_; intro ws hst hO; have O2 := Hi hO; have O3 := Hi (hst.oth O3.out (by omega)); have O4 := Hi (hst.oth O4.out (by omega)); have O5 := Hi (hst.oth O5.out (by omega)); have PX := Hi (PX.out.into hst (by omega)); have CH := Hi (Stored.chg hst CH.out (by have := HDe.out; omega)); clear hst hO)
        | (refine store_o rfl 36 3 _ _ rfl (d + 1) (pf (0, 0)) rfl rfl (by kernel_rfl) (by kernel_rfl) (by kernel_rfl) O3.out (by first | rfl | simp) ?_; intro ws hst hO; have O3 := Hi hO; have O2 := Hi (hst.oth O2.out (by omega)); have O4 := Hi (hst.oth O4.out (by omega)); have O5 := Hi (hst.oth O5.out (by omega)); have PX := Hi (PX.out.into hst (by omega)); have CH := Hi (Stored.chg hst CH.out (by have := HDe.out; omega)); clear hst hO))
      refine bodyPost_ret (v := .tuple #[.agg (List.toArray (ph5L k W H M (z3.p : Int))), .agg (List.toArray (pf (0, 0)))]) ?_ rfl ⟨by rw [E.out]; rfl, by rw [E.out]; exact PX.out, CH.out⟩
      exact results_cc Tryz.results33 _ _ _ _ (ph5L k W H M (z3.p : Int)) (pf (0, 0)) _ _ rfl O2.out.range0 Tryz.underlying95 rfl (by kernel_rfl) rfl O3.out.range0 Tryz.underlying36 rfl (by kernel_rfl)
    | false =>
      have HON := Hi (fun d w0 (h0 : Rdr d w0 X x z3 n3) => one_any h0)
      obtain ⟨⟨⟨z7, n7⟩, F7⟩, hQ⟩ : ∃ q, z3.one n3 = q := ⟨_, rfl⟩
      have HRE := Hi (show (if F7.1 ≠ 0 then ((z7, n7), ((⟨0, 0, 0, 0, 0⟩ : PH), F7)) else ((z7, n7), (⟨k, W, H, M, (z7.p : Int)⟩, (0, 0)))) = R by have := HRE.out; rw [if_neg (by decide), hQ] at this; exact this)
      rw [hQ] at HON
      clear hQ
      go_wp2_with fail
      with_reducible refine (HON.out _ _ PX.out).mono ?_
      rintro e w11 ⟨rfl, hp1, hc1⟩
      have O2 := Hi (hc1.obj O2.out (not_two PX.out (by omega)))
      have O3 := Hi (hc1.obj O3.out (not_two PX.out (by omega)))
      have O4 := Hi (hc1.obj O4.out (not_two PX.out (by omega)))
      have O5 := Hi (hc1.obj O5.out (not_two PX.out (by omega)))
      have PX := Hi hp1
      have CH := Hi (CH.out.trans hc1)
      clear hp1 hc1
      go_upto_region 19 with (first
        | (refine store_o rfl 36 3 _ _ rfl (b5) (pf F7) rfl rfl (by kernel_rfl) (by kernel_rfl) (by kernel_rfl) O5.out (by first | rfl | simp) ?_; intro ws hst hO; have O5 := Hi hO; have O2 := Hi (hst.oth O2.out (by omega)); have O3 := Hi (hst.oth O3.out (by omega)); have O4 := Hi (hst.oth O4.out (by omega)); have PX := Hi (PX.out.into hst (by omega)); have CH := Hi (Stored.chg hst CH.out (by have := HDe.out; omega)); clear hst hO))
      clear HON
      have c0 := (O5.out.cell 0).trans (show _ = some (.int .i64 F7.1) from rfl)
      obtain ⟨f7, hf7⟩ : ∃ k0, F7.1 = k0 := ⟨_, rfl⟩
      rw [hf7] at c0
      by_cases hk : f7 = 0
      rotate_left
      · have g1 : (f7 != 0) = true := by rw [bne_iff_ne]; exact hk
        have E := Hi (show R = ((z7, n7), (⟨0, 0, 0, 0, 0⟩, F7)) by have := HRE.out; rw [if_pos (by rw [hf7]; exact hk)] at this; exact this.symm)
        clear hk hf7
        go_upto_region 20 with (fail)
        refine wp_region_noPanic ?_
        refine wp_region_held_drew (S := fun w' => w'.rangeAt (b5) 0 (pf F7)) (by kernel_rfl) (Obj1.range0 (cs := (pf F7)) O5.out) (fun hHeld => ?_)
        refine wpAnyH_take (i := 0) (v := .agg (List.toArray [.int .i64 0, .int .i64 0, .int .i64 0, .int .i64 0, .int .i64 0])) rfl (by kernel_rfl) (by kernel_rfl) (by kernel_rfl) (fun _ _ _ h => h) (Or.inl ⟨by rfl, fun w hS => by go_simp⟩) hHeld ?_
        simp only [Act.put, zq1, zq2, zq3, zq4, zq5, zq6]
        refine wpAnyH_take (i := 1) rfl (by kernel_rfl) (by kernel_rfl) (by kernel_rfl) (fun _ _ _ h => h) (yieldsIf_load_mid (by rfl) 36 _ rfl (b5) 0 rfl (pf F7) _ (fun _ h => h) Tryz.underlying36 rfl (by kernel_rfl)) hHeld ?_
        simp only [Act.put, zq1, zq2, zq3, zq4, zq5, zq6]
        have PX := Hi (PX.out.drew1)
        have CH := Hi (CH.out.drew)
        have O2 := Hi (O2.out.drew)
        have O3 := Hi (O3.out.drew)
        have O4 := Hi (O4.out.drew)
        have O5 := Hi (O5.out.drew)
        generalize World.drew _ = wk at PX CH O2 O3 O4 O5 ⊢
        refine wpAnyH_ready (rs := [2]) (by kernel_rfl) (by simp) ?_
        refine AllReadyH.cons (o := _) rfl (fun K' hK => ?_) AllReadyH.nil
        rw [if_pos (by rfl)]
        refine wp_store_mid 95 _ _ rfl (d) 0 (List.toArray [.int .i64 0, .int .i64 0, .int .i64 0, .int .i64 0, .int .i64 0]) rfl rfl (O2.out.there 0 5 (by first | exact Nat.le_refl _ | simp)) (by kernel_rfl) (all_oneCell_toArray (List.all_eq_true.1 (by rfl))) ?_
        simp only [Act.put, zq1, zq2, zq3, zq4, zq5, zq6]
        have hst : Stored wk (d) 0 [.int .i64 0, .int .i64 0, .int .i64 0, .int .i64 0, .int .i64 0] (wk.setCells (d) 0 [.int .i64 0, .int .i64 0, .int .i64 0, .int .i64 0, .int .i64 0]) := rfl
        have O2 := Hi (hst.whole O2.out (by first | rfl | simp))
        have O3 := Hi (hst.oth O3.out (by omega))
        have O4 := Hi (hst.oth O4.out (by omega))
        have O5 := Hi (hst.oth O5.out (by omega))
        have PX := Hi (PX.out.into hst (by omega))
        have CH := Hi (Stored.chg hst CH.out (by have := HDe.out; omega))
        generalize World.setCells _ _ _ _ = wk2 at PX CH O2 O3 O4 O5 ⊢
        clear hst
        refine hK _ _ (Obj1.range0 (cs := (pf F7)) O5.out) (fun hH1 => ?_)
        clear hK K'
        obtain ⟨wk, rfl⟩ : ∃ z, z = wk2 := ⟨_, rfl⟩
        refine wpAnyH_ready (rs := [3]) (by kernel_rfl) (by simp) ?_
        refine AllReadyH.cons (o := _) rfl (fun K' hK => ?_) AllReadyH.nil
        rw [if_pos (by rfl)]
        refine wp_store_mid 36 _ _ rfl (d + 1) 0 (List.toArray (pf F7)) rfl rfl (O3.out.there 0 3 (by first | exact Nat.le_refl _ | simp)) (by kernel_rfl) (all_oneCell_toArray (List.all_eq_true.1 (by rfl))) ?_
        simp only [Act.put, zq1, zq2, zq3, zq4, zq5, zq6]
        have hst : Stored wk (d + 1) 0 (pf F7) (wk.setCells (d + 1) 0 (pf F7)) := rfl
        have O3 := Hi (hst.whole O3.out (by first | rfl | simp))
        have O2 := Hi (hst.oth O2.out (by omega))
        have O4 := Hi (hst.oth O4.out (by omega))
        have O5 := Hi (hst.oth O5.out (by omega))
        have PX := Hi (PX.out.into hst (by omega))
        have CH := Hi (Stored.chg hst CH.out (by have := HDe.out; omega))
        generalize World.setCells _ _ _ _ = wk2 at PX CH O2 O3 O4 O5 ⊢
        clear hst
        refine hK _ _ (Obj1.range0 (cs := (pf F7)) O5.out) (fun hH2 => ?_)
        clear hK K'
        obtain ⟨wk, rfl⟩ : ∃ z, z = wk2 := ⟨_, rfl⟩
        refine wpAnyH_done (by kernel_rfl) ?_ _
        refine NoPanic.normal ?_
        go_wp2_with fail
        refine bodyPost_ret (v := .tuple #[.agg (List.toArray ([.int .i64 0, .int .i64 0, .int .i64 0, .int .i64 0, .int .i64 0])), .agg (List.toArray (pf F7))]) ?_ rfl ⟨by rw [E.out]; rfl, by rw [E.out]; exact PX.out, CH.out⟩
        exact results_cc Tryz.results33 _ _ _ _ ([.int .i64 0, .int .i64 0, .int .i64 0, .int .i64 0, .int .i64 0]) (pf F7) _ _ rfl O2.out.range0 Tryz.underlying95 rfl (by kernel_rfl) rfl O3.out.range0 Tryz.underlying36 rfl (by kernel_rfl)
      have g1 : (f7 != 0) = false := by rw [hk]; rfl
      replace HRE := Hi (show ((z7, n7), ((⟨k, W, H, M, (z7.p : Int)⟩ : PH), ((0 : Int), (0 : Int)))) = R by have := HRE.out; rw [if_neg (by rw [hf7, hk]; decide)] at this; exact this)
      clear hk hf7
      go_upto_region 21 with (fail)
      clear c0 g1
      have E := Hi HRE.out.symm
      go_upto_region 22 with (first
        | ((go_at_call 48; (with_reducible refine (rd_at PX.out).mono ?_); rintro e ws1 ⟨rfl, rfl⟩))
        | (refine store_c rfl 3 _ _ rfl (b4) 4 (.int .i64 (z7.p : Int)) rfl rfl (by kernel_rfl) (by kernel_rfl) (by kernel_rfl) O4.out (show 4 < 5 by decide) (cs' := List.toArray (ph5L k W H M (z7.p : Int))) rfl ?_; intro ws hst hO; have O4 := Hi hO; have O2 := Hi (hst.oth O2.out (by omega)); have O3 := Hi (hst.oth O3.out (by omega)); have O5 := Hi (hst.oth O5.out (by omega)); have PX := Hi (PX.out.into hst (by omega)); have CH := Hi (Stored.chg hst CH.out (by have := HDe.out; omega)); clear hst hO))
      go_wp2_with (first
        | (refine load_u (by kernel_rfl) 95 5 _ rfl (b4) (ph5L k W H M (z7.p : Int)) rfl rfl O4.out Tryz.underlying95 rfl (by kernel_rfl) ?_; intro _)
        | (refine store_o rfl 95 5 _ _ rfl (d) (ph5L k W H M (z7.p : Int)) rfl rfl (by kernel_rfl) (by kernel_rfl) (by kernel_rfl) O2.out (by first | rfl | simp) ?_; intro ws hst hO; have O2 := Hi hO; have O3 := Hi (hst.oth O3.out (by omega)); have O4 := Hi (hst.oth O4.out (by omega)); have O5 := Hi (hst.oth O5.out (by omega)); have PX := Hi (PX.out.into hst (by omega)); have CH := Hi (Stored.chg hst CH.out (by have := HDe.out; omega)); clear hst hO)
        | (refine store_o rfl 36 3 _ _ rfl (d + 1) (pf (0, 0)) rfl rfl (by kernel_rfl) (by kernel_rfl) (by kernel_rfl) O3.out (by first | rfl | simp) ?_; intro ws hst hO; have O3 := Hi hO; have O2 := Hi (hst.oth O2.out (by omega)); have O4 := Hi (hst.oth O4.out (by omega)); have O5 := Hi (hst.oth O5.out (by omega)); have PX := Hi (PX.out.into hst (by omega)); have CH := Hi (Stored.chg hst CH.out (by have := HDe.out; omega)); clear hst hO))
      refine bodyPost_ret (v := .tuple #[.agg (List.toArray (ph5L k W H M (z7.p : Int))), .agg (List.toArray (pf (0, 0)))]) ?_ rfl ⟨by rw [E.out]; rfl, by rw [E.out]; exact PX.out, CH.out⟩
      exact results_cc Tryz.results33 _ _ _ _ (ph5L k W H M (z7.p : Int)) (pf (0, 0)) _ _ rfl O2.out.range0 Tryz.underlying95 rfl (by kernel_rfl) rfl O3.out.range0 Tryz.underlying36 rfl (by kernel_rfl)
end Go.Proofs.YtcjjfnghgajefaaGreat

/- need.Plan.Need, walked. -/
import Derived.Test.YtcjjfnghgajefaaGreatK11
import Derived.Test.YtcjjfnghgajefaaGreatK0
namespace Go.Proofs.YtcjjfnghgajefaaGreat
open Go.RowKit
set_option linter.unusedVariables false
set_option linter.unusedSimpArgs false
def needB (W H C R b : Int) : Bool := sideB W && (sideB H && (countB C && (countB R && countB b)))
theorem need_in {W H C R b : Int} (h : needB W H C R b = true) : NeedIn W H C R b := by
  unfold needB sideB countB at h
  simp only [Bool.and_eq_true, decide_eq_true_iff] at h
  obtain ⟨⟨a1, a2⟩, ⟨a3, a4⟩, ⟨a5, a6⟩, ⟨a7, a8⟩, a9, a10⟩ := h
  exact ⟨a1, a2, a3, a4, a5, a6, a7, a8, a9, a10⟩
set_option maxRecDepth 100000 in
set_option maxHeartbeats 4000000 in
theorem pneed_yes (fm W H bt C R b : Int) (w : World) (h : needB W H C R b = true) :
    Calls Tryz.prog 5 #[.agg #[.int .i64 fm, .int .i64 W, .int .i64 H, .int .i64 bt, .int .i64 C, .int .i64 R], .int .i64 b] w fun e w' => e = .returned (.agg (needL W H C R b).toArray) ∧ Below w.heap.size w w' := by
  obtain ⟨w1, w2, h1, h2, c1, c2, r1, r2, b1, b2⟩ := need_in h
  unfold needB at h
  simp only [Bool.and_eq_true] at h
  obtain ⟨hHS1, hHS2, hHC1, hHC2, hHC3⟩ := h
  have HS1 := Hi (fun w0 => (nside_any W w0).mono (R' := fun e w' => e = .returned (.bool true) ∧ w' = w0) fun e w' hh => ⟨by rw [hh.1, hHS1], hh.2.symm⟩)
  have HS2 := Hi (fun w0 => (nside_any H w0).mono (R' := fun e w' => e = .returned (.bool true) ∧ w' = w0) fun e w' hh => ⟨by rw [hh.1, hHS2], hh.2.symm⟩)
  have HC1 := Hi (fun w0 => (ncount_any C w0).mono (R' := fun e w' => e = .returned (.bool true) ∧ w' = w0) fun e w' hh => ⟨by rw [hh.1, hHC1], hh.2.symm⟩)
  have HC2 := Hi (fun w0 => (ncount_any R w0).mono (R' := fun e w' => e = .returned (.bool true) ∧ w' = w0) fun e w' hh => ⟨by rw [hh.1, hHC2], hh.2.symm⟩)
  have HC3 := Hi (fun w0 => (ncount_any b w0).mono (R' := fun e w' => e = .returned (.bool true) ∧ w' = w0) fun e w' hh => ⟨by rw [hh.1, hHC3], hh.2.symm⟩)
  clear hHS1 hHS2 hHC1 hHC2 hHC3
  have hp0 : 0 ≤ 4 * W * H := Int.mul_nonneg (by omega) (by omega)
  have hp1 : 4 * W * H ≤ 65536 * 16384 := Int.mul_le_mul (by omega) h2 (by omega) (by omega)
  obtain ⟨p, hp⟩ : ∃ p, 4 * W * H = p := ⟨_, rfl⟩
  have E := Hi (show needL W H C R b = [.int .i64 W, .int .i64 H, .int .i64 (p + 4 * C + R), .int .i64 (8 * (b + p) + 1024)] by unfold needL; rw [hp])
  rw [hp] at hp0 hp1
  rw [E.out]
  have OP := Hi ((obj1_new w #[.int .i64 fm, .int .i64 W, .int .i64 H, .int .i64 bt, .int .i64 C, .int .i64 R] 23).alloc (.cells #[.int .i64 0, .int .i64 0, .int .i64 0, .int .i64 0] 25))
  have OB := Hi (obj1_new (w.alloc (.cells #[.int .i64 fm, .int .i64 W, .int .i64 H, .int .i64 bt, .int .i64 C, .int .i64 R] 23)) #[.int .i64 0, .int .i64 0, .int .i64 0, .int .i64 0] 25)
  have BL := Hi (((Below.refl w.heap.size w).alloc (Nat.le_refl _) (.cells #[.int .i64 fm, .int .i64 W, .int .i64 H, .int .i64 bt, .int .i64 C, .int .i64 R] 23)).alloc (by simp) (.cells #[.int .i64 0, .int .i64 0, .int .i64 0, .int .i64 0] 25))
  obtain ⟨d, hd⟩ : ∃ d, w.heap.size = d := ⟨_, rfl⟩
  have HD := Hi hd
  rw [show (w.alloc (.cells #[.int .i64 fm, .int .i64 W, .int .i64 H, .int .i64 bt, .int .i64 C, .int .i64 R] 23)).heap.size = d + 1 by rw [← hd]; simp] at OB
  rw [hd] at OP BL ⊢
  go_enter Tryz.func5, Tryz.ntmps5
  go_upto_region 1 with (fail)
  clear hd
  generalize World.alloc _ _ = wr at OP OB BL ⊢
  have q1 := (OP.out.cell 1).trans (show _ = some (.int .i64 W) from rfl)
  have q2 := (OP.out.cell 2).trans (show _ = some (.int .i64 H) from rfl)
  have q4 := (OP.out.cell 4).trans (show _ = some (.int .i64 C) from rfl)
  have q5 := (OP.out.cell 5).trans (show _ = some (.int .i64 R) from rfl)
  go_wp2_with (first
    | ((with_reducible refine skip_g rfl ?_ ?_); rfl; intro _)
    | (go_at_call 10; (with_reducible refine (HS1.out _).mono ?_); rintro e wq ⟨rfl, rfl⟩)
    | (go_at_call 10; (with_reducible refine (HS2.out _).mono ?_); rintro e wq ⟨rfl, rfl⟩)
    | (go_at_call 11; (with_reducible refine (HC1.out _).mono ?_); rintro e wq ⟨rfl, rfl⟩)
    | (go_at_call 11; (with_reducible refine (HC2.out _).mono ?_); rintro e wq ⟨rfl, rfl⟩)
    | (go_at_call 11; (with_reducible refine (HC3.out _).mono ?_); rintro e wq ⟨rfl, rfl⟩)
    | (refine store_o rfl 25 4 _ _ rfl (d + 1) [.int .i64 W, .int .i64 H, .int .i64 (p + 4 * C + R), .int .i64 (8 * (b + p) + 1024)] rfl rfl (by kernel_rfl) (by kernel_rfl) (by kernel_rfl) OB.out (by first | rfl | simp) ?_; intro ws hst hO; have OB := Hi hO; have BL := Hi (hst.below BL.out (by omega)); clear hst hO))
  refine bodyPost_ret (v := .agg ([.int .i64 W, .int .i64 H, .int .i64 (p + 4 * C + R), .int .i64 (8 * (b + p) + 1024)]).toArray) ?_ rfl ⟨rfl, BL.out⟩
  exact results_c Tryz.results5 _ _ _ ([.int .i64 W, .int .i64 H, .int .i64 (p + 4 * C + R), .int .i64 (8 * (b + p) + 1024)]) _ rfl OB.out.range0 Tryz.underlying25 rfl (by kernel_rfl)
set_option maxRecDepth 100000 in
set_option maxHeartbeats 4000000 in
theorem pneed_no0 (fm W H bt C R b : Int) (w : World) (hHS1 : sideB W = false) :
    Calls Tryz.prog 5 #[.agg #[.int .i64 fm, .int .i64 W, .int .i64 H, .int .i64 bt, .int .i64 C, .int .i64 R], .int .i64 b] w fun e w' => e = .returned (.agg (List.toArray [.int .i64 0, .int .i64 0, .int .i64 0, .int .i64 0])) ∧ Below w.heap.size w w' := by
  have HS1 := Hi (fun w0 => (nside_any W w0).mono (R' := fun e w' => e = .returned (.bool false) ∧ w' = w0) fun e w' hh => ⟨by rw [hh.1, hHS1], hh.2.symm⟩)
  clear hHS1
  have OP := Hi ((obj1_new w #[.int .i64 fm, .int .i64 W, .int .i64 H, .int .i64 bt, .int .i64 C, .int .i64 R] 23).alloc (.cells #[.int .i64 0, .int .i64 0, .int .i64 0, .int .i64 0] 25))
  have OB := Hi (obj1_new (w.alloc (.cells #[.int .i64 fm, .int .i64 W, .int .i64 H, .int .i64 bt, .int .i64 C, .int .i64 R] 23)) #[.int .i64 0, .int .i64 0, .int .i64 0, .int .i64 0] 25)
  have BL := Hi (((Below.refl w.heap.size w).alloc (Nat.le_refl _) (.cells #[.int .i64 fm, .int .i64 W, .int .i64 H, .int .i64 bt, .int .i64 C, .int .i64 R] 23)).alloc (by simp) (.cells #[.int .i64 0, .int .i64 0, .int .i64 0, .int .i64 0] 25))
  obtain ⟨d, hd⟩ : ∃ d, w.heap.size = d := ⟨_, rfl⟩
  have HD := Hi hd
  rw [show (w.alloc (.cells #[.int .i64 fm, .int .i64 W, .int .i64 H, .int .i64 bt, .int .i64 C, .int .i64 R] 23)).heap.size = d + 1 by rw [← hd]; simp] at OB
  rw [hd] at OP BL ⊢
  go_enter Tryz.func5, Tryz.ntmps5
  go_upto_region 1 with (fail)
  clear hd
  generalize World.alloc _ _ = wr at OP OB BL ⊢
  have q1 := (OP.out.cell 1).trans (show _ = some (.int .i64 W) from rfl)
  have q2 := (OP.out.cell 2).trans (show _ = some (.int .i64 H) from rfl)
  have q4 := (OP.out.cell 4).trans (show _ = some (.int .i64 C) from rfl)
  have q5 := (OP.out.cell 5).trans (show _ = some (.int .i64 R) from rfl)
  go_wp2_with (first
    | ((with_reducible refine skip_g rfl ?_ ?_); rfl; intro _)
    | (go_at_call 10; (with_reducible refine (HS1.out _).mono ?_); rintro e wq ⟨rfl, rfl⟩)
    | (refine store_o rfl 25 4 _ _ rfl (d + 1) [.int .i64 0, .int .i64 0, .int .i64 0, .int .i64 0] rfl rfl (by kernel_rfl) (by kernel_rfl) (by kernel_rfl) OB.out (by first | rfl | simp) ?_; intro ws hst hO; have OB := Hi hO; have BL := Hi (hst.below BL.out (by omega)); clear hst hO))
  refine bodyPost_ret (v := .agg ([.int .i64 0, .int .i64 0, .int .i64 0, .int .i64 0]).toArray) ?_ rfl ⟨rfl, BL.out⟩
  exact results_c Tryz.results5 _ _ _ ([.int .i64 0, .int .i64 0, .int .i64 0, .int .i64 0]) _ rfl OB.out.range0 Tryz.underlying25 rfl (by kernel_rfl)
set_option maxRecDepth 100000 in
set_option maxHeartbeats 4000000 in
theorem pneed_no1 (fm W H bt C R b : Int) (w : World) (hHS1 : sideB W = true) (hHS2 : sideB H = false) :
    Calls Tryz.prog 5 #[.agg #[.int .i64 fm, .int .i64 W, .int .i64 H, .int .i64 bt, .int .i64 C, .int .i64 R], .int .i64 b] w fun e w' => e = .returned (.agg (List.toArray [.int .i64 0, .int .i64 0, .int .i64 0, .int .i64 0])) ∧ Below w.heap.size w w' := by
  have HS1 := Hi (fun w0 => (nside_any W w0).mono (R' := fun e w' => e = .returned (.bool true) ∧ w' = w0) fun e w' hh => ⟨by rw [hh.1, hHS1], hh.2.symm⟩)
  have HS2 := Hi (fun w0 => (nside_any H w0).mono (R' := fun e w' => e = .returned (.bool false) ∧ w' = w0) fun e w' hh => ⟨by rw [hh.1, hHS2], hh.2.symm⟩)
  clear hHS1 hHS2
  have OP := Hi ((obj1_new w #[.int .i64 fm, .int .i64 W, .int .i64 H, .int .i64 bt, .int .i64 C, .int .i64 R] 23).alloc (.cells #[.int .i64 0, .int .i64 0, .int .i64 0, .int .i64 0] 25))
  have OB := Hi (obj1_new (w.alloc (.cells #[.int .i64 fm, .int .i64 W, .int .i64 H, .int .i64 bt, .int .i64 C, .int .i64 R] 23)) #[.int .i64 0, .int .i64 0, .int .i64 0, .int .i64 0] 25)
  have BL := Hi (((Below.refl w.heap.size w).alloc (Nat.le_refl _) (.cells #[.int .i64 fm, .int .i64 W, .int .i64 H, .int .i64 bt, .int .i64 C, .int .i64 R] 23)).alloc (by simp) (.cells #[.int .i64 0, .int .i64 0, .int .i64 0, .int .i64 0] 25))
  obtain ⟨d, hd⟩ : ∃ d, w.heap.size = d := ⟨_, rfl⟩
  have HD := Hi hd
  rw [show (w.alloc (.cells #[.int .i64 fm, .int .i64 W, .int .i64 H, .int .i64 bt, .int .i64 C, .int .i64 R] 23)).heap.size = d + 1 by rw [← hd]; simp] at OB
  rw [hd] at OP BL ⊢
  go_enter Tryz.func5, Tryz.ntmps5
  go_upto_region 1 with (fail)
  clear hd
  generalize World.alloc _ _ = wr at OP OB BL ⊢
  have q1 := (OP.out.cell 1).trans (show _ = some (.int .i64 W) from rfl)
  have q2 := (OP.out.cell 2).trans (show _ = some (.int .i64 H) from rfl)
  have q4 := (OP.out.cell 4).trans (show _ = some (.int .i64 C) from rfl)
  have q5 := (OP.out.cell 5).trans (show _ = some (.int .i64 R) from rfl)
  go_wp2_with (first
    | ((with_reducible refine skip_g rfl ?_ ?_); rfl; intro _)
    | (go_at_call 10; (with_reducible refine (HS1.out _).mono ?_); rintro e wq ⟨rfl, rfl⟩)
    | (go_at_call 10; (with_reducible refine (HS2.out _).mono ?_); rintro e wq ⟨rfl, rfl⟩)
    | (refine store_o rfl 25 4 _ _ rfl (d + 1) [.int .i64 0, .int .i64 0, .int .i64 0, .int .i64 0] rfl rfl (by kernel_rfl) (by kernel_rfl) (by kernel_rfl) OB.out (by first | rfl | simp) ?_; intro ws hst hO; have OB := Hi hO; have BL := Hi (hst.below BL.out (by omega)); clear hst hO))
  refine bodyPost_ret (v := .agg ([.int .i64 0, .int .i64 0, .int .i64 0, .int .i64 0]).toArray) ?_ rfl ⟨rfl, BL.out⟩
  exact results_c Tryz.results5 _ _ _ ([.int .i64 0, .int .i64 0, .int .i64 0, .int .i64 0]) _ rfl OB.out.range0 Tryz.underlying25 rfl (by kernel_rfl)
set_option maxRecDepth 100000 in
set_option maxHeartbeats 4000000 in
theorem pneed_no2 (fm W H bt C R b : Int) (w : World) (hHS1 : sideB W = true) (hHS2 : sideB H = true) (hHC1 : countB C = false) :
    Calls Tryz.prog 5 #[.agg #[.int .i64 fm, .int .i64 W, .int .i64 H, .int .i64 bt, .int .i64 C, .int .i64 R], .int .i64 b] w fun e w' => e = .returned (.agg (List.toArray [.int .i64 0, .int .i64 0, .int .i64 0, .int .i64 0])) ∧ Below w.heap.size w w' := by
  have HS1 := Hi (fun w0 => (nside_any W w0).mono (R' := fun e w' => e = .returned (.bool true) ∧ w' = w0) fun e w' hh => ⟨by rw [hh.1, hHS1], hh.2.symm⟩)
  have HS2 := Hi (fun w0 => (nside_any H w0).mono (R' := fun e w' => e = .returned (.bool true) ∧ w' = w0) fun e w' hh => ⟨by rw [hh.1, hHS2], hh.2.symm⟩)
  have HC1 := Hi (fun w0 => (ncount_any C w0).mono (R' := fun e w' => e = .returned (.bool false) ∧ w' = w0) fun e w' hh => ⟨by rw [hh.1, hHC1], hh.2.symm⟩)
  clear hHS1 hHS2 hHC1
  have OP := Hi ((obj1_new w #[.int .i64 fm, .int .i64 W, .int .i64 H, .int .i64 bt, .int .i64 C, .int .i64 R] 23).alloc (.cells #[.int .i64 0, .int .i64 0, .int .i64 0, .int .i64 0] 25))
  have OB := Hi (obj1_new (w.alloc (.cells #[.int .i64 fm, .int .i64 W, .int .i64 H, .int .i64 bt, .int .i64 C, .int .i64 R] 23)) #[.int .i64 0, .int .i64 0, .int .i64 0, .int .i64 0] 25)
  have BL := Hi (((Below.refl w.heap.size w).alloc (Nat.le_refl _) (.cells #[.int .i64 fm, .int .i64 W, .int .i64 H, .int .i64 bt, .int .i64 C, .int .i64 R] 23)).alloc (by simp) (.cells #[.int .i64 0, .int .i64 0, .int .i64 0, .int .i64 0] 25))
  obtain ⟨d, hd⟩ : ∃ d, w.heap.size = d := ⟨_, rfl⟩
  have HD := Hi hd
  rw [show (w.alloc (.cells #[.int .i64 fm, .int .i64 W, .int .i64 H, .int .i64 bt, .int .i64 C, .int .i64 R] 23)).heap.size = d + 1 by rw [← hd]; simp] at OB
  rw [hd] at OP BL ⊢
  go_enter Tryz.func5, Tryz.ntmps5
  go_upto_region 1 with (fail)
  clear hd
  generalize World.alloc _ _ = wr at OP OB BL ⊢
  have q1 := (OP.out.cell 1).trans (show _ = some (.int .i64 W) from rfl)
  have q2 := (OP.out.cell 2).trans (show _ = some (.int .i64 H) from rfl)
  have q4 := (OP.out.cell 4).trans (show _ = some (.int .i64 C) from rfl)
  have q5 := (OP.out.cell 5).trans (show _ = some (.int .i64 R) from rfl)
  go_wp2_with (first
    | ((with_reducible refine skip_g rfl ?_ ?_); rfl; intro _)
    | (go_at_call 10; (with_reducible refine (HS1.out _).mono ?_); rintro e wq ⟨rfl, rfl⟩)
    | (go_at_call 10; (with_reducible refine (HS2.out _).mono ?_); rintro e wq ⟨rfl, rfl⟩)
    | (go_at_call 11; (with_reducible refine (HC1.out _).mono ?_); rintro e wq ⟨rfl, rfl⟩)
    | (refine store_o rfl 25 4 _ _ rfl (d + 1) [.int .i64 0, .int .i64 0, .int .i64 0, .int .i64 0] rfl rfl (by kernel_rfl) (by kernel_rfl) (by kernel_rfl) OB.out (by first | rfl | simp) ?_; intro ws hst hO; have OB := Hi hO; have BL := Hi (hst.below BL.out (by omega)); clear hst hO))
  refine bodyPost_ret (v := .agg ([.int .i64 0, .int .i64 0, .int .i64 0, .int .i64 0]).toArray) ?_ rfl ⟨rfl, BL.out⟩
  exact results_c Tryz.results5 _ _ _ ([.int .i64 0, .int .i64 0, .int .i64 0, .int .i64 0]) _ rfl OB.out.range0 Tryz.underlying25 rfl (by kernel_rfl)
set_option maxRecDepth 100000 in
set_option maxHeartbeats 4000000 in
theorem pneed_no3 (fm W H bt C R b : Int) (w : World) (hHS1 : sideB W = true) (hHS2 : sideB H = true) (hHC1 : countB C = true) (hHC2 : countB R = false) :
    Calls Tryz.prog 5 #[.agg #[.int .i64 fm, .int .i64 W, .int .i64 H, .int .i64 bt, .int .i64 C, .int .i64 R], .int .i64 b] w fun e w' => e = .returned (.agg (List.toArray [.int .i64 0, .int .i64 0, .int .i64 0, .int .i64 0])) ∧ Below w.heap.size w w' := by
  have HS1 := Hi (fun w0 => (nside_any W w0).mono (R' := fun e w' => e = .returned (.bool true) ∧ w' = w0) fun e w' hh => ⟨by rw [hh.1, hHS1], hh.2.symm⟩)
  have HS2 := Hi (fun w0 => (nside_any H w0).mono (R' := fun e w' => e = .returned (.bool true) ∧ w' = w0) fun e w' hh => ⟨by rw [hh.1, hHS2], hh.2.symm⟩)
  have HC1 := Hi (fun w0 => (ncount_any C w0).mono (R' := fun e w' => e = .returned (.bool true) ∧ w' = w0) fun e w' hh => ⟨by rw [hh.1, hHC1], hh.2.symm⟩)
  have HC2 := Hi (fun w0 => (ncount_any R w0).mono (R' := fun e w' => e = .returned (.bool false) ∧ w' = w0) fun e w' hh => ⟨by rw [hh.1, hHC2], hh.2.symm⟩)
  clear hHS1 hHS2 hHC1 hHC2
  have OP := Hi ((obj1_new w #[.int .i64 fm, .int .i64 W, .int .i64 H, .int .i64 bt, .int .i64 C, .int .i64 R] 23).alloc (.cells #[.int .i64 0, .int .i64 0, .int .i64 0, .int .i64 0] 25))
  have OB := Hi (obj1_new (w.alloc (.cells #[.int .i64 fm, .int .i64 W, .int .i64 H, .int .i64 bt, .int .i64 C, .int .i64 R] 23)) #[.int .i64 0, .int .i64 0, .int .i64 0, .int .i64 0] 25)
  have BL := Hi (((Below.refl w.heap.size w).alloc (Nat.le_refl _) (.cells #[.int .i64 fm, .int .i64 W, .int .i64 H, .int .i64 bt, .int .i64 C, .int .i64 R] 23)).alloc (by simp) (.cells #[.int .i64 0, .int .i64 0, .int .i64 0, .int .i64 0] 25))
  obtain ⟨d, hd⟩ : ∃ d, w.heap.size = d := ⟨_, rfl⟩
  have HD := Hi hd
  rw [show (w.alloc (.cells #[.int .i64 fm, .int .i64 W, .int .i64 H, .int .i64 bt, .int .i64 C, .int .i64 R] 23)).heap.size = d + 1 by rw [← hd]; simp] at OB
  rw [hd] at OP BL ⊢
  go_enter Tryz.func5, Tryz.ntmps5
  go_upto_region 1 with (fail)
  clear hd
  generalize World.alloc _ _ = wr at OP OB BL ⊢
  have q1 := (OP.out.cell 1).trans (show _ = some (.int .i64 W) from rfl)
  have q2 := (OP.out.cell 2).trans (show _ = some (.int .i64 H) from rfl)
  have q4 := (OP.out.cell 4).trans (show _ = some (.int .i64 C) from rfl)
  have q5 := (OP.out.cell 5).trans (show _ = some (.int .i64 R) from rfl)
  go_wp2_with (first
    | ((with_reducible refine skip_g rfl ?_ ?_); rfl; intro _)
    | (go_at_call 10; (with_reducible refine (HS1.out _).mono ?_); rintro e wq ⟨rfl, rfl⟩)
    | (go_at_call 10; (with_reducible refine (HS2.out _).mono ?_); rintro e wq ⟨rfl, rfl⟩)
    | (go_at_call 11; (with_reducible refine (HC1.out _).mono ?_); rintro e wq ⟨rfl, rfl⟩)
    | (go_at_call 11; (with_reducible refine (HC2.out _).mono ?_); rintro e wq ⟨rfl, rfl⟩)
    | (refine store_o rfl 25 4 _ _ rfl (d + 1) [.int .i64 0, .int .i64 0, .int .i64 0, .int .i64 0] rfl rfl (by kernel_rfl) (by kernel_rfl) (by kernel_rfl) OB.out (by first | rfl | simp) ?_; intro ws hst hO; have OB := Hi hO; have BL := Hi (hst.below BL.out (by omega)); clear hst hO))
  refine bodyPost_ret (v := .agg ([.int .i64 0, .int .i64 0, .int .i64 0, .int .i64 0]).toArray) ?_ rfl ⟨rfl, BL.out⟩
  exact results_c Tryz.results5 _ _ _ ([.int .i64 0, .int .i64 0, .int .i64 0, .int .i64 0]) _ rfl OB.out.range0 Tryz.underlying25 rfl (by kernel_rfl)
set_option maxRecDepth 100000 in
set_option maxHeartbeats 4000000 in
theorem pneed_no4 (fm W H bt C R b : Int) (w : World) (hHS1 : sideB W = true) (hHS2 : sideB H = true) (hHC1 : countB C = true) (hHC2 : countB R = true) (hHC3 : countB b = false) :
    Calls Tryz.prog 5 #[.agg #[.int .i64 fm, .int .i64 W, .int .i64 H, .int .i64 bt, .int .i64 C, .int .i64 R], .int .i64 b] w fun e w' => e = .returned (.agg (List.toArray [.int .i64 0, .int .i64 0, .int .i64 0, .int .i64 0])) ∧ Below w.heap.size w w' := by
  have HS1 := Hi (fun w0 => (nside_any W w0).mono (R' := fun e w' => e = .returned (.bool true) ∧ w' = w0) fun e w' hh => ⟨by rw [hh.1, hHS1], hh.2.symm⟩)
  have HS2 := Hi (fun w0 => (nside_any H w0).mono (R' := fun e w' => e = .returned (.bool true) ∧ w' = w0) fun e w' hh => ⟨by rw [hh.1, hHS2], hh.2.symm⟩)
  have HC1 := Hi (fun w0 => (ncount_any C w0).mono (R' := fun e w' => e = .returned (.bool true) ∧ w' = w0) fun e w' hh => ⟨by rw [hh.1, hHC1], hh.2.symm⟩)
  have HC2 := Hi (fun w0 => (ncount_any R w0).mono (R' := fun e w' => e = .returned (.bool true) ∧ w' = w0) fun e w' hh => ⟨by rw [hh.1, hHC2], hh.2.symm⟩)
  have HC3 := Hi (fun w0 => (ncount_any b w0).mono (R' := fun e w' => e = .returned (.bool false) ∧ w' = w0) fun e w' hh => ⟨by rw [hh.1, hHC3], hh.2.symm⟩)
  clear hHS1 hHS2 hHC1 hHC2 hHC3
  have OP := Hi ((obj1_new w #[.int .i64 fm, .int .i64 W, .int .i64 H, .int .i64 bt, .int .i64 C, .int .i64 R] 23).alloc (.cells #[.int .i64 0, .int .i64 0, .int .i64 0, .int .i64 0] 25))
  have OB := Hi (obj1_new (w.alloc (.cells #[.int .i64 fm, .int .i64 W, .int .i64 H, .int .i64 bt, .int .i64 C, .int .i64 R] 23)) #[.int .i64 0, .int .i64 0, .int .i64 0, .int .i64 0] 25)
  have BL := Hi (((Below.refl w.heap.size w).alloc (Nat.le_refl _) (.cells #[.int .i64 fm, .int .i64 W, .int .i64 H, .int .i64 bt, .int .i64 C, .int .i64 R] 23)).alloc (by simp) (.cells #[.int .i64 0, .int .i64 0, .int .i64 0, .int .i64 0] 25))
  obtain ⟨d, hd⟩ : ∃ d, w.heap.size = d := ⟨_, rfl⟩
  have HD := Hi hd
  rw [show (w.alloc (.cells #[.int .i64 fm, .int .i64 W, .int .i64 H, .int .i64 bt, .int .i64 C, .int .i64 R] 23)).heap.size = d + 1 by rw [← hd]; simp] at OB
  rw [hd] at OP BL ⊢
  go_enter Tryz.func5, Tryz.ntmps5
  go_upto_region 1 with (fail)
  clear hd
  generalize World.alloc _ _ = wr at OP OB BL ⊢
  have q1 := (OP.out.cell 1).trans (show _ = some (.int .i64 W) from rfl)
  have q2 := (OP.out.cell 2).trans (show _ = some (.int .i64 H) from rfl)
  have q4 := (OP.out.cell 4).trans (show _ = some (.int .i64 C) from rfl)
  have q5 := (OP.out.cell 5).trans (show _ = some (.int .i64 R) from rfl)
  go_wp2_with (first
    | ((with_reducible refine skip_g rfl ?_ ?_); rfl; intro _)
    | (go_at_call 10; (with_reducible refine (HS1.out _).mono ?_); rintro e wq ⟨rfl, rfl⟩)
    | (go_at_call 10; (with_reducible refine (HS2.out _).mono ?_); rintro e wq ⟨rfl, rfl⟩)
    | (go_at_call 11; (with_reducible refine (HC1.out _).mono ?_); rintro e wq ⟨rfl, rfl⟩)
    | (go_at_call 11; (with_reducible refine (HC2.out _).mono ?_); rintro e wq ⟨rfl, rfl⟩)
    | (go_at_call 11; (with_reducible refine (HC3.out _).mono ?_); rintro e wq ⟨rfl, rfl⟩)
    | (refine store_o rfl 25 4 _ _ rfl (d + 1) [.int .i64 0, .int .i64 0, .int .i64 0, .int .i64 0] rfl rfl (by kernel_rfl) (by kernel_rfl) (by kernel_rfl) OB.out (by first | rfl | simp) ?_; intro ws hst hO; have OB := Hi hO; have BL := Hi (hst.below BL.out (by omega)); clear hst hO))
  refine bodyPost_ret (v := .agg ([.int .i64 0, .int .i64 0, .int .i64 0, .int .i64 0]).toArray) ?_ rfl ⟨rfl, BL.out⟩
  exact results_c Tryz.results5 _ _ _ ([.int .i64 0, .int .i64 0, .int .i64 0, .int .i64 0]) _ rfl OB.out.range0 Tryz.underlying25 rfl (by kernel_rfl)
theorem pneed_no (fm W H bt C R b : Int) (w : World) (h : needB W H C R b = false) :
    Calls Tryz.prog 5 #[.agg #[.int .i64 fm, .int .i64 W, .int .i64 H, .int .i64 bt, .int .i64 C, .int .i64 R], .int .i64 b] w fun e w' => e = .returned (.agg (List.toArray [.int .i64 0, .int .i64 0, .int .i64 0, .int .i64 0])) ∧ Below w.heap.size w w' := by
  cases h0 : sideB W with
  | false => exact pneed_no0 fm W H bt C R b w h0
  | true =>
    cases h1 : sideB H with
    | false => exact pneed_no1 fm W H bt C R b w h0 h1
    | true =>
      cases h2 : countB C with
      | false => exact pneed_no2 fm W H bt C R b w h0 h1 h2
      | true =>
        cases h3 : countB R with
        | false => exact pneed_no3 fm W H bt C R b w h0 h1 h2 h3
        | true =>
          cases h4 : countB b with
          | false => exact pneed_no4 fm W H bt C R b w h0 h1 h2 h3 h4
          | true => unfold needB at h; rw [h0, h1, h2, h3, h4] at h; cases h
end Go.Proofs.YtcjjfnghgajefaaGreat

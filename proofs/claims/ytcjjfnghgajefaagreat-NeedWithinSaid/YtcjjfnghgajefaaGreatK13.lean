/- The law NeedWithin. -/
import Derived.Test.YtcjjfnghgajefaaGreatK11
import Derived.Test.YtcjjfnghgajefaaGreatK12
import Derived.Test.YtcjjfnghgajefaaGreatK0
namespace Go.Proofs.YtcjjfnghgajefaaGreat
open Go.RowKit
set_option linter.unusedVariables false
set_option linter.unusedSimpArgs false
theorem leB_self (x : Int) : leB x x = true := decide_eq_true (Or.inl (Int.le_refl x))
theorem within_self (a0 a1 a2 a3 : Int) : withinB a0 a1 a2 a3 a0 a1 a2 a3 = true := by unfold withinB; rw [leB_self, leB_self, leB_self, leB_self]; rfl
set_option maxRecDepth 100000 in
set_option maxHeartbeats 4000000 in
theorem nwith_0 (a0 a1 a2 a3 b0 b1 b2 b3 : Int) (w : World) (l0 : leB a0 b0 = false) : Calls Tryz.prog 4 #[.agg #[.int .i64 a0, .int .i64 a1, .int .i64 a2, .int .i64 a3], .agg #[.int .i64 b0, .int .i64 b1, .int .i64 b2, .int .i64 b3]] w (Yes31 w) := by
  have HW := Hi (fun w0 => (nwithin_any a0 a1 a2 a3 b0 b1 b2 b3 w0).mono (R' := fun e w' => e = .returned (.bool false) ∧ Below w0.heap.size w0 w') fun e w' hh => ⟨hh.1.trans (by unfold withinB; rw [l0]; rfl), hh.2⟩)
  have HWA := Hi (fun w0 => (nwithin_any a0 a1 a2 a3 a0 a1 a2 a3 w0).mono (R' := fun e w' => e = .returned (.bool true) ∧ Below w0.heap.size w0 w') fun e w' hh => ⟨hh.1.trans (by rw [within_self]), hh.2⟩)
  have HL0 := Hi (fun w0 => (nle_any a0 b0 w0).mono (R' := fun e w' => e = .returned (.bool false) ∧ w0 = w') fun e w' hh => ⟨hh.1.trans (by rw [l0]), hh.2⟩)
  clear l0
  have HAW := Hi (fun w0 => awake31 w0)
  have OA := Hi ((obj1_new w (List.toArray [.int .i64 a0, .int .i64 a1, .int .i64 a2, .int .i64 a3]) 25).alloc (.cells (List.toArray [.int .i64 b0, .int .i64 b1, .int .i64 b2, .int .i64 b3]) 25))
  have OB := Hi (obj1_new (w.alloc (.cells (List.toArray [.int .i64 a0, .int .i64 a1, .int .i64 a2, .int .i64 a3]) 25)) (List.toArray [.int .i64 b0, .int .i64 b1, .int .i64 b2, .int .i64 b3]) 25)
  have BL := Hi (((Below.refl w.heap.size w).alloc (Nat.le_refl _) (.cells (List.toArray [.int .i64 a0, .int .i64 a1, .int .i64 a2, .int .i64 a3]) 25)).alloc (by simp) (.cells (List.toArray [.int .i64 b0, .int .i64 b1, .int .i64 b2, .int .i64 b3]) 25))
  obtain ⟨d, hd⟩ : ∃ d, w.heap.size = d := ⟨_, rfl⟩
  have HDe := Hi hd
  rw [show (w.alloc (.cells (List.toArray [.int .i64 a0, .int .i64 a1, .int .i64 a2, .int .i64 a3]) 25)).heap.size = d + 1 by rw [← hd]; simp] at OB
  rw [hd] at OA
  go_enter Tryz.func4, Tryz.ntmps4
  go_upto_region 2 with (fail)
  clear hd
  generalize World.alloc (World.alloc _ _) _ = wc at OA OB BL ⊢
  have lgb := OB.out.lt
  refine wp_region_noPanic ?_
  refine wp_region_held_drew (S := fun w' => Below (d + 2) wc w') (by kernel_rfl) (Below.refl _ _).drew (fun hHeld => ?_)
  refine wpAnyH_take (i := 0) rfl (by kernel_rfl) (by kernel_rfl) (by kernel_rfl) (fun _ _ _ h => h) (yieldsIf_load_mid (by rfl) 25 _ rfl (d) 0 rfl [.int .i64 a0, .int .i64 a1, .int .i64 a2, .int .i64 a3] _ (fun w hS => (OA.out.below hS (by omega)).range0) Tryz.underlying25 rfl (by kernel_rfl)) hHeld ?_
  simp only [Act.put, zq1, zq2, zq3, zq4, zq5, zq6]
  refine wpAnyH_take (i := 1) rfl (by kernel_rfl) (by kernel_rfl) (by kernel_rfl) (fun _ _ _ h => h) (yieldsIf_load_mid (by rfl) 25 _ rfl (d + 1) 0 rfl [.int .i64 b0, .int .i64 b1, .int .i64 b2, .int .i64 b3] _ (fun w hS => (OB.out.below hS (by omega)).range0) Tryz.underlying25 rfl (by kernel_rfl)) hHeld ?_
  simp only [Act.put, zq1, zq2, zq3, zq4, zq5, zq6]
  refine wpAnyH_take (i := 3) (v := .func (.func 8) #[] #[]) rfl (by kernel_rfl) (by kernel_rfl) (by kernel_rfl) (fun _ _ _ h => h) (Or.inl ⟨by rfl, fun w hS => by go_simp⟩) hHeld ?_
  simp only [Act.put, zq1, zq2, zq3, zq4, zq5, zq6]
  refine wpAnyH_take (i := 4) (v := .pointer (some ⟨d, 0, none⟩)) rfl (by kernel_rfl) (by kernel_rfl) (by kernel_rfl) (fun _ _ _ h => h) (Or.inl ⟨by rfl, fun w hS => by go_simp⟩) hHeld ?_
  simp only [Act.put, zq1, zq2, zq3, zq4, zq5, zq6]
  refine wpAnyH_take (i := 5) (v := .int .i64 a0) rfl (by kernel_rfl) (by kernel_rfl) (by kernel_rfl) (fun _ _ _ h => h) (Or.inl ⟨by rfl, fun w hS => by (have hc : w.cell? ⟨d, 0, none⟩ = some (.int .i64 a0) := ((bcell hS).1 _ _ (by omega)).trans ((OA.out.cell 0).trans rfl); go_simp)⟩) hHeld ?_
  simp only [Act.put, zq1, zq2, zq3, zq4, zq5, zq6]
  refine wpAnyH_take (i := 6) (v := .pointer (some ⟨d + 1, 0, none⟩)) rfl (by kernel_rfl) (by kernel_rfl) (by kernel_rfl) (fun _ _ _ h => h) (Or.inl ⟨by rfl, fun w hS => by go_simp⟩) hHeld ?_
  simp only [Act.put, zq1, zq2, zq3, zq4, zq5, zq6]
  refine wpAnyH_take (i := 7) (v := .int .i64 b0) rfl (by kernel_rfl) (by kernel_rfl) (by kernel_rfl) (fun _ _ _ h => h) (Or.inl ⟨by rfl, fun w hS => by (have hc : w.cell? ⟨d + 1, 0, none⟩ = some (.int .i64 b0) := ((bcell hS).1 _ _ (by omega)).trans ((OB.out.cell 0).trans rfl); go_simp)⟩) hHeld ?_
  simp only [Act.put, zq1, zq2, zq3, zq4, zq5, zq6]
  have hS := (Below.refl (d + 2) wc).drew
  generalize World.drew _ = wk at hS ⊢
  refine wpAnyH_ready (rs := [2]) (by kernel_rfl) (by simp) ?_
  refine AllReadyH.cons (o := _) rfl (fun K' hK => ?_) AllReadyH.nil
  go_simp
  refine (HW.out _).mono ?_
  rintro e5 w1 ⟨rfl, hb5⟩
  have hS := bthen hb5 hS (Nat.le_trans (by omega) hS.size)
  go_wp2_with fail
  refine hK _ _ hS (fun hHeld => ?_)
  clear hK K'
  try simp only [Act.put, zq1, zq2, zq3, zq4, zq5, zq6]
  refine wpAnyH_ready (rs := [8]) (by kernel_rfl) (by simp) ?_
  refine AllReadyH.cons (o := _) rfl (fun K' hK => ?_) AllReadyH.nil
  go_simp
  refine (HL0.out _).mono ?_
  rintro e5 w2 ⟨rfl, rfl⟩
  go_wp2_with fail
  refine hK _ _ hS (fun hHeld => ?_)
  clear hK K'
  try simp only [Act.put, zq1, zq2, zq3, zq4, zq5, zq6]
  refine wpAnyH_take (i := 9) (v := .bool false) rfl (by kernel_rfl) (by kernel_rfl) (by kernel_rfl) (fun _ _ _ h => h) (Or.inl ⟨by rfl, fun w hS => by go_simp⟩) hHeld ?_
  simp only [Act.put, zq1, zq2, zq3, zq4, zq5, zq6]
  refine wpAnyH_take (i := 10) (v := undef) rfl (by kernel_rfl) (by kernel_rfl) (by kernel_rfl) (fun _ _ _ h => h) (Or.inr ⟨by rfl, rfl⟩) hHeld ?_
  simp only [Act.put, zq1, zq2, zq3, zq4, zq5, zq6]
  refine wpAnyH_take (i := 11) (v := undef) rfl (by kernel_rfl) (by kernel_rfl) (by kernel_rfl) (fun _ _ _ h => h) (Or.inr ⟨by rfl, rfl⟩) hHeld ?_
  simp only [Act.put, zq1, zq2, zq3, zq4, zq5, zq6]
  refine wpAnyH_take (i := 12) (v := undef) rfl (by kernel_rfl) (by kernel_rfl) (by kernel_rfl) (fun _ _ _ h => h) (Or.inr ⟨by rfl, rfl⟩) hHeld ?_
  simp only [Act.put, zq1, zq2, zq3, zq4, zq5, zq6]
  refine wpAnyH_take (i := 13) (v := undef) rfl (by kernel_rfl) (by kernel_rfl) (by kernel_rfl) (fun _ _ _ h => h) (Or.inr ⟨by rfl, rfl⟩) hHeld ?_
  simp only [Act.put, zq1, zq2, zq3, zq4, zq5, zq6]
  refine wpAnyH_take (i := 14) (v := undef) rfl (by kernel_rfl) (by kernel_rfl) (by kernel_rfl) (fun _ _ _ h => h) (Or.inr ⟨by rfl, rfl⟩) hHeld ?_
  simp only [Act.put, zq1, zq2, zq3, zq4, zq5, zq6]
  refine wpAnyH_take (i := 15) (v := undef) rfl (by kernel_rfl) (by kernel_rfl) (by kernel_rfl) (fun _ _ _ h => h) (Or.inr ⟨by rfl, rfl⟩) hHeld ?_
  simp only [Act.put, zq1, zq2, zq3, zq4, zq5, zq6]
  refine wpAnyH_take (i := 16) (v := .bool false) rfl (by kernel_rfl) (by kernel_rfl) (by kernel_rfl) (fun _ _ _ h => h) (Or.inl ⟨by rfl, fun w hS => by go_simp⟩) hHeld ?_
  simp only [Act.put, zq1, zq2, zq3, zq4, zq5, zq6]
  refine wpAnyH_take (i := 17) (v := .bool false) rfl (by kernel_rfl) (by kernel_rfl) (by kernel_rfl) (fun _ _ _ h => h) (Or.inl ⟨by rfl, fun w hS => by go_simp⟩) hHeld ?_
  simp only [Act.put, zq1, zq2, zq3, zq4, zq5, zq6]
  refine wpAnyH_take (i := 18) (v := undef) rfl (by kernel_rfl) (by kernel_rfl) (by kernel_rfl) (fun _ _ _ h => h) (Or.inr ⟨by rfl, rfl⟩) hHeld ?_
  simp only [Act.put, zq1, zq2, zq3, zq4, zq5, zq6]
  refine wpAnyH_take (i := 19) (v := undef) rfl (by kernel_rfl) (by kernel_rfl) (by kernel_rfl) (fun _ _ _ h => h) (Or.inr ⟨by rfl, rfl⟩) hHeld ?_
  simp only [Act.put, zq1, zq2, zq3, zq4, zq5, zq6]
  refine wpAnyH_take (i := 20) (v := undef) rfl (by kernel_rfl) (by kernel_rfl) (by kernel_rfl) (fun _ _ _ h => h) (Or.inr ⟨by rfl, rfl⟩) hHeld ?_
  simp only [Act.put, zq1, zq2, zq3, zq4, zq5, zq6]
  refine wpAnyH_take (i := 21) (v := undef) rfl (by kernel_rfl) (by kernel_rfl) (by kernel_rfl) (fun _ _ _ h => h) (Or.inr ⟨by rfl, rfl⟩) hHeld ?_
  simp only [Act.put, zq1, zq2, zq3, zq4, zq5, zq6]
  refine wpAnyH_take (i := 22) (v := undef) rfl (by kernel_rfl) (by kernel_rfl) (by kernel_rfl) (fun _ _ _ h => h) (Or.inr ⟨by rfl, rfl⟩) hHeld ?_
  simp only [Act.put, zq1, zq2, zq3, zq4, zq5, zq6]
  refine wpAnyH_take (i := 23) (v := undef) rfl (by kernel_rfl) (by kernel_rfl) (by kernel_rfl) (fun _ _ _ h => h) (Or.inr ⟨by rfl, rfl⟩) hHeld ?_
  simp only [Act.put, zq1, zq2, zq3, zq4, zq5, zq6]
  refine wpAnyH_take (i := 24) (v := .bool false) rfl (by kernel_rfl) (by kernel_rfl) (by kernel_rfl) (fun _ _ _ h => h) (Or.inl ⟨by rfl, fun w hS => by go_simp⟩) hHeld ?_
  simp only [Act.put, zq1, zq2, zq3, zq4, zq5, zq6]
  refine wpAnyH_take (i := 25) (v := .bool false) rfl (by kernel_rfl) (by kernel_rfl) (by kernel_rfl) (fun _ _ _ h => h) (Or.inl ⟨by rfl, fun w hS => by go_simp⟩) hHeld ?_
  simp only [Act.put, zq1, zq2, zq3, zq4, zq5, zq6]
  refine wpAnyH_take (i := 26) (v := undef) rfl (by kernel_rfl) (by kernel_rfl) (by kernel_rfl) (fun _ _ _ h => h) (Or.inr ⟨by rfl, rfl⟩) hHeld ?_
  simp only [Act.put, zq1, zq2, zq3, zq4, zq5, zq6]
  refine wpAnyH_take (i := 27) (v := undef) rfl (by kernel_rfl) (by kernel_rfl) (by kernel_rfl) (fun _ _ _ h => h) (Or.inr ⟨by rfl, rfl⟩) hHeld ?_
  simp only [Act.put, zq1, zq2, zq3, zq4, zq5, zq6]
  refine wpAnyH_take (i := 28) (v := undef) rfl (by kernel_rfl) (by kernel_rfl) (by kernel_rfl) (fun _ _ _ h => h) (Or.inr ⟨by rfl, rfl⟩) hHeld ?_
  simp only [Act.put, zq1, zq2, zq3, zq4, zq5, zq6]
  refine wpAnyH_take (i := 29) (v := undef) rfl (by kernel_rfl) (by kernel_rfl) (by kernel_rfl) (fun _ _ _ h => h) (Or.inr ⟨by rfl, rfl⟩) hHeld ?_
  simp only [Act.put, zq1, zq2, zq3, zq4, zq5, zq6]
  refine wpAnyH_take (i := 30) (v := undef) rfl (by kernel_rfl) (by kernel_rfl) (by kernel_rfl) (fun _ _ _ h => h) (Or.inr ⟨by rfl, rfl⟩) hHeld ?_
  simp only [Act.put, zq1, zq2, zq3, zq4, zq5, zq6]
  refine wpAnyH_take (i := 31) (v := undef) rfl (by kernel_rfl) (by kernel_rfl) (by kernel_rfl) (fun _ _ _ h => h) (Or.inr ⟨by rfl, rfl⟩) hHeld ?_
  simp only [Act.put, zq1, zq2, zq3, zq4, zq5, zq6]
  refine wpAnyH_take (i := 32) (v := .bool false) rfl (by kernel_rfl) (by kernel_rfl) (by kernel_rfl) (fun _ _ _ h => h) (Or.inl ⟨by rfl, fun w hS => by go_simp⟩) hHeld ?_
  simp only [Act.put, zq1, zq2, zq3, zq4, zq5, zq6]
  refine wpAnyH_take (i := 33) (v := .bool true) rfl (by kernel_rfl) (by kernel_rfl) (by kernel_rfl) (fun _ _ _ h => h) (Or.inl ⟨by rfl, fun w hS => by go_simp⟩) hHeld ?_
  simp only [Act.put, zq1, zq2, zq3, zq4, zq5, zq6]
  refine wpAnyH_take (i := 34) (v := .bool true) rfl (by kernel_rfl) (by kernel_rfl) (by kernel_rfl) (fun _ _ _ h => h) (Or.inl ⟨by rfl, fun w hS => by go_simp⟩) hHeld ?_
  simp only [Act.put, zq1, zq2, zq3, zq4, zq5, zq6]
  refine wpAnyH_take (i := 35) rfl (by kernel_rfl) (by kernel_rfl) (by kernel_rfl) (fun _ _ _ h => h) (yieldsIf_load_mid (by rfl) 25 _ rfl (d) 0 rfl [.int .i64 a0, .int .i64 a1, .int .i64 a2, .int .i64 a3] _ (fun w hS => (OA.out.below hS (by omega)).range0) Tryz.underlying25 rfl (by kernel_rfl)) hHeld ?_
  simp only [Act.put, zq1, zq2, zq3, zq4, zq5, zq6]
  refine wpAnyH_take (i := 36) rfl (by kernel_rfl) (by kernel_rfl) (by kernel_rfl) (fun _ _ _ h => h) (yieldsIf_load_mid (by rfl) 25 _ rfl (d) 0 rfl [.int .i64 a0, .int .i64 a1, .int .i64 a2, .int .i64 a3] _ (fun w hS => (OA.out.below hS (by omega)).range0) Tryz.underlying25 rfl (by kernel_rfl)) hHeld ?_
  simp only [Act.put, zq1, zq2, zq3, zq4, zq5, zq6]
  refine wpAnyH_ready (rs := [37]) (by kernel_rfl) (by simp) ?_
  refine AllReadyH.cons (o := _) rfl (fun K' hK => ?_) AllReadyH.nil
  go_simp
  refine (HWA.out _).mono ?_
  rintro e5 w3 ⟨rfl, hb5⟩
  have hS := bthen hb5 hS (Nat.le_trans (by omega) hS.size)
  go_wp2_with fail
  refine hK _ _ hS (fun hHeld => ?_)
  clear hK K'
  try simp only [Act.put, zq1, zq2, zq3, zq4, zq5, zq6]
  refine wpAnyH_take (i := 38) (v := .bool true) rfl (by kernel_rfl) (by kernel_rfl) (by kernel_rfl) (fun _ _ _ h => h) (Or.inl ⟨by rfl, fun w hS => by go_simp⟩) hHeld ?_
  simp only [Act.put, zq1, zq2, zq3, zq4, zq5, zq6]
  refine wpAnyH_take (i := 39) (v := .bool true) rfl (by kernel_rfl) (by kernel_rfl) (by kernel_rfl) (fun _ _ _ h => h) (Or.inl ⟨by rfl, fun w hS => by go_simp⟩) hHeld ?_
  simp only [Act.put, zq1, zq2, zq3, zq4, zq5, zq6]
  refine wpAnyH_ready (rs := [40]) (by kernel_rfl) (by simp) ?_
  refine AllReadyH.cons (o := _) rfl (fun K' hK => ?_) AllReadyH.nil
  go_simp
  refine (HAW.out _).mono ?_
  rintro e5 w4 ⟨rfl, hb5⟩
  have hS := bthen hb5 hS (Nat.le_trans (by omega) hS.size)
  go_wp2_with fail
  refine hK _ _ hS (fun hHeld => ?_)
  clear hK K'
  try simp only [Act.put, zq1, zq2, zq3, zq4, zq5, zq6]
  refine wpAnyH_take (i := 41) (v := .bool true) rfl (by kernel_rfl) (by kernel_rfl) (by kernel_rfl) (fun _ _ _ h => h) (Or.inl ⟨by rfl, fun w hS => by go_simp⟩) hHeld ?_
  simp only [Act.put, zq1, zq2, zq3, zq4, zq5, zq6]
  refine wpAnyH_take (i := 42) (v := .bool true) rfl (by kernel_rfl) (by kernel_rfl) (by kernel_rfl) (fun _ _ _ h => h) (Or.inl ⟨by rfl, fun w hS => by go_simp⟩) hHeld ?_
  simp only [Act.put, zq1, zq2, zq3, zq4, zq5, zq6]
  refine wpAnyH_done (by kernel_rfl) ?_ _
  refine NoPanic.normal ?_
  have BL := Hi (BL.out.trans (hS.mono (by have := HDe.out; omega)))
  go_wp2_with fail
  go_ret
  exact ⟨rfl, BL.out⟩
set_option maxRecDepth 100000 in
set_option maxHeartbeats 4000000 in
theorem nwith_1 (a0 a1 a2 a3 b0 b1 b2 b3 : Int) (w : World) (l0 : leB a0 b0 = true) (l1 : leB a1 b1 = false) : Calls Tryz.prog 4 #[.agg #[.int .i64 a0, .int .i64 a1, .int .i64 a2, .int .i64 a3], .agg #[.int .i64 b0, .int .i64 b1, .int .i64 b2, .int .i64 b3]] w (Yes31 w) := by
  have HW := Hi (fun w0 => (nwithin_any a0 a1 a2 a3 b0 b1 b2 b3 w0).mono (R' := fun e w' => e = .returned (.bool false) ∧ Below w0.heap.size w0 w') fun e w' hh => ⟨hh.1.trans (by unfold withinB; rw [l0, l1]; rfl), hh.2⟩)
  have HWA := Hi (fun w0 => (nwithin_any a0 a1 a2 a3 a0 a1 a2 a3 w0).mono (R' := fun e w' => e = .returned (.bool true) ∧ Below w0.heap.size w0 w') fun e w' hh => ⟨hh.1.trans (by rw [within_self]), hh.2⟩)
  have HL0 := Hi (fun w0 => (nle_any a0 b0 w0).mono (R' := fun e w' => e = .returned (.bool true) ∧ w0 = w') fun e w' hh => ⟨hh.1.trans (by rw [l0]), hh.2⟩)
  have HL1 := Hi (fun w0 => (nle_any a1 b1 w0).mono (R' := fun e w' => e = .returned (.bool false) ∧ w0 = w') fun e w' hh => ⟨hh.1.trans (by rw [l1]), hh.2⟩)
  clear l0 l1
  have HAW := Hi (fun w0 => awake31 w0)
  have OA := Hi ((obj1_new w (List.toArray [.int .i64 a0, .int .i64 a1, .int .i64 a2, .int .i64 a3]) 25).alloc (.cells (List.toArray [.int .i64 b0, .int .i64 b1, .int .i64 b2, .int .i64 b3]) 25))
  have OB := Hi (obj1_new (w.alloc (.cells (List.toArray [.int .i64 a0, .int .i64 a1, .int .i64 a2, .int .i64 a3]) 25)) (List.toArray [.int .i64 b0, .int .i64 b1, .int .i64 b2, .int .i64 b3]) 25)
  have BL := Hi (((Below.refl w.heap.size w).alloc (Nat.le_refl _) (.cells (List.toArray [.int .i64 a0, .int .i64 a1, .int .i64 a2, .int .i64 a3]) 25)).alloc (by simp) (.cells (List.toArray [.int .i64 b0, .int .i64 b1, .int .i64 b2, .int .i64 b3]) 25))
  obtain ⟨d, hd⟩ : ∃ d, w.heap.size = d := ⟨_, rfl⟩
  have HDe := Hi hd
  rw [show (w.alloc (.cells (List.toArray [.int .i64 a0, .int .i64 a1, .int .i64 a2, .int .i64 a3]) 25)).heap.size = d + 1 by rw [← hd]; simp] at OB
  rw [hd] at OA
  go_enter Tryz.func4, Tryz.ntmps4
  go_upto_region 2 with (fail)
  clear hd
  generalize World.alloc (World.alloc _ _) _ = wc at OA OB BL ⊢
  have lgb := OB.out.lt
  refine wp_region_noPanic ?_
  refine wp_region_held_drew (S := fun w' => Below (d + 2) wc w') (by kernel_rfl) (Below.refl _ _).drew (fun hHeld => ?_)
  refine wpAnyH_take (i := 0) rfl (by kernel_rfl) (by kernel_rfl) (by kernel_rfl) (fun _ _ _ h => h) (yieldsIf_load_mid (by rfl) 25 _ rfl (d) 0 rfl [.int .i64 a0, .int .i64 a1, .int .i64 a2, .int .i64 a3] _ (fun w hS => (OA.out.below hS (by omega)).range0) Tryz.underlying25 rfl (by kernel_rfl)) hHeld ?_
  simp only [Act.put, zq1, zq2, zq3, zq4, zq5, zq6]
  refine wpAnyH_take (i := 1) rfl (by kernel_rfl) (by kernel_rfl) (by kernel_rfl) (fun _ _ _ h => h) (yieldsIf_load_mid (by rfl) 25 _ rfl (d + 1) 0 rfl [.int .i64 b0, .int .i64 b1, .int .i64 b2, .int .i64 b3] _ (fun w hS => (OB.out.below hS (by omega)).range0) Tryz.underlying25 rfl (by kernel_rfl)) hHeld ?_
  simp only [Act.put, zq1, zq2, zq3, zq4, zq5, zq6]
  refine wpAnyH_take (i := 3) (v := .func (.func 8) #[] #[]) rfl (by kernel_rfl) (by kernel_rfl) (by kernel_rfl) (fun _ _ _ h => h) (Or.inl ⟨by rfl, fun w hS => by go_simp⟩) hHeld ?_
  simp only [Act.put, zq1, zq2, zq3, zq4, zq5, zq6]
  refine wpAnyH_take (i := 4) (v := .pointer (some ⟨d, 0, none⟩)) rfl (by kernel_rfl) (by kernel_rfl) (by kernel_rfl) (fun _ _ _ h => h) (Or.inl ⟨by rfl, fun w hS => by go_simp⟩) hHeld ?_
  simp only [Act.put, zq1, zq2, zq3, zq4, zq5, zq6]
  refine wpAnyH_take (i := 5) (v := .int .i64 a0) rfl (by kernel_rfl) (by kernel_rfl) (by kernel_rfl) (fun _ _ _ h => h) (Or.inl ⟨by rfl, fun w hS => by (have hc : w.cell? ⟨d, 0, none⟩ = some (.int .i64 a0) := ((bcell hS).1 _ _ (by omega)).trans ((OA.out.cell 0).trans rfl); go_simp)⟩) hHeld ?_
  simp only [Act.put, zq1, zq2, zq3, zq4, zq5, zq6]
  refine wpAnyH_take (i := 6) (v := .pointer (some ⟨d + 1, 0, none⟩)) rfl (by kernel_rfl) (by kernel_rfl) (by kernel_rfl) (fun _ _ _ h => h) (Or.inl ⟨by rfl, fun w hS => by go_simp⟩) hHeld ?_
  simp only [Act.put, zq1, zq2, zq3, zq4, zq5, zq6]
  refine wpAnyH_take (i := 7) (v := .int .i64 b0) rfl (by kernel_rfl) (by kernel_rfl) (by kernel_rfl) (fun _ _ _ h => h) (Or.inl ⟨by rfl, fun w hS => by (have hc : w.cell? ⟨d + 1, 0, none⟩ = some (.int .i64 b0) := ((bcell hS).1 _ _ (by omega)).trans ((OB.out.cell 0).trans rfl); go_simp)⟩) hHeld ?_
  simp only [Act.put, zq1, zq2, zq3, zq4, zq5, zq6]
  have hS := (Below.refl (d + 2) wc).drew
  generalize World.drew _ = wk at hS ⊢
  refine wpAnyH_ready (rs := [2]) (by kernel_rfl) (by simp) ?_
  refine AllReadyH.cons (o := _) rfl (fun K' hK => ?_) AllReadyH.nil
  go_simp
  refine (HW.out _).mono ?_
  rintro e5 w1 ⟨rfl, hb5⟩
  have hS := bthen hb5 hS (Nat.le_trans (by omega) hS.size)
  go_wp2_with fail
  refine hK _ _ hS (fun hHeld => ?_)
  clear hK K'
  try simp only [Act.put, zq1, zq2, zq3, zq4, zq5, zq6]
  refine wpAnyH_ready (rs := [8]) (by kernel_rfl) (by simp) ?_
  refine AllReadyH.cons (o := _) rfl (fun K' hK => ?_) AllReadyH.nil
  go_simp
  refine (HL0.out _).mono ?_
  rintro e5 w2 ⟨rfl, rfl⟩
  go_wp2_with fail
  refine hK _ _ hS (fun hHeld => ?_)
  clear hK K'
  try simp only [Act.put, zq1, zq2, zq3, zq4, zq5, zq6]
  refine wpAnyH_take (i := 9) (v := .bool true) rfl (by kernel_rfl) (by kernel_rfl) (by kernel_rfl) (fun _ _ _ h => h) (Or.inl ⟨by rfl, fun w hS => by go_simp⟩) hHeld ?_
  simp only [Act.put, zq1, zq2, zq3, zq4, zq5, zq6]
  refine wpAnyH_take (i := 10) (v := .func (.func 8) #[] #[]) rfl (by kernel_rfl) (by kernel_rfl) (by kernel_rfl) (fun _ _ _ h => h) (Or.inl ⟨by rfl, fun w hS => by go_simp⟩) hHeld ?_
  simp only [Act.put, zq1, zq2, zq3, zq4, zq5, zq6]
  refine wpAnyH_take (i := 11) (v := .pointer (some ⟨d, 1, none⟩)) rfl (by kernel_rfl) (by kernel_rfl) (by kernel_rfl) (fun _ _ _ h => h) (Or.inl ⟨by rfl, fun w hS => by go_simp⟩) hHeld ?_
  simp only [Act.put, zq1, zq2, zq3, zq4, zq5, zq6]
  refine wpAnyH_take (i := 12) (v := .int .i64 a1) rfl (by kernel_rfl) (by kernel_rfl) (by kernel_rfl) (fun _ _ _ h => h) (Or.inl ⟨by rfl, fun w hS => by (have hc : w.cell? ⟨d, 1, none⟩ = some (.int .i64 a1) := ((bcell hS).1 _ _ (by omega)).trans ((OA.out.cell 1).trans rfl); go_simp)⟩) hHeld ?_
  simp only [Act.put, zq1, zq2, zq3, zq4, zq5, zq6]
  refine wpAnyH_take (i := 13) (v := .pointer (some ⟨d + 1, 1, none⟩)) rfl (by kernel_rfl) (by kernel_rfl) (by kernel_rfl) (fun _ _ _ h => h) (Or.inl ⟨by rfl, fun w hS => by go_simp⟩) hHeld ?_
  simp only [Act.put, zq1, zq2, zq3, zq4, zq5, zq6]
  refine wpAnyH_take (i := 14) (v := .int .i64 b1) rfl (by kernel_rfl) (by kernel_rfl) (by kernel_rfl) (fun _ _ _ h => h) (Or.inl ⟨by rfl, fun w hS => by (have hc : w.cell? ⟨d + 1, 1, none⟩ = some (.int .i64 b1) := ((bcell hS).1 _ _ (by omega)).trans ((OB.out.cell 1).trans rfl); go_simp)⟩) hHeld ?_
  simp only [Act.put, zq1, zq2, zq3, zq4, zq5, zq6]
  refine wpAnyH_ready (rs := [15]) (by kernel_rfl) (by simp) ?_
  refine AllReadyH.cons (o := _) rfl (fun K' hK => ?_) AllReadyH.nil
  go_simp
  refine (HL1.out _).mono ?_
  rintro e5 w3 ⟨rfl, rfl⟩
  go_wp2_with fail
  refine hK _ _ hS (fun hHeld => ?_)
  clear hK K'
  try simp only [Act.put, zq1, zq2, zq3, zq4, zq5, zq6]
  refine wpAnyH_take (i := 16) (v := .bool false) rfl (by kernel_rfl) (by kernel_rfl) (by kernel_rfl) (fun _ _ _ h => h) (Or.inl ⟨by rfl, fun w hS => by go_simp⟩) hHeld ?_
  simp only [Act.put, zq1, zq2, zq3, zq4, zq5, zq6]
  refine wpAnyH_take (i := 17) (v := .bool false) rfl (by kernel_rfl) (by kernel_rfl) (by kernel_rfl) (fun _ _ _ h => h) (Or.inl ⟨by rfl, fun w hS => by go_simp⟩) hHeld ?_
  simp only [Act.put, zq1, zq2, zq3, zq4, zq5, zq6]
  refine wpAnyH_take (i := 18) (v := undef) rfl (by kernel_rfl) (by kernel_rfl) (by kernel_rfl) (fun _ _ _ h => h) (Or.inr ⟨by rfl, rfl⟩) hHeld ?_
  simp only [Act.put, zq1, zq2, zq3, zq4, zq5, zq6]
  refine wpAnyH_take (i := 19) (v := undef) rfl (by kernel_rfl) (by kernel_rfl) (by kernel_rfl) (fun _ _ _ h => h) (Or.inr ⟨by rfl, rfl⟩) hHeld ?_
  simp only [Act.put, zq1, zq2, zq3, zq4, zq5, zq6]
  refine wpAnyH_take (i := 20) (v := undef) rfl (by kernel_rfl) (by kernel_rfl) (by kernel_rfl) (fun _ _ _ h => h) (Or.inr ⟨by rfl, rfl⟩) hHeld ?_
  simp only [Act.put, zq1, zq2, zq3, zq4, zq5, zq6]
  refine wpAnyH_take (i := 21) (v := undef) rfl (by kernel_rfl) (by kernel_rfl) (by kernel_rfl) (fun _ _ _ h => h) (Or.inr ⟨by rfl, rfl⟩) hHeld ?_
  simp only [Act.put, zq1, zq2, zq3, zq4, zq5, zq6]
  refine wpAnyH_take (i := 22) (v := undef) rfl (by kernel_rfl) (by kernel_rfl) (by kernel_rfl) (fun _ _ _ h => h) (Or.inr ⟨by rfl, rfl⟩) hHeld ?_
  simp only [Act.put, zq1, zq2, zq3, zq4, zq5, zq6]
  refine wpAnyH_take (i := 23) (v := undef) rfl (by kernel_rfl) (by kernel_rfl) (by kernel_rfl) (fun _ _ _ h => h) (Or.inr ⟨by rfl, rfl⟩) hHeld ?_
  simp only [Act.put, zq1, zq2, zq3, zq4, zq5, zq6]
  refine wpAnyH_take (i := 24) (v := .bool false) rfl (by kernel_rfl) (by kernel_rfl) (by kernel_rfl) (fun _ _ _ h => h) (Or.inl ⟨by rfl, fun w hS => by go_simp⟩) hHeld ?_
  simp only [Act.put, zq1, zq2, zq3, zq4, zq5, zq6]
  refine wpAnyH_take (i := 25) (v := .bool false) rfl (by kernel_rfl) (by kernel_rfl) (by kernel_rfl) (fun _ _ _ h => h) (Or.inl ⟨by rfl, fun w hS => by go_simp⟩) hHeld ?_
  simp only [Act.put, zq1, zq2, zq3, zq4, zq5, zq6]
  refine wpAnyH_take (i := 26) (v := undef) rfl (by kernel_rfl) (by kernel_rfl) (by kernel_rfl) (fun _ _ _ h => h) (Or.inr ⟨by rfl, rfl⟩) hHeld ?_
  simp only [Act.put, zq1, zq2, zq3, zq4, zq5, zq6]
  refine wpAnyH_take (i := 27) (v := undef) rfl (by kernel_rfl) (by kernel_rfl) (by kernel_rfl) (fun _ _ _ h => h) (Or.inr ⟨by rfl, rfl⟩) hHeld ?_
  simp only [Act.put, zq1, zq2, zq3, zq4, zq5, zq6]
  refine wpAnyH_take (i := 28) (v := undef) rfl (by kernel_rfl) (by kernel_rfl) (by kernel_rfl) (fun _ _ _ h => h) (Or.inr ⟨by rfl, rfl⟩) hHeld ?_
  simp only [Act.put, zq1, zq2, zq3, zq4, zq5, zq6]
  refine wpAnyH_take (i := 29) (v := undef) rfl (by kernel_rfl) (by kernel_rfl) (by kernel_rfl) (fun _ _ _ h => h) (Or.inr ⟨by rfl, rfl⟩) hHeld ?_
  simp only [Act.put, zq1, zq2, zq3, zq4, zq5, zq6]
  refine wpAnyH_take (i := 30) (v := undef) rfl (by kernel_rfl) (by kernel_rfl) (by kernel_rfl) (fun _ _ _ h => h) (Or.inr ⟨by rfl, rfl⟩) hHeld ?_
  simp only [Act.put, zq1, zq2, zq3, zq4, zq5, zq6]
  refine wpAnyH_take (i := 31) (v := undef) rfl (by kernel_rfl) (by kernel_rfl) (by kernel_rfl) (fun _ _ _ h => h) (Or.inr ⟨by rfl, rfl⟩) hHeld ?_
  simp only [Act.put, zq1, zq2, zq3, zq4, zq5, zq6]
  refine wpAnyH_take (i := 32) (v := .bool false) rfl (by kernel_rfl) (by kernel_rfl) (by kernel_rfl) (fun _ _ _ h => h) (Or.inl ⟨by rfl, fun w hS => by go_simp⟩) hHeld ?_
  simp only [Act.put, zq1, zq2, zq3, zq4, zq5, zq6]
  refine wpAnyH_take (i := 33) (v := .bool true) rfl (by kernel_rfl) (by kernel_rfl) (by kernel_rfl) (fun _ _ _ h => h) (Or.inl ⟨by rfl, fun w hS => by go_simp⟩) hHeld ?_
  simp only [Act.put, zq1, zq2, zq3, zq4, zq5, zq6]
  refine wpAnyH_take (i := 34) (v := .bool true) rfl (by kernel_rfl) (by kernel_rfl) (by kernel_rfl) (fun _ _ _ h => h) (Or.inl ⟨by rfl, fun w hS => by go_simp⟩) hHeld ?_
  simp only [Act.put, zq1, zq2, zq3, zq4, zq5, zq6]
  refine wpAnyH_take (i := 35) rfl (by kernel_rfl) (by kernel_rfl) (by kernel_rfl) (fun _ _ _ h => h) (yieldsIf_load_mid (by rfl) 25 _ rfl (d) 0 rfl [.int .i64 a0, .int .i64 a1, .int .i64 a2, .int .i64 a3] _ (fun w hS => (OA.out.below hS (by omega)).range0) Tryz.underlying25 rfl (by kernel_rfl)) hHeld ?_
  simp only [Act.put, zq1, zq2, zq3, zq4, zq5, zq6]
  refine wpAnyH_take (i := 36) rfl (by kernel_rfl) (by kernel_rfl) (by kernel_rfl) (fun _ _ _ h => h) (yieldsIf_load_mid (by rfl) 25 _ rfl (d) 0 rfl [.int .i64 a0, .int .i64 a1, .int .i64 a2, .int .i64 a3] _ (fun w hS => (OA.out.below hS (by omega)).range0) Tryz.underlying25 rfl (by kernel_rfl)) hHeld ?_
  simp only [Act.put, zq1, zq2, zq3, zq4, zq5, zq6]
  refine wpAnyH_ready (rs := [37]) (by kernel_rfl) (by simp) ?_
  refine AllReadyH.cons (o := _) rfl (fun K' hK => ?_) AllReadyH.nil
  go_simp
  refine (HWA.out _).mono ?_
  rintro e5 w4 ⟨rfl, hb5⟩
  have hS := bthen hb5 hS (Nat.le_trans (by omega) hS.size)
  go_wp2_with fail
  refine hK _ _ hS (fun hHeld => ?_)
  clear hK K'
  try simp only [Act.put, zq1, zq2, zq3, zq4, zq5, zq6]
  refine wpAnyH_take (i := 38) (v := .bool true) rfl (by kernel_rfl) (by kernel_rfl) (by kernel_rfl) (fun _ _ _ h => h) (Or.inl ⟨by rfl, fun w hS => by go_simp⟩) hHeld ?_
  simp only [Act.put, zq1, zq2, zq3, zq4, zq5, zq6]
  refine wpAnyH_take (i := 39) (v := .bool true) rfl (by kernel_rfl) (by kernel_rfl) (by kernel_rfl) (fun _ _ _ h => h) (Or.inl ⟨by rfl, fun w hS => by go_simp⟩) hHeld ?_
  simp only [Act.put, zq1, zq2, zq3, zq4, zq5, zq6]
  refine wpAnyH_ready (rs := [40]) (by kernel_rfl) (by simp) ?_
  refine AllReadyH.cons (o := _) rfl (fun K' hK => ?_) AllReadyH.nil
  go_simp
  refine (HAW.out _).mono ?_
  rintro e5 w5 ⟨rfl, hb5⟩
  have hS := bthen hb5 hS (Nat.le_trans (by omega) hS.size)
  go_wp2_with fail
  refine hK _ _ hS (fun hHeld => ?_)
  clear hK K'
  try simp only [Act.put, zq1, zq2, zq3, zq4, zq5, zq6]
  refine wpAnyH_take (i := 41) (v := .bool true) rfl (by kernel_rfl) (by kernel_rfl) (by kernel_rfl) (fun _ _ _ h => h) (Or.inl ⟨by rfl, fun w hS => by go_simp⟩) hHeld ?_
  simp only [Act.put, zq1, zq2, zq3, zq4, zq5, zq6]
  refine wpAnyH_take (i := 42) (v := .bool true) rfl (by kernel_rfl) (by kernel_rfl) (by kernel_rfl) (fun _ _ _ h => h) (Or.inl ⟨by rfl, fun w hS => by go_simp⟩) hHeld ?_
  simp only [Act.put, zq1, zq2, zq3, zq4, zq5, zq6]
  refine wpAnyH_done (by kernel_rfl) ?_ _
  refine NoPanic.normal ?_
  have BL := Hi (BL.out.trans (hS.mono (by have := HDe.out; omega)))
  go_wp2_with fail
  go_ret
  exact ⟨rfl, BL.out⟩
set_option maxRecDepth 100000 in
set_option maxHeartbeats 4000000 in
theorem nwith_2 (a0 a1 a2 a3 b0 b1 b2 b3 : Int) (w : World) (l0 : leB a0 b0 = true) (l1 : leB a1 b1 = true) (l2 : leB a2 b2 = false) : Calls Tryz.prog 4 #[.agg #[.int .i64 a0, .int .i64 a1, .int .i64 a2, .int .i64 a3], .agg #[.int .i64 b0, .int .i64 b1, .int .i64 b2, .int .i64 b3]] w (Yes31 w) := by
  have HW := Hi (fun w0 => (nwithin_any a0 a1 a2 a3 b0 b1 b2 b3 w0).mono (R' := fun e w' => e = .returned (.bool false) ∧ Below w0.heap.size w0 w') fun e w' hh => ⟨hh.1.trans (by unfold withinB; rw [l0, l1, l2]; rfl), hh.2⟩)
  have HWA := Hi (fun w0 => (nwithin_any a0 a1 a2 a3 a0 a1 a2 a3 w0).mono (R' := fun e w' => e = .returned (.bool true) ∧ Below w0.heap.size w0 w') fun e w' hh => ⟨hh.1.trans (by rw [within_self]), hh.2⟩)
  have HL0 := Hi (fun w0 => (nle_any a0 b0 w0).mono (R' := fun e w' => e = .returned (.bool true) ∧ w0 = w') fun e w' hh => ⟨hh.1.trans (by rw [l0]), hh.2⟩)
  have HL1 := Hi (fun w0 => (nle_any a1 b1 w0).mono (R' := fun e w' => e = .returned (.bool true) ∧ w0 = w') fun e w' hh => ⟨hh.1.trans (by rw [l1]), hh.2⟩)
  have HL2 := Hi (fun w0 => (nle_any a2 b2 w0).mono (R' := fun e w' => e = .returned (.bool false) ∧ w0 = w') fun e w' hh => ⟨hh.1.trans (by rw [l2]), hh.2⟩)
  clear l0 l1 l2
  have HAW := Hi (fun w0 => awake31 w0)
  have OA := Hi ((obj1_new w (List.toArray [.int .i64 a0, .int .i64 a1, .int .i64 a2, .int .i64 a3]) 25).alloc (.cells (List.toArray [.int .i64 b0, .int .i64 b1, .int .i64 b2, .int .i64 b3]) 25))
  have OB := Hi (obj1_new (w.alloc (.cells (List.toArray [.int .i64 a0, .int .i64 a1, .int .i64 a2, .int .i64 a3]) 25)) (List.toArray [.int .i64 b0, .int .i64 b1, .int .i64 b2, .int .i64 b3]) 25)
  have BL := Hi (((Below.refl w.heap.size w).alloc (Nat.le_refl _) (.cells (List.toArray [.int .i64 a0, .int .i64 a1, .int .i64 a2, .int .i64 a3]) 25)).alloc (by simp) (.cells (List.toArray [.int .i64 b0, .int .i64 b1, .int .i64 b2, .int .i64 b3]) 25))
  obtain ⟨d, hd⟩ : ∃ d, w.heap.size = d := ⟨_, rfl⟩
  have HDe := Hi hd
  rw [show (w.alloc (.cells (List.toArray [.int .i64 a0, .int .i64 a1, .int .i64 a2, .int .i64 a3]) 25)).heap.size = d + 1 by rw [← hd]; simp] at OB
  rw [hd] at OA
  go_enter Tryz.func4, Tryz.ntmps4
  go_upto_region 2 with (fail)
  clear hd
  generalize World.alloc (World.alloc _ _) _ = wc at OA OB BL ⊢
  have lgb := OB.out.lt
  refine wp_region_noPanic ?_
  refine wp_region_held_drew (S := fun w' => Below (d + 2) wc w') (by kernel_rfl) (Below.refl _ _).drew (fun hHeld => ?_)
  refine wpAnyH_take (i := 0) rfl (by kernel_rfl) (by kernel_rfl) (by kernel_rfl) (fun _ _ _ h => h) (yieldsIf_load_mid (by rfl) 25 _ rfl (d) 0 rfl [.int .i64 a0, .int .i64 a1, .int .i64 a2, .int .i64 a3] _ (fun w hS => (OA.out.below hS (by omega)).range0) Tryz.underlying25 rfl (by kernel_rfl)) hHeld ?_
  simp only [Act.put, zq1, zq2, zq3, zq4, zq5, zq6]
  refine wpAnyH_take (i := 1) rfl (by kernel_rfl) (by kernel_rfl) (by kernel_rfl) (fun _ _ _ h => h) (yieldsIf_load_mid (by rfl) 25 _ rfl (d + 1) 0 rfl [.int .i64 b0, .int .i64 b1, .int .i64 b2, .int .i64 b3] _ (fun w hS => (OB.out.below hS (by omega)).range0) Tryz.underlying25 rfl (by kernel_rfl)) hHeld ?_
  simp only [Act.put, zq1, zq2, zq3, zq4, zq5, zq6]
  refine wpAnyH_take (i := 3) (v := .func (.func 8) #[] #[]) rfl (by kernel_rfl) (by kernel_rfl) (by kernel_rfl) (fun _ _ _ h => h) (Or.inl ⟨by rfl, fun w hS => by go_simp⟩) hHeld ?_
  simp only [Act.put, zq1, zq2, zq3, zq4, zq5, zq6]
  refine wpAnyH_take (i := 4) (v := .pointer (some ⟨d, 0, none⟩)) rfl (by kernel_rfl) (by kernel_rfl) (by kernel_rfl) (fun _ _ _ h => h) (Or.inl ⟨by rfl, fun w hS => by go_simp⟩) hHeld ?_
  simp only [Act.put, zq1, zq2, zq3, zq4, zq5, zq6]
  refine wpAnyH_take (i := 5) (v := .int .i64 a0) rfl (by kernel_rfl) (by kernel_rfl) (by kernel_rfl) (fun _ _ _ h => h) (Or.inl ⟨by rfl, fun w hS => by (have hc : w.cell? ⟨d, 0, none⟩ = some (.int .i64 a0) := ((bcell hS).1 _ _ (by omega)).trans ((OA.out.cell 0).trans rfl); go_simp)⟩) hHeld ?_
  simp only [Act.put, zq1, zq2, zq3, zq4, zq5, zq6]
  refine wpAnyH_take (i := 6) (v := .pointer (some ⟨d + 1, 0, none⟩)) rfl (by kernel_rfl) (by kernel_rfl) (by kernel_rfl) (fun _ _ _ h => h) (Or.inl ⟨by rfl, fun w hS => by go_simp⟩) hHeld ?_
  simp only [Act.put, zq1, zq2, zq3, zq4, zq5, zq6]
  refine wpAnyH_take (i := 7) (v := .int .i64 b0) rfl (by kernel_rfl) (by kernel_rfl) (by kernel_rfl) (fun _ _ _ h => h) (Or.inl ⟨by rfl, fun w hS => by (have hc : w.cell? ⟨d + 1, 0, none⟩ = some (.int .i64 b0) := ((bcell hS).1 _ _ (by omega)).trans ((OB.out.cell 0).trans rfl); go_simp)⟩) hHeld ?_
  simp only [Act.put, zq1, zq2, zq3, zq4, zq5, zq6]
  have hS := (Below.refl (d + 2) wc).drew
  generalize World.drew _ = wk at hS ⊢
  refine wpAnyH_ready (rs := [2]) (by kernel_rfl) (by simp) ?_
  refine AllReadyH.cons (o := _) rfl (fun K' hK => ?_) AllReadyH.nil
  go_simp
  refine (HW.out _).mono ?_
  rintro e5 w1 ⟨rfl, hb5⟩
  have hS := bthen hb5 hS (Nat.le_trans (by omega) hS.size)
  go_wp2_with fail
  refine hK _ _ hS (fun hHeld => ?_)
  clear hK K'
  try simp only [Act.put, zq1, zq2, zq3, zq4, zq5, zq6]
  refine wpAnyH_ready (rs := [8]) (by kernel_rfl) (by simp) ?_
  refine AllReadyH.cons (o := _) rfl (fun K' hK => ?_) AllReadyH.nil
  go_simp
  refine (HL0.out _).mono ?_
  rintro e5 w2 ⟨rfl, rfl⟩
  go_wp2_with fail
  refine hK _ _ hS (fun hHeld => ?_)
  clear hK K'
  try simp only [Act.put, zq1, zq2, zq3, zq4, zq5, zq6]
  refine wpAnyH_take (i := 9) (v := .bool true) rfl (by kernel_rfl) (by kernel_rfl) (by kernel_rfl) (fun _ _ _ h => h) (Or.inl ⟨by rfl, fun w hS => by go_simp⟩) hHeld ?_
  simp only [Act.put, zq1, zq2, zq3, zq4, zq5, zq6]
  refine wpAnyH_take (i := 10) (v := .func (.func 8) #[] #[]) rfl (by kernel_rfl) (by kernel_rfl) (by kernel_rfl) (fun _ _ _ h => h) (Or.inl ⟨by rfl, fun w hS => by go_simp⟩) hHeld ?_
  simp only [Act.put, zq1, zq2, zq3, zq4, zq5, zq6]
  refine wpAnyH_take (i := 11) (v := .pointer (some ⟨d, 1, none⟩)) rfl (by kernel_rfl) (by kernel_rfl) (by kernel_rfl) (fun _ _ _ h => h) (Or.inl ⟨by rfl, fun w hS => by go_simp⟩) hHeld ?_
  simp only [Act.put, zq1, zq2, zq3, zq4, zq5, zq6]
  refine wpAnyH_take (i := 12) (v := .int .i64 a1) rfl (by kernel_rfl) (by kernel_rfl) (by kernel_rfl) (fun _ _ _ h => h) (Or.inl ⟨by rfl, fun w hS => by (have hc : w.cell? ⟨d, 1, none⟩ = some (.int .i64 a1) := ((bcell hS).1 _ _ (by omega)).trans ((OA.out.cell 1).trans rfl); go_simp)⟩) hHeld ?_
  simp only [Act.put, zq1, zq2, zq3, zq4, zq5, zq6]
  refine wpAnyH_take (i := 13) (v := .pointer (some ⟨d + 1, 1, none⟩)) rfl (by kernel_rfl) (by kernel_rfl) (by kernel_rfl) (fun _ _ _ h => h) (Or.inl ⟨by rfl, fun w hS => by go_simp⟩) hHeld ?_
  simp only [Act.put, zq1, zq2, zq3, zq4, zq5, zq6]
  refine wpAnyH_take (i := 14) (v := .int .i64 b1) rfl (by kernel_rfl) (by kernel_rfl) (by kernel_rfl) (fun _ _ _ h => h) (Or.inl ⟨by rfl, fun w hS => by (have hc : w.cell? ⟨d + 1, 1, none⟩ = some (.int .i64 b1) := ((bcell hS).1 _ _ (by omega)).trans ((OB.out.cell 1).trans rfl); go_simp)⟩) hHeld ?_
  simp only [Act.put, zq1, zq2, zq3, zq4, zq5, zq6]
  refine wpAnyH_ready (rs := [15]) (by kernel_rfl) (by simp) ?_
  refine AllReadyH.cons (o := _) rfl (fun K' hK => ?_) AllReadyH.nil
  go_simp
  refine (HL1.out _).mono ?_
  rintro e5 w3 ⟨rfl, rfl⟩
  go_wp2_with fail
  refine hK _ _ hS (fun hHeld => ?_)
  clear hK K'
  try simp only [Act.put, zq1, zq2, zq3, zq4, zq5, zq6]
  refine wpAnyH_take (i := 16) (v := .bool true) rfl (by kernel_rfl) (by kernel_rfl) (by kernel_rfl) (fun _ _ _ h => h) (Or.inl ⟨by rfl, fun w hS => by go_simp⟩) hHeld ?_
  simp only [Act.put, zq1, zq2, zq3, zq4, zq5, zq6]
  refine wpAnyH_take (i := 17) (v := .bool true) rfl (by kernel_rfl) (by kernel_rfl) (by kernel_rfl) (fun _ _ _ h => h) (Or.inl ⟨by rfl, fun w hS => by go_simp⟩) hHeld ?_
  simp only [Act.put, zq1, zq2, zq3, zq4, zq5, zq6]
  refine wpAnyH_take (i := 18) (v := .func (.func 8) #[] #[]) rfl (by kernel_rfl) (by kernel_rfl) (by kernel_rfl) (fun _ _ _ h => h) (Or.inl ⟨by rfl, fun w hS => by go_simp⟩) hHeld ?_
  simp only [Act.put, zq1, zq2, zq3, zq4, zq5, zq6]
  refine wpAnyH_take (i := 19) (v := .pointer (some ⟨d, 2, none⟩)) rfl (by kernel_rfl) (by kernel_rfl) (by kernel_rfl) (fun _ _ _ h => h) (Or.inl ⟨by rfl, fun w hS => by go_simp⟩) hHeld ?_
  simp only [Act.put, zq1, zq2, zq3, zq4, zq5, zq6]
  refine wpAnyH_take (i := 20) (v := .int .i64 a2) rfl (by kernel_rfl) (by kernel_rfl) (by kernel_rfl) (fun _ _ _ h => h) (Or.inl ⟨by rfl, fun w hS => by (have hc : w.cell? ⟨d, 2, none⟩ = some (.int .i64 a2) := ((bcell hS).1 _ _ (by omega)).trans ((OA.out.cell 2).trans rfl); go_simp)⟩) hHeld ?_
  simp only [Act.put, zq1, zq2, zq3, zq4, zq5, zq6]
  refine wpAnyH_take (i := 21) (v := .pointer (some ⟨d + 1, 2, none⟩)) rfl (by kernel_rfl) (by kernel_rfl) (by kernel_rfl) (fun _ _ _ h => h) (Or.inl ⟨by rfl, fun w hS => by go_simp⟩) hHeld ?_
  simp only [Act.put, zq1, zq2, zq3, zq4, zq5, zq6]
  refine wpAnyH_take (i := 22) (v := .int .i64 b2) rfl (by kernel_rfl) (by kernel_rfl) (by kernel_rfl) (fun _ _ _ h => h) (Or.inl ⟨by rfl, fun w hS => by (have hc : w.cell? ⟨d + 1, 2, none⟩ = some (.int .i64 b2) := ((bcell hS).1 _ _ (by omega)).trans ((OB.out.cell 2).trans rfl); go_simp)⟩) hHeld ?_
  simp only [Act.put, zq1, zq2, zq3, zq4, zq5, zq6]
  refine wpAnyH_ready (rs := [23]) (by kernel_rfl) (by simp) ?_
  refine AllReadyH.cons (o := _) rfl (fun K' hK => ?_) AllReadyH.nil
  go_simp
  refine (HL2.out _).mono ?_
  rintro e5 w4 ⟨rfl, rfl⟩
  go_wp2_with fail
  refine hK _ _ hS (fun hHeld => ?_)
  clear hK K'
  try simp only [Act.put, zq1, zq2, zq3, zq4, zq5, zq6]
  refine wpAnyH_take (i := 24) (v := .bool false) rfl (by kernel_rfl) (by kernel_rfl) (by kernel_rfl) (fun _ _ _ h => h) (Or.inl ⟨by rfl, fun w hS => by go_simp⟩) hHeld ?_
  simp only [Act.put, zq1, zq2, zq3, zq4, zq5, zq6]
  refine wpAnyH_take (i := 25) (v := .bool false) rfl (by kernel_rfl) (by kernel_rfl) (by kernel_rfl) (fun _ _ _ h => h) (Or.inl ⟨by rfl, fun w hS => by go_simp⟩) hHeld ?_
  simp only [Act.put, zq1, zq2, zq3, zq4, zq5, zq6]
  refine wpAnyH_take (i := 26) (v := undef) rfl (by kernel_rfl) (by kernel_rfl) (by kernel_rfl) (fun _ _ _ h => h) (Or.inr ⟨by rfl, rfl⟩) hHeld ?_
  simp only [Act.put, zq1, zq2, zq3, zq4, zq5, zq6]
  refine wpAnyH_take (i := 27) (v := undef) rfl (by kernel_rfl) (by kernel_rfl) (by kernel_rfl) (fun _ _ _ h => h) (Or.inr ⟨by rfl, rfl⟩) hHeld ?_
  simp only [Act.put, zq1, zq2, zq3, zq4, zq5, zq6]
  refine wpAnyH_take (i := 28) (v := undef) rfl (by kernel_rfl) (by kernel_rfl) (by kernel_rfl) (fun _ _ _ h => h) (Or.inr ⟨by rfl, rfl⟩) hHeld ?_
  simp only [Act.put, zq1, zq2, zq3, zq4, zq5, zq6]
  refine wpAnyH_take (i := 29) (v := undef) rfl (by kernel_rfl) (by kernel_rfl) (by kernel_rfl) (fun _ _ _ h => h) (Or.inr ⟨by rfl, rfl⟩) hHeld ?_
  simp only [Act.put, zq1, zq2, zq3, zq4, zq5, zq6]
  refine wpAnyH_take (i := 30) (v := undef) rfl (by kernel_rfl) (by kernel_rfl) (by kernel_rfl) (fun _ _ _ h => h) (Or.inr ⟨by rfl, rfl⟩) hHeld ?_
  simp only [Act.put, zq1, zq2, zq3, zq4, zq5, zq6]
  refine wpAnyH_take (i := 31) (v := undef) rfl (by kernel_rfl) (by kernel_rfl) (by kernel_rfl) (fun _ _ _ h => h) (Or.inr ⟨by rfl, rfl⟩) hHeld ?_
  simp only [Act.put, zq1, zq2, zq3, zq4, zq5, zq6]
  refine wpAnyH_take (i := 32) (v := .bool false) rfl (by kernel_rfl) (by kernel_rfl) (by kernel_rfl) (fun _ _ _ h => h) (Or.inl ⟨by rfl, fun w hS => by go_simp⟩) hHeld ?_
  simp only [Act.put, zq1, zq2, zq3, zq4, zq5, zq6]
  refine wpAnyH_take (i := 33) (v := .bool true) rfl (by kernel_rfl) (by kernel_rfl) (by kernel_rfl) (fun _ _ _ h => h) (Or.inl ⟨by rfl, fun w hS => by go_simp⟩) hHeld ?_
  simp only [Act.put, zq1, zq2, zq3, zq4, zq5, zq6]
  refine wpAnyH_take (i := 34) (v := .bool true) rfl (by kernel_rfl) (by kernel_rfl) (by kernel_rfl) (fun _ _ _ h => h) (Or.inl ⟨by rfl, fun w hS => by go_simp⟩) hHeld ?_
  simp only [Act.put, zq1, zq2, zq3, zq4, zq5, zq6]
  refine wpAnyH_take (i := 35) rfl (by kernel_rfl) (by kernel_rfl) (by kernel_rfl) (fun _ _ _ h => h) (yieldsIf_load_mid (by rfl) 25 _ rfl (d) 0 rfl [.int .i64 a0, .int .i64 a1, .int .i64 a2, .int .i64 a3] _ (fun w hS => (OA.out.below hS (by omega)).range0) Tryz.underlying25 rfl (by kernel_rfl)) hHeld ?_
  simp only [Act.put, zq1, zq2, zq3, zq4, zq5, zq6]
  refine wpAnyH_take (i := 36) rfl (by kernel_rfl) (by kernel_rfl) (by kernel_rfl) (fun _ _ _ h => h) (yieldsIf_load_mid (by rfl) 25 _ rfl (d) 0 rfl [.int .i64 a0, .int .i64 a1, .int .i64 a2, .int .i64 a3] _ (fun w hS => (OA.out.below hS (by omega)).range0) Tryz.underlying25 rfl (by kernel_rfl)) hHeld ?_
  simp only [Act.put, zq1, zq2, zq3, zq4, zq5, zq6]
  refine wpAnyH_ready (rs := [37]) (by kernel_rfl) (by simp) ?_
  refine AllReadyH.cons (o := _) rfl (fun K' hK => ?_) AllReadyH.nil
  go_simp
  refine (HWA.out _).mono ?_
  rintro e5 w5 ⟨rfl, hb5⟩
  have hS := bthen hb5 hS (Nat.le_trans (by omega) hS.size)
  go_wp2_with fail
  refine hK _ _ hS (fun hHeld => ?_)
  clear hK K'
  try simp only [Act.put, zq1, zq2, zq3, zq4, zq5, zq6]
  refine wpAnyH_take (i := 38) (v := .bool true) rfl (by kernel_rfl) (by kernel_rfl) (by kernel_rfl) (fun _ _ _ h => h) (Or.inl ⟨by rfl, fun w hS => by go_simp⟩) hHeld ?_
  simp only [Act.put, zq1, zq2, zq3, zq4, zq5, zq6]
  refine wpAnyH_take (i := 39) (v := .bool true) rfl (by kernel_rfl) (by kernel_rfl) (by kernel_rfl) (fun _ _ _ h => h) (Or.inl ⟨by rfl, fun w hS => by go_simp⟩) hHeld ?_
  simp only [Act.put, zq1, zq2, zq3, zq4, zq5, zq6]
  refine wpAnyH_ready (rs := [40]) (by kernel_rfl) (by simp) ?_
  refine AllReadyH.cons (o := _) rfl (fun K' hK => ?_) AllReadyH.nil
  go_simp
  refine (HAW.out _).mono ?_
  rintro e5 w6 ⟨rfl, hb5⟩
  have hS := bthen hb5 hS (Nat.le_trans (by omega) hS.size)
  go_wp2_with fail
  refine hK _ _ hS (fun hHeld => ?_)
  clear hK K'
  try simp only [Act.put, zq1, zq2, zq3, zq4, zq5, zq6]
  refine wpAnyH_take (i := 41) (v := .bool true) rfl (by kernel_rfl) (by kernel_rfl) (by kernel_rfl) (fun _ _ _ h => h) (Or.inl ⟨by rfl, fun w hS => by go_simp⟩) hHeld ?_
  simp only [Act.put, zq1, zq2, zq3, zq4, zq5, zq6]
  refine wpAnyH_take (i := 42) (v := .bool true) rfl (by kernel_rfl) (by kernel_rfl) (by kernel_rfl) (fun _ _ _ h => h) (Or.inl ⟨by rfl, fun w hS => by go_simp⟩) hHeld ?_
  simp only [Act.put, zq1, zq2, zq3, zq4, zq5, zq6]
  refine wpAnyH_done (by kernel_rfl) ?_ _
  refine NoPanic.normal ?_
  have BL := Hi (BL.out.trans (hS.mono (by have := HDe.out; omega)))
  go_wp2_with fail
  go_ret
  exact ⟨rfl, BL.out⟩
set_option maxRecDepth 100000 in
set_option maxHeartbeats 4000000 in
theorem nwith_3 (a0 a1 a2 a3 b0 b1 b2 b3 : Int) (w : World) (l0 : leB a0 b0 = true) (l1 : leB a1 b1 = true) (l2 : leB a2 b2 = true) (l3 : leB a3 b3 = false) : Calls Tryz.prog 4 #[.agg #[.int .i64 a0, .int .i64 a1, .int .i64 a2, .int .i64 a3], .agg #[.int .i64 b0, .int .i64 b1, .int .i64 b2, .int .i64 b3]] w (Yes31 w) := by
  have HW := Hi (fun w0 => (nwithin_any a0 a1 a2 a3 b0 b1 b2 b3 w0).mono (R' := fun e w' => e = .returned (.bool false) ∧ Below w0.heap.size w0 w') fun e w' hh => ⟨hh.1.trans (by unfold withinB; rw [l0, l1, l2, l3]; rfl), hh.2⟩)
  have HWA := Hi (fun w0 => (nwithin_any a0 a1 a2 a3 a0 a1 a2 a3 w0).mono (R' := fun e w' => e = .returned (.bool true) ∧ Below w0.heap.size w0 w') fun e w' hh => ⟨hh.1.trans (by rw [within_self]), hh.2⟩)
  have HL0 := Hi (fun w0 => (nle_any a0 b0 w0).mono (R' := fun e w' => e = .returned (.bool true) ∧ w0 = w') fun e w' hh => ⟨hh.1.trans (by rw [l0]), hh.2⟩)
  have HL1 := Hi (fun w0 => (nle_any a1 b1 w0).mono (R' := fun e w' => e = .returned (.bool true) ∧ w0 = w') fun e w' hh => ⟨hh.1.trans (by rw [l1]), hh.2⟩)
  have HL2 := Hi (fun w0 => (nle_any a2 b2 w0).mono (R' := fun e w' => e = .returned (.bool true) ∧ w0 = w') fun e w' hh => ⟨hh.1.trans (by rw [l2]), hh.2⟩)
  have HL3 := Hi (fun w0 => (nle_any a3 b3 w0).mono (R' := fun e w' => e = .returned (.bool false) ∧ w0 = w') fun e w' hh => ⟨hh.1.trans (by rw [l3]), hh.2⟩)
  clear l0 l1 l2 l3
  have HAW := Hi (fun w0 => awake31 w0)
  have OA := Hi ((obj1_new w (List.toArray [.int .i64 a0, .int .i64 a1, .int .i64 a2, .int .i64 a3]) 25).alloc (.cells (List.toArray [.int .i64 b0, .int .i64 b1, .int .i64 b2, .int .i64 b3]) 25))
  have OB := Hi (obj1_new (w.alloc (.cells (List.toArray [.int .i64 a0, .int .i64 a1, .int .i64 a2, .int .i64 a3]) 25)) (List.toArray [.int .i64 b0, .int .i64 b1, .int .i64 b2, .int .i64 b3]) 25)
  have BL := Hi (((Below.refl w.heap.size w).alloc (Nat.le_refl _) (.cells (List.toArray [.int .i64 a0, .int .i64 a1, .int .i64 a2, .int .i64 a3]) 25)).alloc (by simp) (.cells (List.toArray [.int .i64 b0, .int .i64 b1, .int .i64 b2, .int .i64 b3]) 25))
  obtain ⟨d, hd⟩ : ∃ d, w.heap.size = d := ⟨_, rfl⟩
  have HDe := Hi hd
  rw [show (w.alloc (.cells (List.toArray [.int .i64 a0, .int .i64 a1, .int .i64 a2, .int .i64 a3]) 25)).heap.size = d + 1 by rw [← hd]; simp] at OB
  rw [hd] at OA
  go_enter Tryz.func4, Tryz.ntmps4
  go_upto_region 2 with (fail)
  clear hd
  generalize World.alloc (World.alloc _ _) _ = wc at OA OB BL ⊢
  have lgb := OB.out.lt
  refine wp_region_noPanic ?_
  refine wp_region_held_drew (S := fun w' => Below (d + 2) wc w') (by kernel_rfl) (Below.refl _ _).drew (fun hHeld => ?_)
  refine wpAnyH_take (i := 0) rfl (by kernel_rfl) (by kernel_rfl) (by kernel_rfl) (fun _ _ _ h => h) (yieldsIf_load_mid (by rfl) 25 _ rfl (d) 0 rfl [.int .i64 a0, .int .i64 a1, .int .i64 a2, .int .i64 a3] _ (fun w hS => (OA.out.below hS (by omega)).range0) Tryz.underlying25 rfl (by kernel_rfl)) hHeld ?_
  simp only [Act.put, zq1, zq2, zq3, zq4, zq5, zq6]
  refine wpAnyH_take (i := 1) rfl (by kernel_rfl) (by kernel_rfl) (by kernel_rfl) (fun _ _ _ h => h) (yieldsIf_load_mid (by rfl) 25 _ rfl (d + 1) 0 rfl [.int .i64 b0, .int .i64 b1, .int .i64 b2, .int .i64 b3] _ (fun w hS => (OB.out.below hS (by omega)).range0) Tryz.underlying25 rfl (by kernel_rfl)) hHeld ?_
  simp only [Act.put, zq1, zq2, zq3, zq4, zq5, zq6]
  refine wpAnyH_take (i := 3) (v := .func (.func 8) #[] #[]) rfl (by kernel_rfl) (by kernel_rfl) (by kernel_rfl) (fun _ _ _ h => h) (Or.inl ⟨by rfl, fun w hS => by go_simp⟩) hHeld ?_
  simp only [Act.put, zq1, zq2, zq3, zq4, zq5, zq6]
  refine wpAnyH_take (i := 4) (v := .pointer (some ⟨d, 0, none⟩)) rfl (by kernel_rfl) (by kernel_rfl) (by kernel_rfl) (fun _ _ _ h => h) (Or.inl ⟨by rfl, fun w hS => by go_simp⟩) hHeld ?_
  simp only [Act.put, zq1, zq2, zq3, zq4, zq5, zq6]
  refine wpAnyH_take (i := 5) (v := .int .i64 a0) rfl (by kernel_rfl) (by kernel_rfl) (by kernel_rfl) (fun _ _ _ h => h) (Or.inl ⟨by rfl, fun w hS => by (have hc : w.cell? ⟨d, 0, none⟩ = some (.int .i64 a0) := ((bcell hS).1 _ _ (by omega)).trans ((OA.out.cell 0).trans rfl); go_simp)⟩) hHeld ?_
  simp only [Act.put, zq1, zq2, zq3, zq4, zq5, zq6]
  refine wpAnyH_take (i := 6) (v := .pointer (some ⟨d + 1, 0, none⟩)) rfl (by kernel_rfl) (by kernel_rfl) (by kernel_rfl) (fun _ _ _ h => h) (Or.inl ⟨by rfl, fun w hS => by go_simp⟩) hHeld ?_
  simp only [Act.put, zq1, zq2, zq3, zq4, zq5, zq6]
  refine wpAnyH_take (i := 7) (v := .int .i64 b0) rfl (by kernel_rfl) (by kernel_rfl) (by kernel_rfl) (fun _ _ _ h => h) (Or.inl ⟨by rfl, fun w hS => by (have hc : w.cell? ⟨d + 1, 0, none⟩ = some (.int .i64 b0) := ((bcell hS).1 _ _ (by omega)).trans ((OB.out.cell 0).trans rfl); go_simp)⟩) hHeld ?_
  simp only [Act.put, zq1, zq2, zq3, zq4, zq5, zq6]
  have hS := (Below.refl (d + 2) wc).drew
  generalize World.drew _ = wk at hS ⊢
  refine wpAnyH_ready (rs := [2]) (by kernel_rfl) (by simp) ?_
  refine AllReadyH.cons (o := _) rfl (fun K' hK => ?_) AllReadyH.nil
  go_simp
  refine (HW.out _).mono ?_
  rintro e5 w1 ⟨rfl, hb5⟩
  have hS := bthen hb5 hS (Nat.le_trans (by omega) hS.size)
  go_wp2_with fail
  refine hK _ _ hS (fun hHeld => ?_)
  clear hK K'
  try simp only [Act.put, zq1, zq2, zq3, zq4, zq5, zq6]
  refine wpAnyH_ready (rs := [8]) (by kernel_rfl) (by simp) ?_
  refine AllReadyH.cons (o := _) rfl (fun K' hK => ?_) AllReadyH.nil
  go_simp
  refine (HL0.out _).mono ?_
  rintro e5 w2 ⟨rfl, rfl⟩
  go_wp2_with fail
  refine hK _ _ hS (fun hHeld => ?_)
  clear hK K'
  try simp only [Act.put, zq1, zq2, zq3, zq4, zq5, zq6]
  refine wpAnyH_take (i := 9) (v := .bool true) rfl (by kernel_rfl) (by kernel_rfl) (by kernel_rfl) (fun _ _ _ h => h) (Or.inl ⟨by rfl, fun w hS => by go_simp⟩) hHeld ?_
  simp only [Act.put, zq1, zq2, zq3, zq4, zq5, zq6]
  refine wpAnyH_take (i := 10) (v := .func (.func 8) #[] #[]) rfl (by kernel_rfl) (by kernel_rfl) (by kernel_rfl) (fun _ _ _ h => h) (Or.inl ⟨by rfl, fun w hS => by go_simp⟩) hHeld ?_
  simp only [Act.put, zq1, zq2, zq3, zq4, zq5, zq6]
  refine wpAnyH_take (i := 11) (v := .pointer (some ⟨d, 1, none⟩)) rfl (by kernel_rfl) (by kernel_rfl) (by kernel_rfl) (fun _ _ _ h => h) (Or.inl ⟨by rfl, fun w hS => by go_simp⟩) hHeld ?_
  simp only [Act.put, zq1, zq2, zq3, zq4, zq5, zq6]
  refine wpAnyH_take (i := 12) (v := .int .i64 a1) rfl (by kernel_rfl) (by kernel_rfl) (by kernel_rfl) (fun _ _ _ h => h) (Or.inl ⟨by rfl, fun w hS => by (have hc : w.cell? ⟨d, 1, none⟩ = some (.int .i64 a1) := ((bcell hS).1 _ _ (by omega)).trans ((OA.out.cell 1).trans rfl); go_simp)⟩) hHeld ?_
  simp only [Act.put, zq1, zq2, zq3, zq4, zq5, zq6]
  refine wpAnyH_take (i := 13) (v := .pointer (some ⟨d + 1, 1, none⟩)) rfl (by kernel_rfl) (by kernel_rfl) (by kernel_rfl) (fun _ _ _ h => h) (Or.inl ⟨by rfl, fun w hS => by go_simp⟩) hHeld ?_
  simp only [Act.put, zq1, zq2, zq3, zq4, zq5, zq6]
  refine wpAnyH_take (i := 14) (v := .int .i64 b1) rfl (by kernel_rfl) (by kernel_rfl) (by kernel_rfl) (fun _ _ _ h => h) (Or.inl ⟨by rfl, fun w hS => by (have hc : w.cell? ⟨d + 1, 1, none⟩ = some (.int .i64 b1) := ((bcell hS).1 _ _ (by omega)).trans ((OB.out.cell 1).trans rfl); go_simp)⟩) hHeld ?_
  simp only [Act.put, zq1, zq2, zq3, zq4, zq5, zq6]
  refine wpAnyH_ready (rs := [15]) (by kernel_rfl) (by simp) ?_
  refine AllReadyH.cons (o := _) rfl (fun K' hK => ?_) AllReadyH.nil
  go_simp
  refine (HL1.out _).mono ?_
  rintro e5 w3 ⟨rfl, rfl⟩
  go_wp2_with fail
  refine hK _ _ hS (fun hHeld => ?_)
  clear hK K'
  try simp only [Act.put, zq1, zq2, zq3, zq4, zq5, zq6]
  refine wpAnyH_take (i := 16) (v := .bool true) rfl (by kernel_rfl) (by kernel_rfl) (by kernel_rfl) (fun _ _ _ h => h) (Or.inl ⟨by rfl, fun w hS => by go_simp⟩) hHeld ?_
  simp only [Act.put, zq1, zq2, zq3, zq4, zq5, zq6]
  refine wpAnyH_take (i := 17) (v := .bool true) rfl (by kernel_rfl) (by kernel_rfl) (by kernel_rfl) (fun _ _ _ h => h) (Or.inl ⟨by rfl, fun w hS => by go_simp⟩) hHeld ?_
  simp only [Act.put, zq1, zq2, zq3, zq4, zq5, zq6]
  refine wpAnyH_take (i := 18) (v := .func (.func 8) #[] #[]) rfl (by kernel_rfl) (by kernel_rfl) (by kernel_rfl) (fun _ _ _ h => h) (Or.inl ⟨by rfl, fun w hS => by go_simp⟩) hHeld ?_
  simp only [Act.put, zq1, zq2, zq3, zq4, zq5, zq6]
  refine wpAnyH_take (i := 19) (v := .pointer (some ⟨d, 2, none⟩)) rfl (by kernel_rfl) (by kernel_rfl) (by kernel_rfl) (fun _ _ _ h => h) (Or.inl ⟨by rfl, fun w hS => by go_simp⟩) hHeld ?_
  simp only [Act.put, zq1, zq2, zq3, zq4, zq5, zq6]
  refine wpAnyH_take (i := 20) (v := .int .i64 a2) rfl (by kernel_rfl) (by kernel_rfl) (by kernel_rfl) (fun _ _ _ h => h) (Or.inl ⟨by rfl, fun w hS => by (have hc : w.cell? ⟨d, 2, none⟩ = some (.int .i64 a2) := ((bcell hS).1 _ _ (by omega)).trans ((OA.out.cell 2).trans rfl); go_simp)⟩) hHeld ?_
  simp only [Act.put, zq1, zq2, zq3, zq4, zq5, zq6]
  refine wpAnyH_take (i := 21) (v := .pointer (some ⟨d + 1, 2, none⟩)) rfl (by kernel_rfl) (by kernel_rfl) (by kernel_rfl) (fun _ _ _ h => h) (Or.inl ⟨by rfl, fun w hS => by go_simp⟩) hHeld ?_
  simp only [Act.put, zq1, zq2, zq3, zq4, zq5, zq6]
  refine wpAnyH_take (i := 22) (v := .int .i64 b2) rfl (by kernel_rfl) (by kernel_rfl) (by kernel_rfl) (fun _ _ _ h => h) (Or.inl ⟨by rfl, fun w hS => by (have hc : w.cell? ⟨d + 1, 2, none⟩ = some (.int .i64 b2) := ((bcell hS).1 _ _ (by omega)).trans ((OB.out.cell 2).trans rfl); go_simp)⟩) hHeld ?_
  simp only [Act.put, zq1, zq2, zq3, zq4, zq5, zq6]
  refine wpAnyH_ready (rs := [23]) (by kernel_rfl) (by simp) ?_
  refine AllReadyH.cons (o := _) rfl (fun K' hK => ?_) AllReadyH.nil
  go_simp
  refine (HL2.out _).mono ?_
  rintro e5 w4 ⟨rfl, rfl⟩
  go_wp2_with fail
  refine hK _ _ hS (fun hHeld => ?_)
  clear hK K'
  try simp only [Act.put, zq1, zq2, zq3, zq4, zq5, zq6]
  refine wpAnyH_take (i := 24) (v := .bool true) rfl (by kernel_rfl) (by kernel_rfl) (by kernel_rfl) (fun _ _ _ h => h) (Or.inl ⟨by rfl, fun w hS => by go_simp⟩) hHeld ?_
  simp only [Act.put, zq1, zq2, zq3, zq4, zq5, zq6]
  refine wpAnyH_take (i := 25) (v := .bool true) rfl (by kernel_rfl) (by kernel_rfl) (by kernel_rfl) (fun _ _ _ h => h) (Or.inl ⟨by rfl, fun w hS => by go_simp⟩) hHeld ?_
  simp only [Act.put, zq1, zq2, zq3, zq4, zq5, zq6]
  refine wpAnyH_take (i := 26) (v := .func (.func 8) #[] #[]) rfl (by kernel_rfl) (by kernel_rfl) (by kernel_rfl) (fun _ _ _ h => h) (Or.inl ⟨by rfl, fun w hS => by go_simp⟩) hHeld ?_
  simp only [Act.put, zq1, zq2, zq3, zq4, zq5, zq6]
  refine wpAnyH_take (i := 27) (v := .pointer (some ⟨d, 3, none⟩)) rfl (by kernel_rfl) (by kernel_rfl) (by kernel_rfl) (fun _ _ _ h => h) (Or.inl ⟨by rfl, fun w hS => by go_simp⟩) hHeld ?_
  simp only [Act.put, zq1, zq2, zq3, zq4, zq5, zq6]
  refine wpAnyH_take (i := 28) (v := .int .i64 a3) rfl (by kernel_rfl) (by kernel_rfl) (by kernel_rfl) (fun _ _ _ h => h) (Or.inl ⟨by rfl, fun w hS => by (have hc : w.cell? ⟨d, 3, none⟩ = some (.int .i64 a3) := ((bcell hS).1 _ _ (by omega)).trans ((OA.out.cell 3).trans rfl); go_simp)⟩) hHeld ?_
  simp only [Act.put, zq1, zq2, zq3, zq4, zq5, zq6]
  refine wpAnyH_take (i := 29) (v := .pointer (some ⟨d + 1, 3, none⟩)) rfl (by kernel_rfl) (by kernel_rfl) (by kernel_rfl) (fun _ _ _ h => h) (Or.inl ⟨by rfl, fun w hS => by go_simp⟩) hHeld ?_
  simp only [Act.put, zq1, zq2, zq3, zq4, zq5, zq6]
  refine wpAnyH_take (i := 30) (v := .int .i64 b3) rfl (by kernel_rfl) (by kernel_rfl) (by kernel_rfl) (fun _ _ _ h => h) (Or.inl ⟨by rfl, fun w hS => by (have hc : w.cell? ⟨d + 1, 3, none⟩ = some (.int .i64 b3) := ((bcell hS).1 _ _ (by omega)).trans ((OB.out.cell 3).trans rfl); go_simp)⟩) hHeld ?_
  simp only [Act.put, zq1, zq2, zq3, zq4, zq5, zq6]
  refine wpAnyH_ready (rs := [31]) (by kernel_rfl) (by simp) ?_
  refine AllReadyH.cons (o := _) rfl (fun K' hK => ?_) AllReadyH.nil
  go_simp
  refine (HL3.out _).mono ?_
  rintro e5 w5 ⟨rfl, rfl⟩
  go_wp2_with fail
  refine hK _ _ hS (fun hHeld => ?_)
  clear hK K'
  try simp only [Act.put, zq1, zq2, zq3, zq4, zq5, zq6]
  refine wpAnyH_take (i := 32) (v := .bool false) rfl (by kernel_rfl) (by kernel_rfl) (by kernel_rfl) (fun _ _ _ h => h) (Or.inl ⟨by rfl, fun w hS => by go_simp⟩) hHeld ?_
  simp only [Act.put, zq1, zq2, zq3, zq4, zq5, zq6]
  refine wpAnyH_take (i := 33) (v := .bool true) rfl (by kernel_rfl) (by kernel_rfl) (by kernel_rfl) (fun _ _ _ h => h) (Or.inl ⟨by rfl, fun w hS => by go_simp⟩) hHeld ?_
  simp only [Act.put, zq1, zq2, zq3, zq4, zq5, zq6]
  refine wpAnyH_take (i := 34) (v := .bool true) rfl (by kernel_rfl) (by kernel_rfl) (by kernel_rfl) (fun _ _ _ h => h) (Or.inl ⟨by rfl, fun w hS => by go_simp⟩) hHeld ?_
  simp only [Act.put, zq1, zq2, zq3, zq4, zq5, zq6]
  refine wpAnyH_take (i := 35) rfl (by kernel_rfl) (by kernel_rfl) (by kernel_rfl) (fun _ _ _ h => h) (yieldsIf_load_mid (by rfl) 25 _ rfl (d) 0 rfl [.int .i64 a0, .int .i64 a1, .int .i64 a2, .int .i64 a3] _ (fun w hS => (OA.out.below hS (by omega)).range0) Tryz.underlying25 rfl (by kernel_rfl)) hHeld ?_
  simp only [Act.put, zq1, zq2, zq3, zq4, zq5, zq6]
  refine wpAnyH_take (i := 36) rfl (by kernel_rfl) (by kernel_rfl) (by kernel_rfl) (fun _ _ _ h => h) (yieldsIf_load_mid (by rfl) 25 _ rfl (d) 0 rfl [.int .i64 a0, .int .i64 a1, .int .i64 a2, .int .i64 a3] _ (fun w hS => (OA.out.below hS (by omega)).range0) Tryz.underlying25 rfl (by kernel_rfl)) hHeld ?_
  simp only [Act.put, zq1, zq2, zq3, zq4, zq5, zq6]
  refine wpAnyH_ready (rs := [37]) (by kernel_rfl) (by simp) ?_
  refine AllReadyH.cons (o := _) rfl (fun K' hK => ?_) AllReadyH.nil
  go_simp
  refine (HWA.out _).mono ?_
  rintro e5 w6 ⟨rfl, hb5⟩
  have hS := bthen hb5 hS (Nat.le_trans (by omega) hS.size)
  go_wp2_with fail
  refine hK _ _ hS (fun hHeld => ?_)
  clear hK K'
  try simp only [Act.put, zq1, zq2, zq3, zq4, zq5, zq6]
  refine wpAnyH_take (i := 38) (v := .bool true) rfl (by kernel_rfl) (by kernel_rfl) (by kernel_rfl) (fun _ _ _ h => h) (Or.inl ⟨by rfl, fun w hS => by go_simp⟩) hHeld ?_
  simp only [Act.put, zq1, zq2, zq3, zq4, zq5, zq6]
  refine wpAnyH_take (i := 39) (v := .bool true) rfl (by kernel_rfl) (by kernel_rfl) (by kernel_rfl) (fun _ _ _ h => h) (Or.inl ⟨by rfl, fun w hS => by go_simp⟩) hHeld ?_
  simp only [Act.put, zq1, zq2, zq3, zq4, zq5, zq6]
  refine wpAnyH_ready (rs := [40]) (by kernel_rfl) (by simp) ?_
  refine AllReadyH.cons (o := _) rfl (fun K' hK => ?_) AllReadyH.nil
  go_simp
  refine (HAW.out _).mono ?_
  rintro e5 w7 ⟨rfl, hb5⟩
  have hS := bthen hb5 hS (Nat.le_trans (by omega) hS.size)
  go_wp2_with fail
  refine hK _ _ hS (fun hHeld => ?_)
  clear hK K'
  try simp only [Act.put, zq1, zq2, zq3, zq4, zq5, zq6]
  refine wpAnyH_take (i := 41) (v := .bool true) rfl (by kernel_rfl) (by kernel_rfl) (by kernel_rfl) (fun _ _ _ h => h) (Or.inl ⟨by rfl, fun w hS => by go_simp⟩) hHeld ?_
  simp only [Act.put, zq1, zq2, zq3, zq4, zq5, zq6]
  refine wpAnyH_take (i := 42) (v := .bool true) rfl (by kernel_rfl) (by kernel_rfl) (by kernel_rfl) (fun _ _ _ h => h) (Or.inl ⟨by rfl, fun w hS => by go_simp⟩) hHeld ?_
  simp only [Act.put, zq1, zq2, zq3, zq4, zq5, zq6]
  refine wpAnyH_done (by kernel_rfl) ?_ _
  refine NoPanic.normal ?_
  have BL := Hi (BL.out.trans (hS.mono (by have := HDe.out; omega)))
  go_wp2_with fail
  go_ret
  exact ⟨rfl, BL.out⟩
set_option maxRecDepth 100000 in
set_option maxHeartbeats 4000000 in
theorem nwith_4 (a0 a1 a2 a3 b0 b1 b2 b3 : Int) (w : World) (l0 : leB a0 b0 = true) (l1 : leB a1 b1 = true) (l2 : leB a2 b2 = true) (l3 : leB a3 b3 = true) : Calls Tryz.prog 4 #[.agg #[.int .i64 a0, .int .i64 a1, .int .i64 a2, .int .i64 a3], .agg #[.int .i64 b0, .int .i64 b1, .int .i64 b2, .int .i64 b3]] w (Yes31 w) := by
  have HW := Hi (fun w0 => (nwithin_any a0 a1 a2 a3 b0 b1 b2 b3 w0).mono (R' := fun e w' => e = .returned (.bool true) ∧ Below w0.heap.size w0 w') fun e w' hh => ⟨hh.1.trans (by unfold withinB; rw [l0, l1, l2, l3]; rfl), hh.2⟩)
  have HWA := Hi (fun w0 => (nwithin_any a0 a1 a2 a3 a0 a1 a2 a3 w0).mono (R' := fun e w' => e = .returned (.bool true) ∧ Below w0.heap.size w0 w') fun e w' hh => ⟨hh.1.trans (by rw [within_self]), hh.2⟩)
  have HL0 := Hi (fun w0 => (nle_any a0 b0 w0).mono (R' := fun e w' => e = .returned (.bool true) ∧ w0 = w') fun e w' hh => ⟨hh.1.trans (by rw [l0]), hh.2⟩)
  have HL1 := Hi (fun w0 => (nle_any a1 b1 w0).mono (R' := fun e w' => e = .returned (.bool true) ∧ w0 = w') fun e w' hh => ⟨hh.1.trans (by rw [l1]), hh.2⟩)
  have HL2 := Hi (fun w0 => (nle_any a2 b2 w0).mono (R' := fun e w' => e = .returned (.bool true) ∧ w0 = w') fun e w' hh => ⟨hh.1.trans (by rw [l2]), hh.2⟩)
  have HL3 := Hi (fun w0 => (nle_any a3 b3 w0).mono (R' := fun e w' => e = .returned (.bool true) ∧ w0 = w') fun e w' hh => ⟨hh.1.trans (by rw [l3]), hh.2⟩)
  clear l0 l1 l2 l3
  have HAW := Hi (fun w0 => awake31 w0)
  have OA := Hi ((obj1_new w (List.toArray [.int .i64 a0, .int .i64 a1, .int .i64 a2, .int .i64 a3]) 25).alloc (.cells (List.toArray [.int .i64 b0, .int .i64 b1, .int .i64 b2, .int .i64 b3]) 25))
  have OB := Hi (obj1_new (w.alloc (.cells (List.toArray [.int .i64 a0, .int .i64 a1, .int .i64 a2, .int .i64 a3]) 25)) (List.toArray [.int .i64 b0, .int .i64 b1, .int .i64 b2, .int .i64 b3]) 25)
  have BL := Hi (((Below.refl w.heap.size w).alloc (Nat.le_refl _) (.cells (List.toArray [.int .i64 a0, .int .i64 a1, .int .i64 a2, .int .i64 a3]) 25)).alloc (by simp) (.cells (List.toArray [.int .i64 b0, .int .i64 b1, .int .i64 b2, .int .i64 b3]) 25))
  obtain ⟨d, hd⟩ : ∃ d, w.heap.size = d := ⟨_, rfl⟩
  have HDe := Hi hd
  rw [show (w.alloc (.cells (List.toArray [.int .i64 a0, .int .i64 a1, .int .i64 a2, .int .i64 a3]) 25)).heap.size = d + 1 by rw [← hd]; simp] at OB
  rw [hd] at OA
  go_enter Tryz.func4, Tryz.ntmps4
  go_upto_region 2 with (fail)
  clear hd
  generalize World.alloc (World.alloc _ _) _ = wc at OA OB BL ⊢
  have lgb := OB.out.lt
  refine wp_region_noPanic ?_
  refine wp_region_held_drew (S := fun w' => Below (d + 2) wc w') (by kernel_rfl) (Below.refl _ _).drew (fun hHeld => ?_)
  refine wpAnyH_take (i := 0) rfl (by kernel_rfl) (by kernel_rfl) (by kernel_rfl) (fun _ _ _ h => h) (yieldsIf_load_mid (by rfl) 25 _ rfl (d) 0 rfl [.int .i64 a0, .int .i64 a1, .int .i64 a2, .int .i64 a3] _ (fun w hS => (OA.out.below hS (by omega)).range0) Tryz.underlying25 rfl (by kernel_rfl)) hHeld ?_
  simp only [Act.put, zq1, zq2, zq3, zq4, zq5, zq6]
  refine wpAnyH_take (i := 1) rfl (by kernel_rfl) (by kernel_rfl) (by kernel_rfl) (fun _ _ _ h => h) (yieldsIf_load_mid (by rfl) 25 _ rfl (d + 1) 0 rfl [.int .i64 b0, .int .i64 b1, .int .i64 b2, .int .i64 b3] _ (fun w hS => (OB.out.below hS (by omega)).range0) Tryz.underlying25 rfl (by kernel_rfl)) hHeld ?_
  simp only [Act.put, zq1, zq2, zq3, zq4, zq5, zq6]
  refine wpAnyH_take (i := 3) (v := .func (.func 8) #[] #[]) rfl (by kernel_rfl) (by kernel_rfl) (by kernel_rfl) (fun _ _ _ h => h) (Or.inl ⟨by rfl, fun w hS => by go_simp⟩) hHeld ?_
  simp only [Act.put, zq1, zq2, zq3, zq4, zq5, zq6]
  refine wpAnyH_take (i := 4) (v := .pointer (some ⟨d, 0, none⟩)) rfl (by kernel_rfl) (by kernel_rfl) (by kernel_rfl) (fun _ _ _ h => h) (Or.inl ⟨by rfl, fun w hS => by go_simp⟩) hHeld ?_
  simp only [Act.put, zq1, zq2, zq3, zq4, zq5, zq6]
  refine wpAnyH_take (i := 5) (v := .int .i64 a0) rfl (by kernel_rfl) (by kernel_rfl) (by kernel_rfl) (fun _ _ _ h => h) (Or.inl ⟨by rfl, fun w hS => by (have hc : w.cell? ⟨d, 0, none⟩ = some (.int .i64 a0) := ((bcell hS).1 _ _ (by omega)).trans ((OA.out.cell 0).trans rfl); go_simp)⟩) hHeld ?_
  simp only [Act.put, zq1, zq2, zq3, zq4, zq5, zq6]
  refine wpAnyH_take (i := 6) (v := .pointer (some ⟨d + 1, 0, none⟩)) rfl (by kernel_rfl) (by kernel_rfl) (by kernel_rfl) (fun _ _ _ h => h) (Or.inl ⟨by rfl, fun w hS => by go_simp⟩) hHeld ?_
  simp only [Act.put, zq1, zq2, zq3, zq4, zq5, zq6]
  refine wpAnyH_take (i := 7) (v := .int .i64 b0) rfl (by kernel_rfl) (by kernel_rfl) (by kernel_rfl) (fun _ _ _ h => h) (Or.inl ⟨by rfl, fun w hS => by (have hc : w.cell? ⟨d + 1, 0, none⟩ = some (.int .i64 b0) := ((bcell hS).1 _ _ (by omega)).trans ((OB.out.cell 0).trans rfl); go_simp)⟩) hHeld ?_
  simp only [Act.put, zq1, zq2, zq3, zq4, zq5, zq6]
  have hS := (Below.refl (d + 2) wc).drew
  generalize World.drew _ = wk at hS ⊢
  refine wpAnyH_ready (rs := [2]) (by kernel_rfl) (by simp) ?_
  refine AllReadyH.cons (o := _) rfl (fun K' hK => ?_) AllReadyH.nil
  go_simp
  refine (HW.out _).mono ?_
  rintro e5 w1 ⟨rfl, hb5⟩
  have hS := bthen hb5 hS (Nat.le_trans (by omega) hS.size)
  go_wp2_with fail
  refine hK _ _ hS (fun hHeld => ?_)
  clear hK K'
  try simp only [Act.put, zq1, zq2, zq3, zq4, zq5, zq6]
  refine wpAnyH_ready (rs := [8]) (by kernel_rfl) (by simp) ?_
  refine AllReadyH.cons (o := _) rfl (fun K' hK => ?_) AllReadyH.nil
  go_simp
  refine (HL0.out _).mono ?_
  rintro e5 w2 ⟨rfl, rfl⟩
  go_wp2_with fail
  refine hK _ _ hS (fun hHeld => ?_)
  clear hK K'
  try simp only [Act.put, zq1, zq2, zq3, zq4, zq5, zq6]
  refine wpAnyH_take (i := 9) (v := .bool true) rfl (by kernel_rfl) (by kernel_rfl) (by kernel_rfl) (fun _ _ _ h => h) (Or.inl ⟨by rfl, fun w hS => by go_simp⟩) hHeld ?_
  simp only [Act.put, zq1, zq2, zq3, zq4, zq5, zq6]
  refine wpAnyH_take (i := 10) (v := .func (.func 8) #[] #[]) rfl (by kernel_rfl) (by kernel_rfl) (by kernel_rfl) (fun _ _ _ h => h) (Or.inl ⟨by rfl, fun w hS => by go_simp⟩) hHeld ?_
  simp only [Act.put, zq1, zq2, zq3, zq4, zq5, zq6]
  refine wpAnyH_take (i := 11) (v := .pointer (some ⟨d, 1, none⟩)) rfl (by kernel_rfl) (by kernel_rfl) (by kernel_rfl) (fun _ _ _ h => h) (Or.inl ⟨by rfl, fun w hS => by go_simp⟩) hHeld ?_
  simp only [Act.put, zq1, zq2, zq3, zq4, zq5, zq6]
  refine wpAnyH_take (i := 12) (v := .int .i64 a1) rfl (by kernel_rfl) (by kernel_rfl) (by kernel_rfl) (fun _ _ _ h => h) (Or.inl ⟨by rfl, fun w hS => by (have hc : w.cell? ⟨d, 1, none⟩ = some (.int .i64 a1) := ((bcell hS).1 _ _ (by omega)).trans ((OA.out.cell 1).trans rfl); go_simp)⟩) hHeld ?_
  simp only [Act.put, zq1, zq2, zq3, zq4, zq5, zq6]
  refine wpAnyH_take (i := 13) (v := .pointer (some ⟨d + 1, 1, none⟩)) rfl (by kernel_rfl) (by kernel_rfl) (by kernel_rfl) (fun _ _ _ h => h) (Or.inl ⟨by rfl, fun w hS => by go_simp⟩) hHeld ?_
  simp only [Act.put, zq1, zq2, zq3, zq4, zq5, zq6]
  refine wpAnyH_take (i := 14) (v := .int .i64 b1) rfl (by kernel_rfl) (by kernel_rfl) (by kernel_rfl) (fun _ _ _ h => h) (Or.inl ⟨by rfl, fun w hS => by (have hc : w.cell? ⟨d + 1, 1, none⟩ = some (.int .i64 b1) := ((bcell hS).1 _ _ (by omega)).trans ((OB.out.cell 1).trans rfl); go_simp)⟩) hHeld ?_
  simp only [Act.put, zq1, zq2, zq3, zq4, zq5, zq6]
  refine wpAnyH_ready (rs := [15]) (by kernel_rfl) (by simp) ?_
  refine AllReadyH.cons (o := _) rfl (fun K' hK => ?_) AllReadyH.nil
  go_simp
  refine (HL1.out _).mono ?_
  rintro e5 w3 ⟨rfl, rfl⟩
  go_wp2_with fail
  refine hK _ _ hS (fun hHeld => ?_)
  clear hK K'
  try simp only [Act.put, zq1, zq2, zq3, zq4, zq5, zq6]
  refine wpAnyH_take (i := 16) (v := .bool true) rfl (by kernel_rfl) (by kernel_rfl) (by kernel_rfl) (fun _ _ _ h => h) (Or.inl ⟨by rfl, fun w hS => by go_simp⟩) hHeld ?_
  simp only [Act.put, zq1, zq2, zq3, zq4, zq5, zq6]
  refine wpAnyH_take (i := 17) (v := .bool true) rfl (by kernel_rfl) (by kernel_rfl) (by kernel_rfl) (fun _ _ _ h => h) (Or.inl ⟨by rfl, fun w hS => by go_simp⟩) hHeld ?_
  simp only [Act.put, zq1, zq2, zq3, zq4, zq5, zq6]
  refine wpAnyH_take (i := 18) (v := .func (.func 8) #[] #[]) rfl (by kernel_rfl) (by kernel_rfl) (by kernel_rfl) (fun _ _ _ h => h) (Or.inl ⟨by rfl, fun w hS => by go_simp⟩) hHeld ?_
  simp only [Act.put, zq1, zq2, zq3, zq4, zq5, zq6]
  refine wpAnyH_take (i := 19) (v := .pointer (some ⟨d, 2, none⟩)) rfl (by kernel_rfl) (by kernel_rfl) (by kernel_rfl) (fun _ _ _ h => h) (Or.inl ⟨by rfl, fun w hS => by go_simp⟩) hHeld ?_
  simp only [Act.put, zq1, zq2, zq3, zq4, zq5, zq6]
  refine wpAnyH_take (i := 20) (v := .int .i64 a2) rfl (by kernel_rfl) (by kernel_rfl) (by kernel_rfl) (fun _ _ _ h => h) (Or.inl ⟨by rfl, fun w hS => by (have hc : w.cell? ⟨d, 2, none⟩ = some (.int .i64 a2) := ((bcell hS).1 _ _ (by omega)).trans ((OA.out.cell 2).trans rfl); go_simp)⟩) hHeld ?_
  simp only [Act.put, zq1, zq2, zq3, zq4, zq5, zq6]
  refine wpAnyH_take (i := 21) (v := .pointer (some ⟨d + 1, 2, none⟩)) rfl (by kernel_rfl) (by kernel_rfl) (by kernel_rfl) (fun _ _ _ h => h) (Or.inl ⟨by rfl, fun w hS => by go_simp⟩) hHeld ?_
  simp only [Act.put, zq1, zq2, zq3, zq4, zq5, zq6]
  refine wpAnyH_take (i := 22) (v := .int .i64 b2) rfl (by kernel_rfl) (by kernel_rfl) (by kernel_rfl) (fun _ _ _ h => h) (Or.inl ⟨by rfl, fun w hS => by (have hc : w.cell? ⟨d + 1, 2, none⟩ = some (.int .i64 b2) := ((bcell hS).1 _ _ (by omega)).trans ((OB.out.cell 2).trans rfl); go_simp)⟩) hHeld ?_
  simp only [Act.put, zq1, zq2, zq3, zq4, zq5, zq6]
  refine wpAnyH_ready (rs := [23]) (by kernel_rfl) (by simp) ?_
  refine AllReadyH.cons (o := _) rfl (fun K' hK => ?_) AllReadyH.nil
  go_simp
  refine (HL2.out _).mono ?_
  rintro e5 w4 ⟨rfl, rfl⟩
  go_wp2_with fail
  refine hK _ _ hS (fun hHeld => ?_)
  clear hK K'
  try simp only [Act.put, zq1, zq2, zq3, zq4, zq5, zq6]
  refine wpAnyH_take (i := 24) (v := .bool true) rfl (by kernel_rfl) (by kernel_rfl) (by kernel_rfl) (fun _ _ _ h => h) (Or.inl ⟨by rfl, fun w hS => by go_simp⟩) hHeld ?_
  simp only [Act.put, zq1, zq2, zq3, zq4, zq5, zq6]
  refine wpAnyH_take (i := 25) (v := .bool true) rfl (by kernel_rfl) (by kernel_rfl) (by kernel_rfl) (fun _ _ _ h => h) (Or.inl ⟨by rfl, fun w hS => by go_simp⟩) hHeld ?_
  simp only [Act.put, zq1, zq2, zq3, zq4, zq5, zq6]
  refine wpAnyH_take (i := 26) (v := .func (.func 8) #[] #[]) rfl (by kernel_rfl) (by kernel_rfl) (by kernel_rfl) (fun _ _ _ h => h) (Or.inl ⟨by rfl, fun w hS => by go_simp⟩) hHeld ?_
  simp only [Act.put, zq1, zq2, zq3, zq4, zq5, zq6]
  refine wpAnyH_take (i := 27) (v := .pointer (some ⟨d, 3, none⟩)) rfl (by kernel_rfl) (by kernel_rfl) (by kernel_rfl) (fun _ _ _ h => h) (Or.inl ⟨by rfl, fun w hS => by go_simp⟩) hHeld ?_
  simp only [Act.put, zq1, zq2, zq3, zq4, zq5, zq6]
  refine wpAnyH_take (i := 28) (v := .int .i64 a3) rfl (by kernel_rfl) (by kernel_rfl) (by kernel_rfl) (fun _ _ _ h => h) (Or.inl ⟨by rfl, fun w hS => by (have hc : w.cell? ⟨d, 3, none⟩ = some (.int .i64 a3) := ((bcell hS).1 _ _ (by omega)).trans ((OA.out.cell 3).trans rfl); go_simp)⟩) hHeld ?_
  simp only [Act.put, zq1, zq2, zq3, zq4, zq5, zq6]
  refine wpAnyH_take (i := 29) (v := .pointer (some ⟨d + 1, 3, none⟩)) rfl (by kernel_rfl) (by kernel_rfl) (by kernel_rfl) (fun _ _ _ h => h) (Or.inl ⟨by rfl, fun w hS => by go_simp⟩) hHeld ?_
  simp only [Act.put, zq1, zq2, zq3, zq4, zq5, zq6]
  refine wpAnyH_take (i := 30) (v := .int .i64 b3) rfl (by kernel_rfl) (by kernel_rfl) (by kernel_rfl) (fun _ _ _ h => h) (Or.inl ⟨by rfl, fun w hS => by (have hc : w.cell? ⟨d + 1, 3, none⟩ = some (.int .i64 b3) := ((bcell hS).1 _ _ (by omega)).trans ((OB.out.cell 3).trans rfl); go_simp)⟩) hHeld ?_
  simp only [Act.put, zq1, zq2, zq3, zq4, zq5, zq6]
  refine wpAnyH_ready (rs := [31]) (by kernel_rfl) (by simp) ?_
  refine AllReadyH.cons (o := _) rfl (fun K' hK => ?_) AllReadyH.nil
  go_simp
  refine (HL3.out _).mono ?_
  rintro e5 w5 ⟨rfl, rfl⟩
  go_wp2_with fail
  refine hK _ _ hS (fun hHeld => ?_)
  clear hK K'
  try simp only [Act.put, zq1, zq2, zq3, zq4, zq5, zq6]
  refine wpAnyH_take (i := 32) (v := .bool true) rfl (by kernel_rfl) (by kernel_rfl) (by kernel_rfl) (fun _ _ _ h => h) (Or.inl ⟨by rfl, fun w hS => by go_simp⟩) hHeld ?_
  simp only [Act.put, zq1, zq2, zq3, zq4, zq5, zq6]
  refine wpAnyH_take (i := 33) (v := .bool true) rfl (by kernel_rfl) (by kernel_rfl) (by kernel_rfl) (fun _ _ _ h => h) (Or.inl ⟨by rfl, fun w hS => by go_simp⟩) hHeld ?_
  simp only [Act.put, zq1, zq2, zq3, zq4, zq5, zq6]
  refine wpAnyH_take (i := 34) (v := .bool true) rfl (by kernel_rfl) (by kernel_rfl) (by kernel_rfl) (fun _ _ _ h => h) (Or.inl ⟨by rfl, fun w hS => by go_simp⟩) hHeld ?_
  simp only [Act.put, zq1, zq2, zq3, zq4, zq5, zq6]
  refine wpAnyH_take (i := 35) rfl (by kernel_rfl) (by kernel_rfl) (by kernel_rfl) (fun _ _ _ h => h) (yieldsIf_load_mid (by rfl) 25 _ rfl (d) 0 rfl [.int .i64 a0, .int .i64 a1, .int .i64 a2, .int .i64 a3] _ (fun w hS => (OA.out.below hS (by omega)).range0) Tryz.underlying25 rfl (by kernel_rfl)) hHeld ?_
  simp only [Act.put, zq1, zq2, zq3, zq4, zq5, zq6]
  refine wpAnyH_take (i := 36) rfl (by kernel_rfl) (by kernel_rfl) (by kernel_rfl) (fun _ _ _ h => h) (yieldsIf_load_mid (by rfl) 25 _ rfl (d) 0 rfl [.int .i64 a0, .int .i64 a1, .int .i64 a2, .int .i64 a3] _ (fun w hS => (OA.out.below hS (by omega)).range0) Tryz.underlying25 rfl (by kernel_rfl)) hHeld ?_
  simp only [Act.put, zq1, zq2, zq3, zq4, zq5, zq6]
  refine wpAnyH_ready (rs := [37]) (by kernel_rfl) (by simp) ?_
  refine AllReadyH.cons (o := _) rfl (fun K' hK => ?_) AllReadyH.nil
  go_simp
  refine (HWA.out _).mono ?_
  rintro e5 w6 ⟨rfl, hb5⟩
  have hS := bthen hb5 hS (Nat.le_trans (by omega) hS.size)
  go_wp2_with fail
  refine hK _ _ hS (fun hHeld => ?_)
  clear hK K'
  try simp only [Act.put, zq1, zq2, zq3, zq4, zq5, zq6]
  refine wpAnyH_take (i := 38) (v := .bool true) rfl (by kernel_rfl) (by kernel_rfl) (by kernel_rfl) (fun _ _ _ h => h) (Or.inl ⟨by rfl, fun w hS => by go_simp⟩) hHeld ?_
  simp only [Act.put, zq1, zq2, zq3, zq4, zq5, zq6]
  refine wpAnyH_take (i := 39) (v := .bool true) rfl (by kernel_rfl) (by kernel_rfl) (by kernel_rfl) (fun _ _ _ h => h) (Or.inl ⟨by rfl, fun w hS => by go_simp⟩) hHeld ?_
  simp only [Act.put, zq1, zq2, zq3, zq4, zq5, zq6]
  refine wpAnyH_ready (rs := [40]) (by kernel_rfl) (by simp) ?_
  refine AllReadyH.cons (o := _) rfl (fun K' hK => ?_) AllReadyH.nil
  go_simp
  refine (HAW.out _).mono ?_
  rintro e5 w7 ⟨rfl, hb5⟩
  have hS := bthen hb5 hS (Nat.le_trans (by omega) hS.size)
  go_wp2_with fail
  refine hK _ _ hS (fun hHeld => ?_)
  clear hK K'
  try simp only [Act.put, zq1, zq2, zq3, zq4, zq5, zq6]
  refine wpAnyH_take (i := 41) (v := .bool true) rfl (by kernel_rfl) (by kernel_rfl) (by kernel_rfl) (fun _ _ _ h => h) (Or.inl ⟨by rfl, fun w hS => by go_simp⟩) hHeld ?_
  simp only [Act.put, zq1, zq2, zq3, zq4, zq5, zq6]
  refine wpAnyH_take (i := 42) (v := .bool true) rfl (by kernel_rfl) (by kernel_rfl) (by kernel_rfl) (fun _ _ _ h => h) (Or.inl ⟨by rfl, fun w hS => by go_simp⟩) hHeld ?_
  simp only [Act.put, zq1, zq2, zq3, zq4, zq5, zq6]
  refine wpAnyH_done (by kernel_rfl) ?_ _
  refine NoPanic.normal ?_
  have BL := Hi (BL.out.trans (hS.mono (by have := HDe.out; omega)))
  go_wp2_with fail
  go_ret
  exact ⟨rfl, BL.out⟩
theorem nwith_law (a0 a1 a2 a3 b0 b1 b2 b3 : Int) (w : World) : Calls Tryz.prog 4 #[.agg #[.int .i64 a0, .int .i64 a1, .int .i64 a2, .int .i64 a3], .agg #[.int .i64 b0, .int .i64 b1, .int .i64 b2, .int .i64 b3]] w (Yes31 w) := by
  cases l0 : leB a0 b0 with
  | false => exact nwith_0 a0 a1 a2 a3 b0 b1 b2 b3 w l0
  | true =>
  cases l1 : leB a1 b1 with
  | false => exact nwith_1 a0 a1 a2 a3 b0 b1 b2 b3 w l0 l1
  | true =>
  cases l2 : leB a2 b2 with
  | false => exact nwith_2 a0 a1 a2 a3 b0 b1 b2 b3 w l0 l1 l2
  | true =>
  cases l3 : leB a3 b3 with
  | false => exact nwith_3 a0 a1 a2 a3 b0 b1 b2 b3 w l0 l1 l2 l3
  | true => exact nwith_4 a0 a1 a2 a3 b0 b1 b2 b3 w l0 l1 l2 l3
end Go.Proofs.YtcjjfnghgajefaaGreat

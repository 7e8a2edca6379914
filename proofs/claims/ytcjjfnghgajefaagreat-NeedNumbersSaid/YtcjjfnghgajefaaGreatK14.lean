/- The law NeedNumbers. -/
import Derived.Test.YtcjjfnghgajefaaGreatK13
import Derived.Deep.CutRange
import Derived.Test.YtcjjfnghgajefaaGreatK0
namespace Go.Proofs.YtcjjfnghgajefaaGreat
open Go.RowKit
set_option linter.unusedVariables false
set_option linter.unusedSimpArgs false
def Yes31 (w : World) (e : Ending) (w' : World) : Prop := e = .returned (.bool true) ∧ Below w.heap.size w w'
set_option maxRecDepth 100000 in
set_option maxHeartbeats 4000000 in
theorem nnum_law (fm W H bt C R b : Int) (hb : (Lit.int .i64 b).wf = true) (w : World) : Calls Tryz.prog 3 #[.agg #[.int .i64 fm, .int .i64 W, .int .i64 H, .int .i64 bt, .int .i64 C, .int .i64 R], .int .i64 b] w (Yes31 w) := by
  clear hb
  obtain ⟨B, hB⟩ : ∃ B, needB W H C R b = B := ⟨_, rfl⟩
  have HB := Hi hB
  obtain ⟨q0, q1, q2, q3, hq⟩ : ∃ q0 q1 q2 q3 : Int, (if B = true then needL W H C R b else [.int .i64 0, .int .i64 0, .int .i64 0, .int .i64 0]) = [.int .i64 q0, .int .i64 q1, .int .i64 q2, .int .i64 q3] := by
    cases B
    · exact ⟨0, 0, 0, 0, rfl⟩
    · exact ⟨_, _, _, _, rfl⟩
  have HQ := Hi hq
  have HPN := Hi (fun w0 => (show Calls Tryz.prog 5 #[.agg (List.toArray [.int .i64 fm, .int .i64 W, .int .i64 H, .int .i64 bt, .int .i64 C, .int .i64 R]), .int .i64 b] w0 (fun e w' => e = .returned (.agg (List.toArray [.int .i64 q0, .int .i64 q1, .int .i64 q2, .int .i64 q3])) ∧ Below w0.heap.size w0 w') from by
    rw [← HQ.out]
    cases hc : B with
    | false => rw [if_neg (by decide)]; exact pneed_no fm W H bt C R b w0 (HB.out.trans hc)
    | true => rw [if_pos rfl]; exact pneed_yes fm W H bt C R b w0 (HB.out.trans hc)))
  have HAW := Hi (fun w0 => awake31 w0)
  have OP := Hi (obj1_new w (List.toArray [.int .i64 fm, .int .i64 W, .int .i64 H, .int .i64 bt, .int .i64 C, .int .i64 R]) 23)
  have BL := Hi ((Below.refl w.heap.size w).alloc (Nat.le_refl _) (.cells (List.toArray [.int .i64 fm, .int .i64 W, .int .i64 H, .int .i64 bt, .int .i64 C, .int .i64 R]) 23))
  obtain ⟨d, hd⟩ : ∃ d, w.heap.size = d := ⟨_, rfl⟩
  have HDe := Hi hd
  have E0 := Hi (show ∀ e w', e = .returned (.bool true) → Below w.heap.size w w' → Yes31 w e w' from fun e w' h1 h2 => ⟨h1, h2⟩)
  rw [hd] at OP
  clear hB hq
  go_enter Tryz.func3, Tryz.ntmps3
  go_upto_region 1 with (fail)
  clear hd
  generalize World.alloc _ _ = wr at OP BL ⊢
  go_wp2_with (first
    | (refine load_u (by kernel_rfl) 23 6 _ rfl d [.int .i64 fm, .int .i64 W, .int .i64 H, .int .i64 bt, .int .i64 C, .int .i64 R] rfl rfl OP.out Tryz.underlying23 rfl (by kernel_rfl) ?_; intro _))
  with_reducible refine (HPN.out _).mono ?_
  rintro e w2 ⟨rfl, hb⟩
  have OP := Hi (OP.out.below hb OP.out.lt)
  have BL := Hi (bthen hb BL.out BL.out.size)
  have lz := OP.out.lt
  clear hb
  obtain ⟨g, hg⟩ : ∃ b, w2.heap.size = b := ⟨_, rfl⟩
  have HG := Hi hg
  have O5 := Hi (obj1_new w2 #[.int .i64 0, .int .i64 0, .int .i64 0, .int .i64 0] 25)
  rw [hg] at O5 lz
  have BL := Hi (BL.out.alloc BL.out.size (.cells #[.int .i64 0, .int .i64 0, .int .i64 0, .int .i64 0] 25))
  have OP := Hi (OP.out.alloc (.cells #[.int .i64 0, .int .i64 0, .int .i64 0, .int .i64 0] 25))
  go_upto_region 2 with (first
    | (refine store_o rfl 25 4 _ _ rfl g [.int .i64 q0, .int .i64 q1, .int .i64 q2, .int .i64 q3] rfl rfl (by kernel_rfl) (by kernel_rfl) (by kernel_rfl) O5.out (by first | rfl | simp) ?_; intro w3 hst hO; have O5 := Hi hO; have OP := Hi (hst.oth OP.out (by omega)); have BL := Hi (hst.below BL.out (by have := HDe.out; omega)); clear hst hO))
  clear hg
  have p1 := (OP.out.cell 1).trans (show _ = some (.int .i64 W) from rfl)
  have p2 := (OP.out.cell 2).trans (show _ = some (.int .i64 H) from rfl)
  have p4 := (OP.out.cell 4).trans (show _ = some (.int .i64 C) from rfl)
  have p5 := (OP.out.cell 5).trans (show _ = some (.int .i64 R) from rfl)
  go_upto_region 3 with (fail)
  go_cut [58] from 10 to 58 (fun c wx => wx = w3 ∧ c = .bool (!B))
  case first =>
    by_cases h0 : W < 1
    · have g0 : decide (W < 1) = true := by rw [decide_eq_true_iff]; exact h0
      have hb0 : B = false := by
        rw [← HB.out]
        refine Bool.eq_false_iff.2 fun hh => ?_
        obtain ⟨z1, z2, z3, z4, z5, z6, z7, z8, z9, z10⟩ := need_in hh
        omega
      have HB0 := Hi hb0
      clear hb0 h0
      go_wp2_with ((with_reducible refine skip_g rfl ?_ ?_); rfl; intro _)
      go_meet
      exact ⟨rfl, by rw [HB0.out]; rfl⟩
    have g0 : decide (W < 1) = false := by rw [decide_eq_false_iff_not]; exact h0
    by_cases h1 : 16384 < W
    · have g1 : decide (W > 16384) = true := by rw [decide_eq_true_iff]; exact h1
      have hb0 : B = false := by
        rw [← HB.out]
        refine Bool.eq_false_iff.2 fun hh => ?_
        obtain ⟨z1, z2, z3, z4, z5, z6, z7, z8, z9, z10⟩ := need_in hh
        omega
      have HB0 := Hi hb0
      clear hb0 h0 h1
      go_wp2_with ((with_reducible refine skip_g rfl ?_ ?_); rfl; intro _)
      go_meet
      exact ⟨rfl, by rw [HB0.out]; rfl⟩
    have g1 : decide (W > 16384) = false := by rw [decide_eq_false_iff_not]; exact h1
    by_cases h2 : H < 1
    · have g2 : decide (H < 1) = true := by rw [decide_eq_true_iff]; exact h2
      have hb0 : B = false := by
        rw [← HB.out]
        refine Bool.eq_false_iff.2 fun hh => ?_
        obtain ⟨z1, z2, z3, z4, z5, z6, z7, z8, z9, z10⟩ := need_in hh
        omega
      have HB0 := Hi hb0
      clear hb0 h0 h1 h2
      go_wp2_with ((with_reducible refine skip_g rfl ?_ ?_); rfl; intro _)
      go_meet
      exact ⟨rfl, by rw [HB0.out]; rfl⟩
    have g2 : decide (H < 1) = false := by rw [decide_eq_false_iff_not]; exact h2
    by_cases h3 : 16384 < H
    · have g3 : decide (H > 16384) = true := by rw [decide_eq_true_iff]; exact h3
      have hb0 : B = false := by
        rw [← HB.out]
        refine Bool.eq_false_iff.2 fun hh => ?_
        obtain ⟨z1, z2, z3, z4, z5, z6, z7, z8, z9, z10⟩ := need_in hh
        omega
      have HB0 := Hi hb0
      clear hb0 h0 h1 h2 h3
      go_wp2_with ((with_reducible refine skip_g rfl ?_ ?_); rfl; intro _)
      go_meet
      exact ⟨rfl, by rw [HB0.out]; rfl⟩
    have g3 : decide (H > 16384) = false := by rw [decide_eq_false_iff_not]; exact h3
    by_cases h4 : C < 0
    · have g4 : decide (C < 0) = true := by rw [decide_eq_true_iff]; exact h4
      have hb0 : B = false := by
        rw [← HB.out]
        refine Bool.eq_false_iff.2 fun hh => ?_
        obtain ⟨z1, z2, z3, z4, z5, z6, z7, z8, z9, z10⟩ := need_in hh
        omega
      have HB0 := Hi hb0
      clear hb0 h0 h1 h2 h3 h4
      go_wp2_with ((with_reducible refine skip_g rfl ?_ ?_); rfl; intro _)
      go_meet
      exact ⟨rfl, by rw [HB0.out]; rfl⟩
    have g4 : decide (C < 0) = false := by rw [decide_eq_false_iff_not]; exact h4
    by_cases h5 : 1099511627776 < C
    · have g5 : decide (C > 1099511627776) = true := by rw [decide_eq_true_iff]; exact h5
      have hb0 : B = false := by
        rw [← HB.out]
        refine Bool.eq_false_iff.2 fun hh => ?_
        obtain ⟨z1, z2, z3, z4, z5, z6, z7, z8, z9, z10⟩ := need_in hh
        omega
      have HB0 := Hi hb0
      clear hb0 h0 h1 h2 h3 h4 h5
      go_wp2_with ((with_reducible refine skip_g rfl ?_ ?_); rfl; intro _)
      go_meet
      exact ⟨rfl, by rw [HB0.out]; rfl⟩
    have g5 : decide (C > 1099511627776) = false := by rw [decide_eq_false_iff_not]; exact h5
    by_cases h6 : R < 0
    · have g6 : decide (R < 0) = true := by rw [decide_eq_true_iff]; exact h6
      have hb0 : B = false := by
        rw [← HB.out]
        refine Bool.eq_false_iff.2 fun hh => ?_
        obtain ⟨z1, z2, z3, z4, z5, z6, z7, z8, z9, z10⟩ := need_in hh
        omega
      have HB0 := Hi hb0
      clear hb0 h0 h1 h2 h3 h4 h5 h6
      go_wp2_with ((with_reducible refine skip_g rfl ?_ ?_); rfl; intro _)
      go_meet
      exact ⟨rfl, by rw [HB0.out]; rfl⟩
    have g6 : decide (R < 0) = false := by rw [decide_eq_false_iff_not]; exact h6
    by_cases h7 : 1099511627776 < R
    · have g7 : decide (R > 1099511627776) = true := by rw [decide_eq_true_iff]; exact h7
      have hb0 : B = false := by
        rw [← HB.out]
        refine Bool.eq_false_iff.2 fun hh => ?_
        obtain ⟨z1, z2, z3, z4, z5, z6, z7, z8, z9, z10⟩ := need_in hh
        omega
      have HB0 := Hi hb0
      clear hb0 h0 h1 h2 h3 h4 h5 h6 h7
      go_wp2_with ((with_reducible refine skip_g rfl ?_ ?_); rfl; intro _)
      go_meet
      exact ⟨rfl, by rw [HB0.out]; rfl⟩
    have g7 : decide (R > 1099511627776) = false := by rw [decide_eq_false_iff_not]; exact h7
    by_cases h8 : b < 0
    · have g8 : decide (b < 0) = true := by rw [decide_eq_true_iff]; exact h8
      have hb0 : B = false := by
        rw [← HB.out]
        refine Bool.eq_false_iff.2 fun hh => ?_
        obtain ⟨z1, z2, z3, z4, z5, z6, z7, z8, z9, z10⟩ := need_in hh
        omega
      have HB0 := Hi hb0
      clear hb0 h0 h1 h2 h3 h4 h5 h6 h7 h8
      go_wp2_with ((with_reducible refine skip_g rfl ?_ ?_); rfl; intro _)
      go_meet
      exact ⟨rfl, by rw [HB0.out]; rfl⟩
    have g8 : decide (b < 0) = false := by rw [decide_eq_false_iff_not]; exact h8
    by_cases h9 : 1099511627776 < b
    · have g9 : decide (b > 1099511627776) = true := by rw [decide_eq_true_iff]; exact h9
      have hb0 : B = false := by
        rw [← HB.out]
        refine Bool.eq_false_iff.2 fun hh => ?_
        obtain ⟨z1, z2, z3, z4, z5, z6, z7, z8, z9, z10⟩ := need_in hh
        omega
      have HB0 := Hi hb0
      clear hb0 h0 h1 h2 h3 h4 h5 h6 h7 h8 h9
      go_wp2_with ((with_reducible refine skip_g rfl ?_ ?_); rfl; intro _)
      go_meet
      exact ⟨rfl, by rw [HB0.out]; rfl⟩
    have g9 : decide (b > 1099511627776) = false := by rw [decide_eq_false_iff_not]; exact h9
    have hb0 : B = true := by
      rw [← HB.out]
      unfold needB sideB countB
      simp only [Bool.and_eq_true, decide_eq_true_iff]
      exact ⟨⟨by omega, by omega⟩, ⟨by omega, by omega⟩, ⟨by omega, by omega⟩, ⟨by omega, by omega⟩, by omega, by omega⟩
    have HB0 := Hi hb0
    clear hb0 h0 h1 h2 h3 h4 h5 h6 h7 h8 h9
    go_wp2_with fail
    go_meet
    exact ⟨rfl, by rw [HB0.out]; rfl⟩
  case rest =>
  obtain ⟨rfl, rfl⟩ := hcut
  clear p1 p2 p4 p5
  cases B with
  | false =>
    have hqq := HQ.out
    rw [if_neg (by decide)] at hqq
    injection hqq with y0 hqq
    injection hqq with y1 hqq
    injection hqq with y2 hqq
    injection hqq with y3 hqq
    injection y0 with _ y0
    injection y1 with _ y1
    injection y2 with _ y2
    injection y3 with _ y3
    subst y0 y1 y2 y3
    go_wp2_with (first
      | (refine load_u (by kernel_rfl) 25 4 _ rfl g [.int .i64 0, .int .i64 0, .int .i64 0, .int .i64 0] rfl rfl O5.out Tryz.underlying25 rfl (by kernel_rfl) ?_; intro _)
      | ((go_at_call 6; (with_reducible refine (HAW.out _).mono ?_); rintro e w4 ⟨rfl, hb⟩); have BL := Hi (bthen hb BL.out BL.out.size); clear hb))
    go_ret
    exact E0.out _ _ rfl BL.out
  | true =>
    have HIN := Hi (need_in HB.out)
    have HRN := Hi (fun w0 => (rneed_any 0 W H 0 C R 0 0 b w0 HIN.out).mono (R' := fun e w' => e = .returned (.agg (List.toArray [.int .i64 q0, .int .i64 q1, .int .i64 q2, .int .i64 q3])) ∧ Below w0.heap.size w0 w') fun e w' hh => by
      have hqq := HQ.out
      rw [if_pos rfl] at hqq
      rw [hqq] at hh
      exact hh)
    go_upto_region 5 with (fail)
    have lgc := O5.out.lt
    have lpc := OP.out.lt
    refine wp_region_noPanic ?_
    refine wp_region_held_drew (S := fun w' => Below (g + 1) wc w') (by kernel_rfl) (Below.refl _ _).drew (fun hHeld => ?_)
    refine wpAnyH_take (i := 0) rfl (by kernel_rfl) (by kernel_rfl) (by kernel_rfl) (fun _ _ _ h => h) (yieldsIf_load_mid (by rfl) 25 _ rfl g 0 rfl [.int .i64 q0, .int .i64 q1, .int .i64 q2, .int .i64 q3] _ (fun w hS => (O5.out.below hS (by omega)).range0) Tryz.underlying25 rfl (by kernel_rfl)) hHeld ?_
    simp only [Act.put, zq1, zq2, zq3, zq4, zq5, zq6]
    refine wpAnyH_take (i := 1) (v := .pointer (some ⟨d, 1, none⟩)) rfl (by kernel_rfl) (by kernel_rfl) (by kernel_rfl) (fun _ _ _ h => h) (Or.inl ⟨by rfl, fun w hS => by go_simp⟩) hHeld ?_
    simp only [Act.put, zq1, zq2, zq3, zq4, zq5, zq6]
    refine wpAnyH_take (i := 2) (v := .int .i64 W) rfl (by kernel_rfl) (by kernel_rfl) (by kernel_rfl) (fun _ _ _ h => h) (Or.inl ⟨by rfl, fun w hS => by (have hc : w.cell? ⟨d, 1, none⟩ = some (.int .i64 W) := ((bcell hS).1 _ _ (by omega)).trans ((OP.out.cell 1).trans rfl); go_simp)⟩) hHeld ?_
    simp only [Act.put, zq1, zq2, zq3, zq4, zq5, zq6]
    refine wpAnyH_take (i := 3) (v := .pointer (some ⟨d, 2, none⟩)) rfl (by kernel_rfl) (by kernel_rfl) (by kernel_rfl) (fun _ _ _ h => h) (Or.inl ⟨by rfl, fun w hS => by go_simp⟩) hHeld ?_
    simp only [Act.put, zq1, zq2, zq3, zq4, zq5, zq6]
    refine wpAnyH_take (i := 4) (v := .int .i64 H) rfl (by kernel_rfl) (by kernel_rfl) (by kernel_rfl) (fun _ _ _ h => h) (Or.inl ⟨by rfl, fun w hS => by (have hc : w.cell? ⟨d, 2, none⟩ = some (.int .i64 H) := ((bcell hS).1 _ _ (by omega)).trans ((OP.out.cell 2).trans rfl); go_simp)⟩) hHeld ?_
    simp only [Act.put, zq1, zq2, zq3, zq4, zq5, zq6]
    refine wpAnyH_take (i := 5) (v := .pointer (some ⟨d, 4, none⟩)) rfl (by kernel_rfl) (by kernel_rfl) (by kernel_rfl) (fun _ _ _ h => h) (Or.inl ⟨by rfl, fun w hS => by go_simp⟩) hHeld ?_
    simp only [Act.put, zq1, zq2, zq3, zq4, zq5, zq6]
    refine wpAnyH_take (i := 6) (v := .int .i64 C) rfl (by kernel_rfl) (by kernel_rfl) (by kernel_rfl) (fun _ _ _ h => h) (Or.inl ⟨by rfl, fun w hS => by (have hc : w.cell? ⟨d, 4, none⟩ = some (.int .i64 C) := ((bcell hS).1 _ _ (by omega)).trans ((OP.out.cell 4).trans rfl); go_simp)⟩) hHeld ?_
    simp only [Act.put, zq1, zq2, zq3, zq4, zq5, zq6]
    refine wpAnyH_take (i := 7) (v := .pointer (some ⟨d, 5, none⟩)) rfl (by kernel_rfl) (by kernel_rfl) (by kernel_rfl) (fun _ _ _ h => h) (Or.inl ⟨by rfl, fun w hS => by go_simp⟩) hHeld ?_
    simp only [Act.put, zq1, zq2, zq3, zq4, zq5, zq6]
    refine wpAnyH_take (i := 8) (v := .int .i64 R) rfl (by kernel_rfl) (by kernel_rfl) (by kernel_rfl) (fun _ _ _ h => h) (Or.inl ⟨by rfl, fun w hS => by (have hc : w.cell? ⟨d, 5, none⟩ = some (.int .i64 R) := ((bcell hS).1 _ _ (by omega)).trans ((OP.out.cell 5).trans rfl); go_simp)⟩) hHeld ?_
    simp only [Act.put, zq1, zq2, zq3, zq4, zq5, zq6]
    refine wpAnyH_take (i := 9) (v := .agg #[.int .i64 0, .int .i64 W, .int .i64 H, .int .i64 0, .int .i64 C, .int .i64 R, .int .i64 0, .int .i64 0]) rfl (by kernel_rfl) (by kernel_rfl) (by kernel_rfl) (fun _ _ _ h => h) (Or.inl ⟨by rfl, fun w hS => by go_simp⟩) hHeld ?_
    simp only [Act.put, zq1, zq2, zq3, zq4, zq5, zq6]
    refine wpAnyH_take (i := 10) (v := .int .i64 b) rfl (by kernel_rfl) (by kernel_rfl) (by kernel_rfl) (fun _ _ _ h => h) (Or.inl ⟨by rfl, fun w hS => by go_simp⟩) hHeld ?_
    simp only [Act.put, zq1, zq2, zq3, zq4, zq5, zq6]
    have hS := (Below.refl (g + 1) wc).drew
    generalize World.drew _ = wk at hS ⊢
    refine wpAnyH_ready (rs := [11]) (by kernel_rfl) (by simp) ?_
    refine AllReadyH.cons (o := _) rfl (fun K' hK => ?_) AllReadyH.nil
    go_simp
    refine (HRN.out _).mono ?_
    rintro e5 w5 ⟨rfl, hb5⟩
    have hS5 := bthen hb5 hS (Nat.le_trans (by omega) hS.size)
    go_wp2_with fail
    refine hK _ _ hS5 (fun hHeld => ?_)
    clear hK K'
    try simp only [Act.put, zq1, zq2, zq3, zq4, zq5, zq6]
    refine wpAnyH_take (i := 12) (v := .bool true) rfl (by kernel_rfl) (by kernel_rfl) (by kernel_rfl) (fun _ _ _ h => h) (Or.inl ⟨by rfl, fun w hS => by go_simp⟩) hHeld ?_
    simp only [Act.put, zq1, zq2, zq3, zq4, zq5, zq6]
    refine wpAnyH_take (i := 13) (v := .bool true) rfl (by kernel_rfl) (by kernel_rfl) (by kernel_rfl) (fun _ _ _ h => h) (Or.inl ⟨by rfl, fun w hS => by go_simp⟩) hHeld ?_
    simp only [Act.put, zq1, zq2, zq3, zq4, zq5, zq6]
    refine wpAnyH_ready (rs := [14]) (by kernel_rfl) (by simp) ?_
    refine AllReadyH.cons (o := _) rfl (fun K' hK => ?_) AllReadyH.nil
    go_simp
    refine (HAW.out _).mono ?_
    rintro e6 w6 ⟨rfl, hb6⟩
    have hS6 := bthen hb6 hS5 (Nat.le_trans (by omega) hS5.size)
    go_wp2_with fail
    refine hK _ _ hS6 (fun hHeld => ?_)
    clear hK K'
    try simp only [Act.put, zq1, zq2, zq3, zq4, zq5, zq6]
    refine wpAnyH_take (i := 15) (v := .bool true) rfl (by kernel_rfl) (by kernel_rfl) (by kernel_rfl) (fun _ _ _ h => h) (Or.inl ⟨by rfl, fun w hS => by go_simp⟩) hHeld ?_
    simp only [Act.put, zq1, zq2, zq3, zq4, zq5, zq6]
    refine wpAnyH_take (i := 16) (v := .bool true) rfl (by kernel_rfl) (by kernel_rfl) (by kernel_rfl) (fun _ _ _ h => h) (Or.inl ⟨by rfl, fun w hS => by go_simp⟩) hHeld ?_
    simp only [Act.put, zq1, zq2, zq3, zq4, zq5, zq6]
    refine wpAnyH_done (by kernel_rfl) ?_ _
    refine NoPanic.normal ?_
    have BL := Hi (BL.out.trans (hS6.mono (by have := HDe.out; omega)))
    go_wp2_with fail
    go_ret
    exact E0.out _ _ rfl BL.out
end Go.Proofs.YtcjjfnghgajefaaGreat

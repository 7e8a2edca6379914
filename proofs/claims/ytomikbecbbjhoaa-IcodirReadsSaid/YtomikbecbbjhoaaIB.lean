/- icodir: the test of an entry, walked. -/
import Derived.Test.YtomikbecbbjhoaaIA
namespace Go.Proofs.Ytomikbecbbjhoaa
open Go.RowKit
set_option linter.unusedVariables false
set_option linter.unusedSimpArgs false
def withinB (v : Int) (b : Nat) : Bool := decide (0 ≤ v) && decide (v < 2 ^ b)
theorem within_any (v : Int) (b : Nat) (r : Bool) (w : World) (hb : b = 16 ∨ b = 32) (hr : withinB v b = r) : Calls Try.prog 117 #[.int .i64 v, .int .i64 0, .int .i64 b] w fun e w' => e = .returned (.bool r) ∧ w' = w := by
  unfold withinB at hr
  obtain ⟨d1, h1⟩ : ∃ d, decide (0 ≤ v) = d := ⟨_, rfl⟩
  have h1' : decide (v ≥ 0) = d1 := h1
  rw [h1] at hr
  obtain ⟨d2, h2⟩ : ∃ d, decide (v < 2 ^ b) = d := ⟨_, rfl⟩
  rw [h2] at hr
  have HR := Lib.hid hr
  clear hr
  rcases hb with rfl | rfl
  all_goals
    simp only [show (2 : Int) ^ 16 = 65536 by decide, show (2 : Int) ^ 32 = 4294967296 by decide] at h2
    cases d1
    · go_enter Try.func117, Try.ntmps117
      go_wp2_with ((with_reducible refine skip_g rfl ?_ ?_); rfl; intro _)
      go_ret
      exact ⟨ret_b HR.out, rfl⟩
    · go_enter Try.func117, Try.ntmps117
      go_wp2_with ((with_reducible refine skip_g rfl ?_ ?_); rfl; intro _)
      go_ret
      exact ⟨ret_b HR.out, rfl⟩
def Ent.right (e : Ent) : Bool := (decide (e.W ≥ 1)) && (decide (e.W ≤ 256)) && (decide (e.H ≥ 1)) && (decide (e.H ≤ 256)) && (withinB e.A 16) && (withinB e.B 16) && (withinB e.Z 32) && (withinB e.P 32)
set_option maxRecDepth 100000 in
set_option maxHeartbeats 8000000 in
theorem right_any (e : Ent) (r : Bool) (w : World) (hr : e.right = r) : Calls Try.prog 85 #[.agg (List.toArray e.cells)] w fun x w' => x = .returned (.bool r) ∧ Below w.heap.size w w' := by
  have OE := Lib.hid (obj1_new w (List.toArray e.cells) 59)
  have BW := Lib.hid ((Below.refl w.heap.size w).alloc (Nat.le_refl _) (.cells (List.toArray e.cells) 59))
  unfold Ent.right at hr
  obtain ⟨c1, hc1⟩ : ∃ d, decide (e.W ≥ 1) = d := ⟨_, rfl⟩
  obtain ⟨c2, hc2⟩ : ∃ d, decide (e.W ≤ 256) = d := ⟨_, rfl⟩
  obtain ⟨c3, hc3⟩ : ∃ d, decide (e.H ≥ 1) = d := ⟨_, rfl⟩
  obtain ⟨c4, hc4⟩ : ∃ d, decide (e.H ≤ 256) = d := ⟨_, rfl⟩
  obtain ⟨c5, hc5⟩ : ∃ d, withinB e.A 16 = d := ⟨_, rfl⟩
  obtain ⟨c6, hc6⟩ : ∃ d, withinB e.B 16 = d := ⟨_, rfl⟩
  obtain ⟨c7, hc7⟩ : ∃ d, withinB e.Z 32 = d := ⟨_, rfl⟩
  obtain ⟨c8, hc8⟩ : ∃ d, withinB e.P 32 = d := ⟨_, rfl⟩
  rw [hc1, hc2, hc3, hc4, hc5, hc6, hc7, hc8] at hr
  have HR := Lib.hid hr
  clear hr
  have HA := Lib.hid (fun w0 => (show Calls Try.prog 117 #[.int .i64 e.A, .int .i64 0, .int .i64 16] w0 (fun x w' => x = .returned (.bool c5) ∧ w' = w0) from within_any e.A 16 c5 w0 (Or.inl rfl) hc5))
  have HBB := Lib.hid (fun w0 => (show Calls Try.prog 117 #[.int .i64 e.B, .int .i64 0, .int .i64 16] w0 (fun x w' => x = .returned (.bool c6) ∧ w' = w0) from within_any e.B 16 c6 w0 (Or.inl rfl) hc6))
  have HZ := Lib.hid (fun w0 => (show Calls Try.prog 117 #[.int .i64 e.Z, .int .i64 0, .int .i64 32] w0 (fun x w' => x = .returned (.bool c7) ∧ w' = w0) from within_any e.Z 32 c7 w0 (Or.inr rfl) hc7))
  have HP := Lib.hid (fun w0 => (show Calls Try.prog 117 #[.int .i64 e.P, .int .i64 0, .int .i64 32] w0 (fun x w' => x = .returned (.bool c8) ∧ w' = w0) from within_any e.P 32 c8 w0 (Or.inr rfl) hc8))
  clear hc5 hc6 hc7 hc8
  go_enter Try.func85, Try.ntmps85
  go_upto_region 2 with (fail)
  generalize World.alloc _ _ = w1 at OE BW ⊢
  have k0 : w1.cell? ⟨w.heap.size, 0, none⟩ = some (.int .i64 e.W) := (OE.out.cell 0).trans rfl
  have k1 : w1.cell? ⟨w.heap.size, 1, none⟩ = some (.int .i64 e.H) := (OE.out.cell 1).trans rfl
  have k2 : w1.cell? ⟨w.heap.size, 2, none⟩ = some (.int .i64 e.A) := (OE.out.cell 2).trans rfl
  have k3 : w1.cell? ⟨w.heap.size, 3, none⟩ = some (.int .i64 e.B) := (OE.out.cell 3).trans rfl
  have k4 : w1.cell? ⟨w.heap.size, 4, none⟩ = some (.int .i64 e.Z) := (OE.out.cell 4).trans rfl
  have k5 : w1.cell? ⟨w.heap.size, 5, none⟩ = some (.int .i64 e.P) := (OE.out.cell 5).trans rfl
  clear OE
  cases c1
  · skip
    go_wp2_with (first
      | ((with_reducible refine skip_g rfl ?_ ?_); rfl; intro _)
      | ((go_at_call 117; (with_reducible refine (HA.out _).mono ?_); rintro x wc ⟨rfl, rfl⟩))
      | ((go_at_call 117; (with_reducible refine (HBB.out _).mono ?_); rintro x wc ⟨rfl, rfl⟩))
      | ((go_at_call 117; (with_reducible refine (HZ.out _).mono ?_); rintro x wc ⟨rfl, rfl⟩))
      | ((go_at_call 117; (with_reducible refine (HP.out _).mono ?_); rintro x wc ⟨rfl, rfl⟩)))
    go_ret
    exact ⟨ret_b HR.out, BW.out⟩
  cases c2
  · skip
    go_wp2_with (first
      | ((with_reducible refine skip_g rfl ?_ ?_); rfl; intro _)
      | ((go_at_call 117; (with_reducible refine (HA.out _).mono ?_); rintro x wc ⟨rfl, rfl⟩))
      | ((go_at_call 117; (with_reducible refine (HBB.out _).mono ?_); rintro x wc ⟨rfl, rfl⟩))
      | ((go_at_call 117; (with_reducible refine (HZ.out _).mono ?_); rintro x wc ⟨rfl, rfl⟩))
      | ((go_at_call 117; (with_reducible refine (HP.out _).mono ?_); rintro x wc ⟨rfl, rfl⟩)))
    go_ret
    exact ⟨ret_b HR.out, BW.out⟩
  cases c3
  · skip
    go_wp2_with (first
      | ((with_reducible refine skip_g rfl ?_ ?_); rfl; intro _)
      | ((go_at_call 117; (with_reducible refine (HA.out _).mono ?_); rintro x wc ⟨rfl, rfl⟩))
      | ((go_at_call 117; (with_reducible refine (HBB.out _).mono ?_); rintro x wc ⟨rfl, rfl⟩))
      | ((go_at_call 117; (with_reducible refine (HZ.out _).mono ?_); rintro x wc ⟨rfl, rfl⟩))
      | ((go_at_call 117; (with_reducible refine (HP.out _).mono ?_); rintro x wc ⟨rfl, rfl⟩)))
    go_ret
    exact ⟨ret_b HR.out, BW.out⟩
  cases c4
  · skip
    go_wp2_with (first
      | ((with_reducible refine skip_g rfl ?_ ?_); rfl; intro _)
      | ((go_at_call 117; (with_reducible refine (HA.out _).mono ?_); rintro x wc ⟨rfl, rfl⟩))
      | ((go_at_call 117; (with_reducible refine (HBB.out _).mono ?_); rintro x wc ⟨rfl, rfl⟩))
      | ((go_at_call 117; (with_reducible refine (HZ.out _).mono ?_); rintro x wc ⟨rfl, rfl⟩))
      | ((go_at_call 117; (with_reducible refine (HP.out _).mono ?_); rintro x wc ⟨rfl, rfl⟩)))
    go_ret
    exact ⟨ret_b HR.out, BW.out⟩
  cases c5
  · skip
    go_wp2_with (first
      | ((with_reducible refine skip_g rfl ?_ ?_); rfl; intro _)
      | ((go_at_call 117; (with_reducible refine (HA.out _).mono ?_); rintro x wc ⟨rfl, rfl⟩))
      | ((go_at_call 117; (with_reducible refine (HBB.out _).mono ?_); rintro x wc ⟨rfl, rfl⟩))
      | ((go_at_call 117; (with_reducible refine (HZ.out _).mono ?_); rintro x wc ⟨rfl, rfl⟩))
      | ((go_at_call 117; (with_reducible refine (HP.out _).mono ?_); rintro x wc ⟨rfl, rfl⟩)))
    go_ret
    exact ⟨ret_b HR.out, BW.out⟩
  cases c6
  · skip
    go_wp2_with (first
      | ((with_reducible refine skip_g rfl ?_ ?_); rfl; intro _)
      | ((go_at_call 117; (with_reducible refine (HA.out _).mono ?_); rintro x wc ⟨rfl, rfl⟩))
      | ((go_at_call 117; (with_reducible refine (HBB.out _).mono ?_); rintro x wc ⟨rfl, rfl⟩))
      | ((go_at_call 117; (with_reducible refine (HZ.out _).mono ?_); rintro x wc ⟨rfl, rfl⟩))
      | ((go_at_call 117; (with_reducible refine (HP.out _).mono ?_); rintro x wc ⟨rfl, rfl⟩)))
    go_ret
    exact ⟨ret_b HR.out, BW.out⟩
  cases c7
  · skip
    go_wp2_with (first
      | ((with_reducible refine skip_g rfl ?_ ?_); rfl; intro _)
      | ((go_at_call 117; (with_reducible refine (HA.out _).mono ?_); rintro x wc ⟨rfl, rfl⟩))
      | ((go_at_call 117; (with_reducible refine (HBB.out _).mono ?_); rintro x wc ⟨rfl, rfl⟩))
      | ((go_at_call 117; (with_reducible refine (HZ.out _).mono ?_); rintro x wc ⟨rfl, rfl⟩))
      | ((go_at_call 117; (with_reducible refine (HP.out _).mono ?_); rintro x wc ⟨rfl, rfl⟩)))
    go_ret
    exact ⟨ret_b HR.out, BW.out⟩
  cases c8
  · skip
    go_wp2_with (first
      | ((with_reducible refine skip_g rfl ?_ ?_); rfl; intro _)
      | ((go_at_call 117; (with_reducible refine (HA.out _).mono ?_); rintro x wc ⟨rfl, rfl⟩))
      | ((go_at_call 117; (with_reducible refine (HBB.out _).mono ?_); rintro x wc ⟨rfl, rfl⟩))
      | ((go_at_call 117; (with_reducible refine (HZ.out _).mono ?_); rintro x wc ⟨rfl, rfl⟩))
      | ((go_at_call 117; (with_reducible refine (HP.out _).mono ?_); rintro x wc ⟨rfl, rfl⟩)))
    go_ret
    exact ⟨ret_b HR.out, BW.out⟩
  go_wp2_with (first
    | ((with_reducible refine skip_g rfl ?_ ?_); rfl; intro _)
    | ((go_at_call 117; (with_reducible refine (HA.out _).mono ?_); rintro x wc ⟨rfl, rfl⟩))
    | ((go_at_call 117; (with_reducible refine (HBB.out _).mono ?_); rintro x wc ⟨rfl, rfl⟩))
    | ((go_at_call 117; (with_reducible refine (HZ.out _).mono ?_); rintro x wc ⟨rfl, rfl⟩))
    | ((go_at_call 117; (with_reducible refine (HP.out _).mono ?_); rintro x wc ⟨rfl, rfl⟩)))
  go_ret
  exact ⟨ret_b HR.out, BW.out⟩
end Go.Proofs.Ytomikbecbbjhoaa

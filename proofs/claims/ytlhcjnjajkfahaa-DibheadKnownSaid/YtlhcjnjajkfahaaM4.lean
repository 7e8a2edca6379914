/- The references of layers 8 and 9, further: r08.Max, r09.Of, count, channel, Color, Both, Find. -/
import Derived.Test.YtlhcjnjajkfahaaM3
namespace Go.Proofs.Ytlhcjnjajkfahaa
open Go.RowKit
set_option linter.unusedVariables false
theorem near_step (v m k : Int) (h0 : 0 ≤ v) (h2 : 1 ≤ m) (hk : 1 ≤ k) :
    (k ≤ mxI v m → (v * 255 - k * m).natAbs ≤ (v * 255 - (k - 1) * m).natAbs) ∧ (mxI v m < k → (v * 255 - mxI v m * m).natAbs < (v * 255 - k * m).natAbs) := by
  have e1 : (k - 1) * m = k * m - m := by rw [Int.sub_mul]; omega
  rw [e1]
  constructor
  · intro hle
    have : k * (2 * m) ≤ 2 * v * 255 + m := (Int.le_ediv_iff_mul_le (by omega)).1 hle
    have e : k * (2 * m) = 2 * (k * m) := by rw [← Int.mul_assoc, Int.mul_comm k 2, Int.mul_assoc]
    omega
  · intro hlt
    have h := Int.lt_ediv_add_one_mul_self (2 * v * 255 + m) (show 0 < 2 * m by omega)
    have e : (mxI v m + 1) * (2 * m) = 2 * (mxI v m * m) + 2 * m := by rw [Int.add_mul, ← Int.mul_assoc, Int.mul_comm (mxI v m) 2, Int.mul_assoc]; omega
    have hq : (mxI v m + 1) * m ≤ k * m := Int.mul_le_mul_of_nonneg_right (by omega) (by omega)
    rw [Int.add_mul] at hq
    change _ < (mxI v m + 1) * (2 * m) at h
    omega
theorem rmax_any (v m : Int) (w : World) (h0 : 0 ≤ v) (h1 : v ≤ m) (h2 : 1 ≤ m) (h3 : m ≤ 4294967295) :
    Calls Try.prog 111 #[.int .i64 v, .int .i64 m] w fun e w' => e = .returned (.int .i64 (mxI v m)) ∧ w = w' := by
  obtain ⟨B0, B1⟩ := mxI_bd v m h0 h1 h2
  have NS := fun (k : Int) (hk : 1 ≤ k) => near_step v m k h0 h2 hk
  have H := Lib.hid NS
  clear NS
  go_enter Try.func111, Try.ntmps111
  go_wp2
  go_loop [5, 6] (fun b x => ∃ k : Int, 1 ≤ k ∧ k ≤ 256 ∧ x = .int .i64 k ∧ ((k ≤ mxI v m ∧ b = .int .i64 (k - 1)) ∨ (mxI v m < k ∧ b = .int .i64 (mxI v m)))) (fun _ x => 256 - (intOf x).toNat)
  case atStart =>
    refine ⟨1, by omega, by omega, rfl, ?_⟩
    by_cases h : 1 ≤ mxI v m
    · exact Or.inl ⟨h, rfl⟩
    · obtain h : mxI v m = 0 := by omega
      exact Or.inr ⟨by omega, by rw [h]⟩
  case round =>
    obtain ⟨k, k1, k2, rfl, hb⟩ := hrel
    by_cases hlt : k < 256
    · rcases hb with ⟨hb1, rfl⟩ | ⟨hb1, rfl⟩
      · have hs := (H.out k k1).1 hb1
        go_wp2_with (first | (go_at_call 124; (with_reducible refine (far_any v m k _ h0 (by omega) (by omega) h3 (by omega) (by omega)).mono ?_); rintro e w1 ⟨rfl, rfl⟩) | (go_at_call 124; (with_reducible refine (far_any v m (k - 1) _ h0 (by omega) (by omega) h3 (by omega) (by omega)).mono ?_); rintro e w1 ⟨rfl, rfl⟩))
        go_round
        case rel =>
          refine ⟨k + 1, by omega, by omega, rfl, ?_⟩
          by_cases h : k + 1 ≤ mxI v m
          · exact Or.inl ⟨h, by simp⟩
          · have h : mxI v m = k := by omega
            exact Or.inr ⟨by omega, by rw [h]⟩
        case measure => simp [intOf]; omega
      · have hs := (H.out k k1).2 hb1
        go_wp2_with (first | (go_at_call 124; (with_reducible refine (far_any v m k _ h0 (by omega) (by omega) h3 (by omega) (by omega)).mono ?_); rintro e w1 ⟨rfl, rfl⟩) | (go_at_call 124; (with_reducible refine (far_any v m (mxI v m) _ h0 (by omega) (by omega) h3 (by omega) (by omega)).mono ?_); rintro e w1 ⟨rfl, rfl⟩))
        go_round
        case rel => exact ⟨k + 1, by omega, by omega, rfl, Or.inr ⟨by omega, rfl⟩⟩
        case measure => simp [intOf]; omega
    · obtain rfl : k = 256 := by omega
      rcases hb with ⟨hb1, rfl⟩ | ⟨hb1, rfl⟩
      · omega
      · go_wp2
        go_ret
        exact ⟨rfl, rfl⟩
end Go.Proofs.Ytlhcjnjajkfahaa

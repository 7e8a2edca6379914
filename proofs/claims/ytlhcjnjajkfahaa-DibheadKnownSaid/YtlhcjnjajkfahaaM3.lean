/- mask.Find whole; the references of layers 8 and 9. -/
import Derived.Test.YtlhcjnjajkfahaaM2
namespace Go.Proofs.Ytlhcjnjajkfahaa
open Go.RowKit
set_option maxHeartbeats 1000000 in
theorem find_range (m width : Int) (w : World) (h1 : width = 16 ∨ width = 32) (h2 : m < 0 ∨ 2 ^ width.toNat - 1 < m) : Calls Try.prog 121 #[.int .i64 m, .int .i64 width] w (FindPost w (0, 0, 2)) := by
  rcases h1 with rfl | rfl
  rw [ones16] at h2
  rotate_left
  rw [ones32] at h2
  all_goals
    rcases h2 with h2 | h2
    all_goals
      go_enter Try.func121, Try.ntmps121
      go_wp2_with (go_at_call 105; (with_reducible refine (ones_any _ _ (by omega) (by omega)).mono ?_); rintro e w1 ⟨rfl, rfl⟩)
      exact bodyPost_ret (v := .tuple #[.agg #[.int .i64 0, .int .i64 0], .int .i64 2]) (by simp [results, Try.results121, go_sem]) rfl (show FindPost _ _ _ _ from ⟨rfl, by go_grown⟩)
set_option maxHeartbeats 1000000 in
theorem find_zero (width : Int) (w : World) (h1 : width = 16 ∨ width = 32) : Calls Try.prog 121 #[.int .i64 0, .int .i64 width] w (FindPost w (0, 0, 0)) := by
  rcases h1 with rfl | rfl
  all_goals
    go_enter Try.func121, Try.ntmps121
    go_wp2_with (go_at_call 105; (with_reducible refine (ones_any _ _ (by omega) (by omega)).mono ?_); rintro e w1 ⟨rfl, rfl⟩)
    exact bodyPost_ret (v := .tuple #[.agg #[.int .i64 0, .int .i64 0], .int .i64 0]) (by simp [results, Try.results121, go_sem]) rfl (show FindPost _ _ _ _ from ⟨rfl, by go_grown⟩)
/-- mask.Find, of all numbers. -/
theorem find_any (m width : Int) (w : World) : Calls Try.prog 121 #[.int .i64 m, .int .i64 width] w (FindPost w (findI m width)) := by
  by_cases h1 : width = 16 ∨ width = 32
  · by_cases h2 : m < 0 ∨ 2 ^ width.toNat - 1 < m
    · have : findI m width = (0, 0, 2) := by unfold findI; rw [if_neg (by omega), if_pos h2]
      rw [this]; exact find_range m width w h1 h2
    · by_cases h3 : m = 0
      · have : findI m width = (0, 0, 0) := by unfold findI; rw [if_neg (by omega), if_neg h2, if_pos h3]
        rw [this, h3]; exact find_zero width w h1
      · exact find_go m width w h1 (by omega) (by omega)
  · have : findI m width = (0, 0, 1) := by unfold findI; rw [if_pos (by omega)]
    rw [this]; exact find_arg m width w (by omega) (by omega)

/-! ### the references -/
theorem rbit_any (v i : Int) (w : World) (h0 : 0 ≤ i) (h1 : i ≤ 62) : Calls Try.prog 123 #[.int .i64 v, .int .i64 i] w fun e w' => e = .returned (.bool (bitB v i.toNat)) ∧ w = w' := by
  have E := Lib.hid (show (bits BinOp.and IntKind.i64 (v / 2 ^ i.toNat) 1 == 1) = bitB v i.toNat by rw [i64_and_one]; unfold bitB; by_cases h : v / 2 ^ i.toNat % 2 = 1 <;> simp [h])
  go_enter Try.func123, Try.ntmps123
  go_wp2
  go_ret
  exact ⟨ret_bool E.out, rfl⟩
theorem power_any (n : Int) (w : World) (h0 : 0 ≤ n) (h1 : n ≤ 62) : Calls Try.prog 13 #[.int .i64 n] w fun e w' => e = .returned (.int .i64 (2 ^ n.toNat)) ∧ w = w' := by
  obtain ⟨n, rfl⟩ := Int.eq_ofNat_of_zero_le h0
  go_enter Try.func13, Try.ntmps13
  go_wp2
  go_loop [3, 4] (fun v i => ∃ k : Nat, k ≤ n ∧ i = .int .i64 k ∧ v = .int .i64 (2 ^ k)) (fun _ i => n - (intOf i).toNat)
  case atStart => exact ⟨0, by omega, rfl, rfl⟩
  case round =>
    obtain ⟨k, hk, rfl, rfl⟩ := hrel
    by_cases hlt : k < n
    · have hb := pow_le' (show k ≤ 61 by omega)
      have hp := pow_pos' k
      go_wp2
      go_round
      case rel => exact ⟨k + 1, by omega, by go_num, by rw [pow_succ']⟩
      case measure => simp [intOf]; omega
    · obtain rfl : k = n := by omega
      go_wp2
      go_ret
      exact ⟨by simp, rfl⟩
theorem far_any (v m x : Int) (w : World) (h0 : 0 ≤ v) (h1 : v ≤ 4294967295) (h2 : 0 ≤ m) (h3 : m ≤ 4294967295) (h4 : 0 ≤ x) (h5 : x ≤ 255) :
    Calls Try.prog 124 #[.int .i64 v, .int .i64 m, .int .i64 x] w fun e w' => e = .returned (.int .i64 ((v * 255 - x * m).natAbs : Int)) ∧ w = w' := by
  have q0 : 0 ≤ x * m := Int.mul_nonneg h4 h2
  have q1 : x * m ≤ 255 * 4294967295 := Int.mul_le_mul h5 h3 h2 (by decide)
  by_cases hneg : v * 255 - x * m < 0
  · have E := Lib.hid (show -(v * 255 - x * m) = ((v * 255 - x * m).natAbs : Int) by omega)
    go_enter Try.func124, Try.ntmps124
    go_wp2
    go_ret
    exact ⟨ret_int E.out, rfl⟩
  · have E := Lib.hid (show v * 255 - x * m = ((v * 255 - x * m).natAbs : Int) by omega)
    go_enter Try.func124, Try.ntmps124
    go_wp2
    go_ret
    exact ⟨ret_int E.out, rfl⟩
end Go.Proofs.Ytlhcjnjajkfahaa

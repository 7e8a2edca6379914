/- The references of layer 9: Find and Four. -/
import Derived.Test.YtlhcjnjajkfahaaM5
namespace Go.Proofs.Ytlhcjnjajkfahaa
open Go.RowKit
/-- From, how many, how many runs, of the first k bits. -/
def rfAcc (v : Int) : Nat → Int × Int × Int
  | 0 => (0, 0, 0)
  | k + 1 => if bitB v k = true then (if k = 0 ∨ bitB v (k - 1) = false then (k, (rfAcc v k).2.1 + 1, (rfAcc v k).2.2 + 1) else ((rfAcc v k).1, (rfAcc v k).2.1 + 1, (rfAcc v k).2.2)) else rfAcc v k
theorem rfAcc_succ (v : Int) (k : Nat) : rfAcc v (k + 1) = if bitB v k = true then (if k = 0 ∨ bitB v (k - 1) = false then ((k : Int), (rfAcc v k).2.1 + 1, (rfAcc v k).2.2 + 1) else ((rfAcc v k).1, (rfAcc v k).2.1 + 1, (rfAcc v k).2.2)) else rfAcc v k := rfl
theorem rfAcc_bd (v : Int) (k : Nat) : 0 ≤ (rfAcc v k).2.1 ∧ (rfAcc v k).2.1 ≤ k ∧ 0 ≤ (rfAcc v k).2.2 ∧ (rfAcc v k).2.2 ≤ k := by
  induction k with
  | zero => simp [rfAcc]
  | succ k ih => rw [rfAcc_succ]; split <;> (try split) <;> (try simp only []) <;> omega
def rfindI (v width : Int) : Int × Int × Int :=
  if ¬ width = 16 ∧ ¬ width = 32 then (0, 0, 1)
  else if v < 0 ∨ 2 ^ width.toNat ≤ v then (0, 0, 2)
  else if 1 < (rfAcc v width.toNat).2.2 then (0, 0, 6) else ((rfAcc v width.toNat).1, (rfAcc v width.toNat).2.1, 0)
theorem p16 : (2 : Int) ^ (16 : Int).toNat = 65536 := by decide
theorem p32 : (2 : Int) ^ (32 : Int).toNat = 4294967296 := by decide
theorem t16 : (16 : Int).toNat = 16 := rfl
theorem t32 : (32 : Int).toNat = 32 := rfl
def RFPost (w : World) (r : Int × Int × Int) (e : Ending) (w' : World) : Prop := e = .returned (.tuple #[.int .i64 r.1, .int .i64 r.2.1, .int .i64 r.2.2]) ∧ w = w'
theorem rfind_arg (v width : Int) (w : World) (h1 : ¬ width = 16) (h2 : ¬ width = 32) : Calls Try.prog 109 #[.int .i64 v, .int .i64 width] w (RFPost w (0, 0, 1)) := by
  have g1 : (width != 16) = true := by simpa using h1
  have g2 : (width != 32) = true := by simpa using h2
  clear h1 h2
  go_enter Try.func109, Try.ntmps109
  go_wp2
  go_ret3
  exact ⟨rfl, rfl⟩
theorem rfind_range (v width : Int) (w : World) (h1 : width = 16 ∨ width = 32) (h2 : v < 0 ∨ 2 ^ width.toNat ≤ v) : Calls Try.prog 109 #[.int .i64 v, .int .i64 width] w (RFPost w (0, 0, 2)) := by
  rcases h1 with rfl | rfl
  rw [p16] at h2
  rotate_left
  rw [p32] at h2
  all_goals
    rcases h2 with h2 | h2
    all_goals
      go_enter Try.func109, Try.ntmps109
      go_wp2_with (go_at_call 13; (with_reducible refine (power_any _ _ (by omega) (by omega)).mono ?_); rintro e w1 ⟨rfl, rfl⟩)
      go_ret3
      exact ⟨rfl, rfl⟩
set_option maxHeartbeats 1000000 in
theorem rfind_go (v width : Int) (w : World) (h1 : width = 16 ∨ width = 32) (h2 : 0 ≤ v) (h3 : v < 2 ^ width.toNat) : Calls Try.prog 109 #[.int .i64 v, .int .i64 width] w (RFPost w (rfindI v width)) := by
  have T0 := Lib.hid (show rfindI v width = if 1 < (rfAcc v width.toNat).2.2 then (0, 0, 6) else ((rfAcc v width.toNat).1, (rfAcc v width.toNat).2.1, 0) by unfold rfindI; rw [if_neg (by omega), if_neg (by omega)])
  rcases h1 with rfl | rfl
  rw [p16] at h3
  obtain ⟨N, n1, n2⟩ : ∃ N : Nat, N ≤ 16 ∧ 16 ≤ N := ⟨16, by omega, by omega⟩
  rotate_left
  rw [p32] at h3
  obtain ⟨N, n1, n2⟩ : ∃ N : Nat, N ≤ 32 ∧ 32 ≤ N := ⟨32, by omega, by omega⟩
  all_goals
    go_enter Try.func109, Try.ntmps109
    go_wp2_with (go_at_call 13; (with_reducible refine (power_any _ _ (by omega) (by omega)).mono ?_); rintro e w1 ⟨rfl, rfl⟩)
    go_loop [7, 8, 9, 10] (fun a b c i => ∃ k : Nat, k ≤ N ∧ i = .int .i64 k ∧ a = .int .i64 (rfAcc v k).1 ∧ c = .int .i64 (rfAcc v k).2.2 ∧ b = .int .i64 (rfAcc v k).2.1) (fun _ _ _ i => N - (intOf i).toNat)
    case atStart => exact ⟨0, by omega, rfl, rfl, rfl, rfl⟩
    case round =>
      obtain ⟨k, hk, rfl, rfl, rfl, rfl⟩ := hrel
      obtain ⟨b0, b1, b2, b3⟩ := rfAcc_bd v k
      by_cases hlt : k < N
      · have E := Lib.hid (rfAcc_succ v k)
        cases g1 : bitB v k
        · go_wp2_with (go_at_call 123; (with_reducible refine (rbit_any v k _ (by omega) (by omega)).mono ?_); rintro e w1 ⟨rfl, rfl⟩)
          go_round
          case rel => exact ⟨k + 1, by omega, by go_num, by rw [E.out, g1]; simp, by rw [E.out, g1]; simp, by rw [E.out, g1]; simp⟩
          case measure => simp [intOf]; omega
        · by_cases hk0 : k = 0
          · subst hk0
            go_wp2_with (go_at_call 123; (with_reducible refine (rbit_any v 0 _ (by omega) (by omega)).mono ?_); rintro e w1 ⟨rfl, rfl⟩)
            go_round
            case rel => exact ⟨0 + 1, by omega, by go_num, by rw [E.out, g1]; simp, by rw [E.out, g1]; simp, by rw [E.out, g1]; simp⟩
            case measure => simp [intOf]; omega
          · have hd : ((k : Int) == 0) = false := by simp; omega
            have hk1 : ((k : Int) - 1).toNat = k - 1 := by omega
            cases g2 : bitB v (k - 1)
            all_goals
              go_wp2_with (first | (go_at_call 123; (with_reducible refine (rbit_any v k _ (by omega) (by omega)).mono ?_); rintro e w1 ⟨rfl, rfl⟩) | (go_at_call 123; (with_reducible refine (rbit_any v (↑k - 1) _ (by omega) (by omega)).mono ?_); rintro e w1 ⟨rfl, rfl⟩))
              go_round
              case rel => exact ⟨k + 1, by omega, by go_num, by rw [E.out, g1]; simp [g2, hk0], by rw [E.out, g1]; simp [g2, hk0], by rw [E.out, g1]; simp [g2, hk0]⟩
              case measure => simp [intOf]; omega
      · have hge : N ≤ k := by omega
        by_cases hr : 1 < (rfAcc v k).2.2
        all_goals
          have E := Lib.hid (T0.out)
          go_wp2
          go_ret3
          have ek : k = 16 ∨ k = 32 := by omega
          refine ⟨?_, rfl⟩
          rw [E.out]
          first | (rw [t16, ← show k = 16 by omega]) | (rw [t32, ← show k = 32 by omega])
          first | rw [if_pos (by omega)] | rw [if_neg (by omega)]
          rfl
theorem rfind_any (v width : Int) (w : World) : Calls Try.prog 109 #[.int .i64 v, .int .i64 width] w (RFPost w (rfindI v width)) := by
  by_cases h1 : width = 16 ∨ width = 32
  · by_cases h2 : v < 0 ∨ 2 ^ width.toNat ≤ v
    · have : rfindI v width = (0, 0, 2) := by unfold rfindI; rw [if_neg (by omega), if_pos h2]
      rw [this]; exact rfind_range v width w h1 h2
    · exact rfind_go v width w h1 (by omega) (by omega)
  · have : rfindI v width = (0, 0, 1) := by unfold rfindI; rw [if_pos (by omega)]
    rw [this]; exact rfind_arg v width w (by omega) (by omega)
end Go.Proofs.Ytlhcjnjajkfahaa

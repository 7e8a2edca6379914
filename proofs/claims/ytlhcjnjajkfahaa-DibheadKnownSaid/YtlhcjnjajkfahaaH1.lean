/- dibhead: numbers of bytes. -/
import Derived.Test.YtlhcjnjajkfahaaH0
namespace Go.Proofs.Ytlhcjnjajkfahaa
open Go.RowKit
set_option linter.unusedVariables false
set_option linter.unusedSimpArgs false
theorem u32_wraps (n : Int) (h₀ : 0 ≤ n) (h₁ : n < 2 ^ 32) : IntKind.u32.wrap n = n := by
  have : IntKind.u32.wrap n = n % 4294967296 := rfl
  rw [this]; omega
theorem or_low32 (i : Nat) (v y : Int) (h0 : 0 ≤ v) (h1 : v < 2 ^ i) (hy : 0 ≤ y) (h2 : v + y * 2 ^ i < 2 ^ 32) : bits .or .u32 v (y * 2 ^ i) = v + y * 2 ^ i := by
  have hp := pow_pos' i
  have hm := Int.mul_nonneg hy (Int.le_of_lt hp)
  exact bits_join_low .u32 32 (by decide) u32_wraps i v _ h0 h1 (by omega) hm (Int.mul_emod_left _ _) (by omega)
theorem lowK_round32 (s : ByteArray) (a k : Nat) (h : k ≤ 3) : bits .or .u32 (lowK s a k) (byN s (a + k) % 4294967296 * 2 ^ (8 * k) % 4294967296) = lowK s a (k + 1) := by
  have hb := byN_bd s (a + k)
  have hl := lowK_bd s a k
  have hl1 := lowK_bd s a (k + 1)
  have hp := pow32 k h
  have h0 : 0 ≤ byN s (a + k) * 2 ^ (8 * k) := Int.mul_nonneg hb.1 (by omega)
  have h1 : byN s (a + k) * 2 ^ (8 * k) ≤ 255 * 2 ^ (8 * k) := Int.mul_le_mul_of_nonneg_right (by omega) (by omega)
  have h32 : (2 : Int) ^ 32 = 4294967296 := by decide
  have h3 := pow_le' (show 8 * (k + 1) ≤ 32 by omega)
  have e : lowK s a (k + 1) = lowK s a k + byN s (a + k) * 2 ^ (8 * k) := rfl
  rw [Int.emod_eq_of_lt hb.1 (by omega), Int.emod_eq_of_lt h0 (by omega), or_low32 (8 * k) _ _ hl.1 hl.2 hb.1 (by omega)]
  rfl
set_option maxRecDepth 100000 in
theorem hlow_any (s : ByteArray) (a n : Nat) (w : World) (hn : n ≤ 4) (h : a + n ≤ s.size) (hs : s.size ≤ 9223372036854775807) : Calls Try.prog 96 #[.string s, .int .i64 a, .int .i64 n] w fun e w' => e = .returned (.int .i64 (lowK s a n)) ∧ w' = w := by
  go_enter Try.func96, Try.ntmps96
  go_wp2
  go_loop [7, 8, 10] (fun v j i => ∃ k : Nat, k ≤ n ∧ i = .int .i64 k ∧ v = .int .u32 (lowK s a k)) (fun _ _ i => n - (intOf i).toNat)
  case atStart => exact ⟨0, by omega, rfl, rfl⟩
  case round =>
    obtain ⟨k, hk, rfl, rfl⟩ := hrel
    by_cases hlt : k < n
    · have i3 : ((a : Int) + k).toNat = a + k := by omega
      have i4 : (0 : Int) ≤ (a : Int) + k := by omega
      have i5 : (a : Int) + k < s.size := by omega
      have i6 : a + k < s.size := by omega
      go_wp2
      go_round
      case rel => exact ⟨k + 1, by omega, by go_num, by rw [byN_get s (a + k) i6, lowK_round32 s a k (by omega)]⟩
      case measure => simp [intOf]; omega
    · have E := Lib.hid (show lowK s a k = lowK s a n by rw [show k = n by omega])
      have hge : n ≤ k := by omega
      have hl := lowK_bd s a k
      have hp := pow_le' (show 8 * k ≤ 32 by omega)
      have h32 : (2 : Int) ^ 32 = 4294967296 := by decide
      have hb : lowK s a k < 4294967296 := by omega
      have hb0 := hl.1
      clear hl hp h32
      go_wp2
      go_ret
      exact ⟨ret_i E.out, rfl⟩
theorem signed_wrap32 (v : Int) (h0 : 0 ≤ v) (h1 : v < 4294967296) : wrap32 v = signed v := by
  unfold wrap32 signed; split <;> omega
set_option maxRecDepth 100000 in
theorem hlow32_any (s : ByteArray) (a n : Nat) (w : World) (hn : n = 4) (h : a + n ≤ s.size) (hs : s.size ≤ 9223372036854775807) : Calls Try.prog 97 #[.string s, .int .i64 a, .int .i64 n] w fun e w' => e = .returned (.int .i32 (signed (lowK s a 4))) ∧ w' = w := by
  have hn4 : n ≤ 4 := by omega
  subst hn
  go_enter Try.func97, Try.ntmps97
  go_wp2
  go_loop [7, 8, 10] (fun v j i => ∃ k : Nat, k ≤ 4 ∧ i = .int .i64 k ∧ v = .int .u32 (lowK s a k)) (fun _ _ i => 4 - (intOf i).toNat)
  case atStart => exact ⟨0, by omega, rfl, rfl⟩
  case round =>
    obtain ⟨k, hk, rfl, rfl⟩ := hrel
    by_cases hlt : k < 4
    · have i3 : ((a : Int) + k).toNat = a + k := by omega
      have i4 : (0 : Int) ≤ (a : Int) + k := by omega
      have i5 : (a : Int) + k < s.size := by omega
      have i6 : a + k < s.size := by omega
      go_wp2
      go_round
      case rel => exact ⟨k + 1, by omega, by go_num, by rw [byN_get s (a + k) i6, lowK_round32 s a k (by omega)]⟩
      case measure => simp [intOf]; omega
    · have E := Lib.hid (show wrap32 (lowK s a k) = signed (lowK s a 4) by rw [show k = 4 by omega]; exact signed_wrap32 _ (by have := lowK_bd s a 4; omega) (by have := lowK_bd s a 4; omega))
      have hge : 4 ≤ k := by omega
      have hl := lowK_bd s a k
      have hp := pow_le' (show 8 * k ≤ 32 by omega)
      have h32 : (2 : Int) ^ 32 = 4294967296 := by decide
      have hb : lowK s a k < 4294967296 := by omega
      have hb0 := hl.1
      clear hl hp h32
      go_wp2
      go_ret
      trace_state
      exact ⟨by rw [E.out]; rfl, rfl⟩
end Go.Proofs.Ytlhcjnjajkfahaa

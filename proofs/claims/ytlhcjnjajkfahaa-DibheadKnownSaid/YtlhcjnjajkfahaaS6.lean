/- Numbers of bytes: the source's readers, and the document's numbers. -/
import Derived.Test.YtlhcjnjajkfahaaS5
import Derived.Lib.EndianBits
namespace Go.Proofs.Ytlhcjnjajkfahaa
open Go.RowKit
set_option linter.unusedVariables false
/-- The byte at a place. -/
def byN (s : ByteArray) (i : Nat) : Int := (s.data.toList.getD i 0).toNat
theorem byN_bd (s : ByteArray) (i : Nat) : 0 ≤ byN s i ∧ byN s i < 256 := by
  unfold byN; have := (s.data.toList.getD i 0).toNat_lt; omega
theorem byN_get (s : ByteArray) (i : Nat) (h : i < s.size) : ((s[i]).toNat : Int) = byN s i := by
  unfold byN
  rw [List.getD_eq_getElem?_getD, List.getElem?_eq_getElem (by simpa using h)]
  rfl
/-- The number of the first k bytes, the lowest first; the highest first. -/
def loK (s : ByteArray) : Nat → Int
  | 0 => 0
  | k + 1 => loK s k + byN s k * 2 ^ (8 * k)
def hiK (s : ByteArray) : Nat → Int
  | 0 => 0
  | k + 1 => hiK s k * 256 + byN s k
theorem pow8 (k : Nat) : (2 : Int) ^ (8 * (k + 1)) = 256 * 2 ^ (8 * k) := by
  rw [show 8 * (k + 1) = 8 * k + 8 by omega, Int.pow_add]; have : (2 : Int) ^ 8 = 256 := by decide
  rw [this, Int.mul_comm]
theorem loK_bd (s : ByteArray) (k : Nat) : 0 ≤ loK s k ∧ loK s k < 2 ^ (8 * k) := by
  induction k with
  | zero => simp [loK]
  | succ k ih =>
    have hb := byN_bd s k
    have hp := pow_pos' (8 * k)
    have h0 : 0 ≤ byN s k * 2 ^ (8 * k) := Int.mul_nonneg hb.1 (by omega)
    have h1 : byN s k * 2 ^ (8 * k) ≤ 255 * 2 ^ (8 * k) := Int.mul_le_mul_of_nonneg_right (by omega) (by omega)
    rw [pow8, loK]; omega
theorem hiK_bd (s : ByteArray) (k : Nat) : 0 ≤ hiK s k ∧ hiK s k < 2 ^ (8 * k) := by
  induction k with
  | zero => simp [hiK]
  | succ k ih =>
    have hb := byN_bd s k
    rw [pow8, hiK]; omega
theorem i64_wraps (n : Int) (h₀ : 0 ≤ n) (h₁ : n < 2 ^ 63) : IntKind.i64.wrap n = n := i64_wrap_id n h₀ h₁
theorem or_low (i : Nat) (v y : Int) (h0 : 0 ≤ v) (h1 : v < 2 ^ i) (hy : 0 ≤ y) (h2 : v + y * 2 ^ i < 2 ^ 62) : bits .or .i64 v (y * 2 ^ i) = v + y * 2 ^ i := by
  have hp := pow_pos' i
  have hm := Int.mul_nonneg hy (Int.le_of_lt hp)
  have h63 : (2 : Int) ^ 63 = 9223372036854775808 := by decide
  have h62 : (2 : Int) ^ 62 = 4611686018427387904 := by decide
  exact bits_join_low .i64 63 (by decide) i64_wraps i v _ h0 h1 (by omega) hm (Int.mul_emod_left _ _) (by omega)
theorem or_high (i : Nat) (v y : Int) (h0 : 0 ≤ v) (h1 : v < 2 ^ i) (hy : 0 ≤ y) (h2 : v + y * 2 ^ i < 2 ^ 62) : bits .or .i64 (y * 2 ^ i) v = y * 2 ^ i + v := by
  have hp := pow_pos' i
  have hm := Int.mul_nonneg hy (Int.le_of_lt hp)
  have h63 : (2 : Int) ^ 63 = 9223372036854775808 := by decide
  have h62 : (2 : Int) ^ 62 = 4611686018427387904 := by decide
  exact bits_join .i64 63 (by decide) i64_wraps i _ v hm (Int.mul_emod_left _ _) (by omega) h0 h1 (by omega)
theorem pow32 (k : Nat) (h : k ≤ 3) : (1 : Int) ≤ 2 ^ (8 * k) ∧ (2 : Int) ^ (8 * k) ≤ 16777216 := by
  have h1 := pow_pos' (8 * k)
  have h2 := pow_le' (show 8 * k ≤ 24 by omega)
  have h3 : (2 : Int) ^ 24 = 16777216 := by decide
  omega
theorem lo_round (s : ByteArray) (k : Nat) (h : k ≤ 3) : bits .or .i64 (loK s k) (wrap64 (wrap64 (byN s k) * 2 ^ (8 * k))) = loK s (k + 1) := by
  have hb := byN_bd s k
  have hl := loK_bd s k
  have hp := pow32 k h
  have h0 : 0 ≤ byN s k * 2 ^ (8 * k) := Int.mul_nonneg hb.1 (by omega)
  have h1 : byN s k * 2 ^ (8 * k) ≤ 255 * 2 ^ (8 * k) := Int.mul_le_mul_of_nonneg_right (by omega) (by omega)
  have h62 : (2 : Int) ^ 62 = 4611686018427387904 := by decide
  rw [IntWalk.wrap64_in (byN s k) (by omega), IntWalk.wrap64_in _ (by omega), or_low (8 * k) _ _ hl.1 hl.2 hb.1 (by omega)]
  rfl
theorem hi_round (s : ByteArray) (k : Nat) (h : k ≤ 3) : bits .or .i64 (hiK s k * 256) (wrap64 (byN s k)) = hiK s (k + 1) := by
  have hb := byN_bd s k
  have hl := hiK_bd s k
  have hp := pow32 k h
  have h62 : (2 : Int) ^ 62 = 4611686018427387904 := by decide
  have h8 : (2 : Int) ^ 8 = 256 := by decide
  have := or_high 8 (byN s k) (hiK s k) hb.1 (by omega) hl.1 (by omega)
  rw [h8] at this
  rw [IntWalk.wrap64_in (byN s k) (by omega), this]; rfl
/-! ### the document's numbers -/
theorem rle_any (s : ByteArray) (w : World) (hs : s.size ≤ 4) : Calls Try.prog 41 #[.string s] w fun e w' => e = .returned (.int .i64 (loK s s.size)) ∧ w = w' := by
  go_enter Try.func41, Try.ntmps41
  go_wp2
  go_loop [3, 4] (fun v i => ∃ k : Nat, ∃ V : Int, k ≤ s.size ∧ i = .int .i64 ((k : Int) - 1) ∧ v = .int .i64 V ∧ 0 ≤ V ∧ V < 2 ^ (8 * (s.size - k)) ∧ loK s s.size = loK s k + V * 2 ^ (8 * k)) (fun _ i => (intOf i + 1).toNat)
  case atStart => exact ⟨s.size, 0, by omega, rfl, rfl, by omega, by rw [Nat.sub_self]; decide, by omega⟩
  case round =>
    obtain ⟨k, V, hk, rfl, rfl, h0, h1, h2⟩ := hrel
    have H2 := Lib.hid h2
    have H1 := Lib.hid h1
    clear h2
    by_cases hlt : 1 ≤ k
    · obtain ⟨k, rfl⟩ : ∃ m, k = m + 1 := ⟨k - 1, by omega⟩
      have hb := byN_bd s k
      have hkl : k < s.size := by omega
      have hV : V ≤ 16777216 := by have := pow32 (s.size - (k + 1)) (by omega); omega
      have e1 : (((k + 1 : Nat) : Int) - 1) = (k : Int) := by omega
      rw [e1]
      clear h1 e1
      go_wp2
      go_round
      case rel =>
        refine ⟨k, V * 256 + byN s k, by omega, by go_num, ?_, by omega, ?_, ?_⟩
        · rw [byN_get s k hkl, IntWalk.wrap64_in (byN s k) (by omega), IntWalk.wrap64_in _ (by omega), Int.mul_comm]
        · rw [show s.size - k = (s.size - (k + 1)) + 1 by omega, pow8]; have := H1.out; omega
        · rw [H2.out, pow8, loK, Int.add_mul, Int.mul_assoc, Int.add_assoc, Int.add_comm (V * _)]
      case measure => simp [intOf]
    · obtain rfl : k = 0 := by omega
      have E := Lib.hid (show V = loK s s.size by rw [H2.out, loK]; simp)
      clear h1
      go_wp2
      go_ret
      exact ⟨ret_int E.out, rfl⟩
end Go.Proofs.Ytlhcjnjajkfahaa

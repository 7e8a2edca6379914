/- icodir: the small functions. -/
import Derived.Test.YtlhcjnjajkfahaaT2
namespace Go.Proofs.Ytlhcjnjajkfahaa
open Go.RowKit
set_option linter.unusedVariables false
set_option linter.unusedSimpArgs false
/-- k bytes from a place on, the lowest first. -/
def lowK (s : ByteArray) (a : Nat) : Nat → Int
  | 0 => 0
  | k + 1 => lowK s a k + byN s (a + k) * 2 ^ (8 * k)
theorem lowK_bd (s : ByteArray) (a k : Nat) : 0 ≤ lowK s a k ∧ lowK s a k < 2 ^ (8 * k) := by
  induction k with
  | zero => simp [lowK]
  | succ k ih =>
    have hb := byN_bd s (a + k)
    have hp := pow_pos' (8 * k)
    have h0 : 0 ≤ byN s (a + k) * 2 ^ (8 * k) := Int.mul_nonneg hb.1 (by omega)
    have h1 : byN s (a + k) * 2 ^ (8 * k) ≤ 255 * 2 ^ (8 * k) := Int.mul_le_mul_of_nonneg_right (by omega) (by omega)
    rw [pow8, lowK]; omega
theorem lowK_round (s : ByteArray) (a k : Nat) (h : k ≤ 3) : bits .or .i64 (lowK s a k) (wrap64 (wrap64 (byN s (a + k)) * 2 ^ (8 * k))) = lowK s a (k + 1) := by
  have hb := byN_bd s (a + k)
  have hl := lowK_bd s a k
  have hp := pow32 k h
  have h0 : 0 ≤ byN s (a + k) * 2 ^ (8 * k) := Int.mul_nonneg hb.1 (by omega)
  have h1 : byN s (a + k) * 2 ^ (8 * k) ≤ 255 * 2 ^ (8 * k) := Int.mul_le_mul_of_nonneg_right (by omega) (by omega)
  have h62 : (2 : Int) ^ 62 = 4611686018427387904 := by decide
  rw [IntWalk.wrap64_in (byN s (a + k)) (by omega), IntWalk.wrap64_in _ (by omega), or_low (8 * k) _ _ hl.1 hl.2 hb.1 (by omega)]
  rfl
/-- .. are those of a part of the text. -/
theorem lowK_lo (s : ByteArray) (a b k : Nat) (h : a + k ≤ b) (hb : b ≤ s.size) : loK (s.extract a b) k = lowK s a k := by
  induction k with
  | zero => rfl
  | succ k ih => rw [loK, lowK, ih (by omega), byN_ext s a b k (by omega) hb]
set_option maxRecDepth 100000 in
theorem low_any (s : ByteArray) (a n : Nat) (w : World) (hn : n ≤ 4) (h : a + n ≤ s.size) (hs : s.size ≤ 9223372036854775807) : Calls Try.prog 92 #[.string s, .int .i64 a, .int .i64 n] w fun e w' => e = .returned (.int .i64 (lowK s a n)) ∧ w' = w := by
  go_enter Try.func92, Try.ntmps92
  go_wp2
  go_loop [7, 8, 10] (fun v j i => ∃ k : Nat, k ≤ n ∧ i = .int .i64 k ∧ v = .int .i64 (lowK s a k)) (fun _ _ i => n - (intOf i).toNat)
  case atStart => exact ⟨0, by omega, rfl, rfl⟩
  case round =>
    obtain ⟨k, hk, rfl, rfl⟩ := hrel
    by_cases hlt : k < n
    · have i3 : ((a : Int) + k).toNat = a + k := by omega
      have i4 : (0 : Int) ≤ (a : Int) + k := by omega
      have i5 : (a : Int) + k < s.size := by omega
      have i6 : a + k < s.size := by omega
      go_wp2
      go_round
      case rel => exact ⟨k + 1, by omega, by go_num, by rw [byN_get s (a + k) i6, lowK_round s a k (by omega)]⟩
      case measure => simp [intOf]; omega
    · have E := Lib.hid (show lowK s a k = lowK s a n by rw [show k = n by omega])
      have hge : n ≤ k := by omega
      go_wp2
      go_ret
      exact ⟨ret_i E.out, rfl⟩
def sideI (b : Int) : Int := if b = 0 then 256 else b
theorem low_at (s : ByteArray) (a n : Nat) (i k V : Int) (w : World) (hi : i = a) (hk : k = n) (hV : lowK s a n = V) (hn : n ≤ 4) (h : a + n ≤ s.size) (hs : s.size ≤ 9223372036854775807) : Calls Try.prog 92 #[.string s, .int .i64 i, .int .i64 k] w fun e w' => e = .returned (.int .i64 V) ∧ w' = w := by
  subst hi hk hV; exact low_any s a n w hn h hs
def isIco (s : ByteArray) : Bool := decide (10 ≤ s.size) && (lowK s 0 2 == 0 && (byN s 9 == 0 && ((lowK s 2 2 == 1 || lowK s 2 2 == 2) && decide (lowK s 4 2 > 0))))
set_option maxRecDepth 100000 in
theorem iis_any (s : ByteArray) (w : World) (hs : s.size ≤ 9223372036854775807) : Calls Try.prog 59 #[.string s] w fun e w' => e = .returned (.bool (isIco s)) ∧ w' = w := by
  by_cases h : s.size < 10
  · have D0 : decide ((s.size : Int) < 10) = true := by rw [decide_eq_true_iff]; omega
    have E := Lib.hid (show isIco s = false by unfold isIco; rw [decide_eq_false (by omega)]; rfl)
    go_enter Try.func59, Try.ntmps59
    go_wp2
    go_ret
    exact ⟨ret_b E.out.symm, rfl⟩
  have D0 : decide ((s.size : Int) < 10) = false := by rw [decide_eq_false_iff_not]; omega
  obtain ⟨x0, hx0⟩ : ∃ x, lowK s 0 2 = x := ⟨_, rfl⟩
  obtain ⟨x2, hx2⟩ : ∃ x, lowK s 2 2 = x := ⟨_, rfl⟩
  obtain ⟨x4, hx4⟩ : ∃ x, lowK s 4 2 = x := ⟨_, rfl⟩
  obtain ⟨x9, hx9⟩ : ∃ x, byN s 9 = x := ⟨_, rfl⟩
  have HL0 := Lib.hid (fun w0 => low_at s 0 2 0 2 x0 w0 rfl rfl hx0 (by omega) (by omega) hs)
  have HL2 := Lib.hid (fun w0 => low_at s 2 2 2 2 x2 w0 rfl rfl hx2 (by omega) (by omega) hs)
  have HL4 := Lib.hid (fun w0 => low_at s 4 2 4 2 x4 w0 rfl rfl hx4 (by omega) (by omega) hs)
  have i9 : 9 < s.size := by omega
  have g9 : ((s[9]).toNat : Int) = x9 := by rw [← hx9]; exact byN_get s 9 i9
  have E : isIco s = (x0 == 0 && (x9 == 0 && ((x2 == 1 || x2 == 2) && decide (x4 > 0)))) := by unfold isIco; rw [decide_eq_true (by omega : 10 ≤ s.size), hx0, hx2, hx4, hx9]; rfl
  obtain ⟨z0, e0⟩ : ∃ b, (x0 == 0) = b := ⟨_, rfl⟩
  obtain ⟨z9, e9⟩ : ∃ b, (x9 == 0) = b := ⟨_, rfl⟩
  obtain ⟨k1, e1⟩ : ∃ b, (x2 == 1) = b := ⟨_, rfl⟩
  obtain ⟨k2, e2⟩ : ∃ b, (x2 == 2) = b := ⟨_, rfl⟩
  have n0 : (x0 != 0) = !z0 := by rw [← e0]; rfl
  have n9 : (x9 != 0) = !z9 := by rw [← e9]; rfl
  rw [e0, e9, e1, e2] at E
  have E := Lib.hid E
  clear hx0 hx2 hx4 hx9 h
  go_enter Try.func59, Try.ntmps59
  cases z0
  · go_wp2_with ((go_at_call 92; (with_reducible refine (HL0.out _).mono ?_); rintro e w1 ⟨rfl, rfl⟩))
    go_ret
    exact ⟨ret_b E.out.symm, rfl⟩
  cases z9
  · go_wp2_with ((go_at_call 92; (with_reducible refine (HL0.out _).mono ?_); rintro e w1 ⟨rfl, rfl⟩))
    go_ret
    exact ⟨ret_b E.out.symm, rfl⟩
  cases k1 <;> cases k2
  all_goals go_wp2_with (first | (go_at_call 92; (with_reducible refine (HL0.out _).mono ?_); rintro e w1 ⟨rfl, rfl⟩) | (go_at_call 92; (with_reducible refine (HL2.out _).mono ?_); rintro e w1 ⟨rfl, rfl⟩) | (go_at_call 92; (with_reducible refine (HL4.out _).mono ?_); rintro e w1 ⟨rfl, rfl⟩))
  all_goals go_ret
  all_goals exact ⟨ret_b E.out.symm, rfl⟩
end Go.Proofs.Ytlhcjnjajkfahaa

/- dibhead: the small functions. -/
import Derived.Test.YtlhcjnjajkfahaaK7
import Derived.Test.YtlhcjnjajkfahaaK9
namespace Go.Proofs.Ytlhcjnjajkfahaa
open Go.RowKit
set_option linter.unusedVariables false
set_option linter.unusedSimpArgs false
def headsB (n : Int) : Bool := n == 12 || (n == 40 || (n == 52 || (n == 56 || (n == 108 || n == 124))))
def knownH (n : Int) : Bool := headsB n || (n == 16 || n == 64)
def dpB (n : Int) (more : Bool) : Bool := (n == 1 || (n == 4 || (n == 8 || n == 24))) || ((n == 16 || n == 32) && more)
def fitsB (m n : Int) : Bool := if m = 1 then n == 8 else if m = 2 then n == 4 else if m = 3 then n == 16 || n == 32 else true
def mostI (n : Int) : Int := if n ≤ 8 then 2 ^ n.toNat else 256
theorem eqf {a b : Int} (h : ¬ a = b) : (a == b) = false := by simpa using h
theorem heads_any (n : Int) (w : World) : Calls Try.prog 67 #[.int .i64 n] w fun e w' => e = .returned (.bool (headsB n)) ∧ w' = w := by
  by_cases h1 : n = 12
  · subst h1
    go_enter Try.func67, Try.ntmps67
    go_wp2; go_ret; exact ⟨rfl, rfl⟩
  by_cases h2 : n = 40
  · subst h2
    go_enter Try.func67, Try.ntmps67
    go_wp2; go_ret; exact ⟨rfl, rfl⟩
  by_cases h3 : n = 52
  · subst h3
    go_enter Try.func67, Try.ntmps67
    go_wp2; go_ret; exact ⟨rfl, rfl⟩
  by_cases h4 : n = 56
  · subst h4
    go_enter Try.func67, Try.ntmps67
    go_wp2; go_ret; exact ⟨rfl, rfl⟩
  by_cases h5 : n = 108
  · subst h5
    go_enter Try.func67, Try.ntmps67
    go_wp2; go_ret; exact ⟨rfl, rfl⟩
  by_cases h6 : n = 124
  · subst h6
    go_enter Try.func67, Try.ntmps67
    go_wp2; go_ret; exact ⟨rfl, rfl⟩
  have e1 := eqf h1
  have e2 := eqf h2
  have e3 := eqf h3
  have e4 := eqf h4
  have e5 := eqf h5
  have e6 := eqf h6
  have E := Lib.hid (show headsB n = false by unfold headsB; rw [e1, e2, e3, e4, e5, e6]; rfl)
  clear h1 h2 h3 h4 h5 h6
  go_enter Try.func67, Try.ntmps67
  go_wp2
  go_ret
  exact ⟨ret_b E.out.symm, rfl⟩
theorem known_any (n : Int) (w : World) : Calls Try.prog 29 #[.int .i64 n] w fun e w' => e = .returned (.bool (knownH n)) ∧ w' = w := by
  have HH := Lib.hid (fun w0 => heads_any n w0)
  obtain ⟨b, hb⟩ : ∃ b, headsB n = b := ⟨_, rfl⟩
  obtain ⟨b1, hb1⟩ : ∃ b, (n == 16) = b := ⟨_, rfl⟩
  obtain ⟨b2, hb2⟩ : ∃ b, (n == 64) = b := ⟨_, rfl⟩
  have E := Lib.hid (show knownH n = (b || (b1 || b2)) by unfold knownH; rw [hb, hb1, hb2])
  rw [hb] at HH
  clear hb
  go_enter Try.func29, Try.ntmps29
  cases b <;> cases b1
  all_goals go_wp2_with (first | ((with_reducible refine skip_g rfl ?_ ?_); rfl; intro _) | (go_at_call 67; (with_reducible refine (HH.out _).mono ?_); rintro e w1 ⟨rfl, rfl⟩))
  all_goals (go_ret; exact ⟨ret_b (by rw [E.out]; simp), rfl⟩)
theorem hdepth_any (n : Int) (more : Bool) (w : World) : Calls Try.prog 99 #[.int .i64 n, .bool more] w fun e w' => e = .returned (.bool (dpB n more)) ∧ w' = w := by
  by_cases h1 : n = 1
  · subst h1
    go_enter Try.func99, Try.ntmps99
    go_wp2; go_ret; exact ⟨rfl, rfl⟩
  by_cases h2 : n = 4
  · subst h2
    go_enter Try.func99, Try.ntmps99
    go_wp2; go_ret; exact ⟨rfl, rfl⟩
  by_cases h3 : n = 8
  · subst h3
    go_enter Try.func99, Try.ntmps99
    go_wp2; go_ret; exact ⟨rfl, rfl⟩
  by_cases h4 : n = 24
  · subst h4
    go_enter Try.func99, Try.ntmps99
    go_wp2; go_ret; exact ⟨rfl, rfl⟩
  by_cases h5 : n = 16
  · subst h5
    go_enter Try.func99, Try.ntmps99
    go_wp2; go_ret; exact ⟨by cases more <;> rfl, rfl⟩
  by_cases h6 : n = 32
  · subst h6
    go_enter Try.func99, Try.ntmps99
    go_wp2; go_ret; exact ⟨by cases more <;> rfl, rfl⟩
  have e1 := eqf h1
  have e2 := eqf h2
  have e3 := eqf h3
  have e4 := eqf h4
  have e5 := eqf h5
  have e6 := eqf h6
  have E := Lib.hid (show dpB n more = false by unfold dpB; rw [e1, e2, e3, e4, e5, e6]; rfl)
  clear h1 h2 h3 h4 h5 h6
  go_enter Try.func99, Try.ntmps99
  go_wp2
  go_ret
  exact ⟨ret_b E.out.symm, rfl⟩
theorem rdepth_any (n : Int) (w : World) : Calls Try.prog 45 #[.int .i64 n] w fun e w' => e = .returned (.bool (dpB n true)) ∧ w' = w := by
  by_cases h1 : n = 1
  · subst h1
    go_enter Try.func45, Try.ntmps45
    go_wp2; go_ret; exact ⟨rfl, rfl⟩
  by_cases h2 : n = 4
  · subst h2
    go_enter Try.func45, Try.ntmps45
    go_wp2; go_ret; exact ⟨rfl, rfl⟩
  by_cases h3 : n = 8
  · subst h3
    go_enter Try.func45, Try.ntmps45
    go_wp2; go_ret; exact ⟨rfl, rfl⟩
  by_cases h4 : n = 16
  · subst h4
    go_enter Try.func45, Try.ntmps45
    go_wp2; go_ret; exact ⟨rfl, rfl⟩
  by_cases h5 : n = 24
  · subst h5
    go_enter Try.func45, Try.ntmps45
    go_wp2; go_ret; exact ⟨rfl, rfl⟩
  have e1 := eqf h1
  have e2 := eqf h2
  have e3 := eqf h3
  have e4 := eqf h4
  have e5 := eqf h5
  obtain ⟨b6, e6⟩ : ∃ b, (n == 32) = b := ⟨_, rfl⟩
  have E := Lib.hid (show dpB n true = b6 by unfold dpB; rw [e1, e2, e3, e4, e5, e6]; simp)
  clear h1 h2 h3 h4 h5
  go_enter Try.func45, Try.ntmps45
  go_wp2_with ((with_reducible refine skip_g rfl ?_ ?_); rfl; intro _)
  go_ret
  exact ⟨ret_b E.out.symm, rfl⟩
theorem fits_any (m n : Int) (w : World) : Calls Try.prog 100 #[.int .i64 m, .int .i64 n] w fun e w' => e = .returned (.bool (fitsB m n)) ∧ w' = w := by
  by_cases h1 : m = 1
  · subst h1
    go_enter Try.func100, Try.ntmps100
    go_wp2; go_ret; exact ⟨rfl, rfl⟩
  by_cases h2 : m = 2
  · subst h2
    go_enter Try.func100, Try.ntmps100
    go_wp2; go_ret; exact ⟨rfl, rfl⟩
  by_cases h3 : m = 3
  · subst h3
    obtain ⟨b, hb⟩ : ∃ b, (n == 16) = b := ⟨_, rfl⟩
    have E := Lib.hid (show fitsB 3 n = (b || (n == 32)) by unfold fitsB; rw [if_neg (by decide), if_neg (by decide), if_pos rfl, hb])
    go_enter Try.func100, Try.ntmps100
    cases b
    all_goals go_wp2_with ((with_reducible refine skip_g rfl ?_ ?_); rfl; intro _)
    all_goals (go_ret; exact ⟨ret_b (by rw [E.out]; simp), rfl⟩)
  have e1 := eqf h1
  have e2 := eqf h2
  have e3 := eqf h3
  have E := Lib.hid (show fitsB m n = true by unfold fitsB; rw [if_neg h1, if_neg h2, if_neg h3])
  clear h1 h2 h3
  go_enter Try.func100, Try.ntmps100
  go_wp2
  go_ret
  exact ⟨ret_b E.out.symm, rfl⟩
theorem most_any (n : Int) (w : World) (h0 : 0 ≤ n) : Calls Try.prog 81 #[.int .i64 n] w fun e w' => e = .returned (.int .i64 (mostI n)) ∧ w' = w := by
  by_cases h : n ≤ 8
  · have E := Lib.hid (show mostI n = 2 ^ n.toNat by unfold mostI; rw [if_pos h])
    have hp := pow_pos' n.toNat
    have hl := pow_le' (show n.toNat ≤ 8 by omega)
    have h8 : (2 : Int) ^ 8 = 256 := by decide
    rw [h8] at hl
    clear h8
    go_enter Try.func81, Try.ntmps81
    go_wp2
    go_ret
    exact ⟨ret_i (by rw [E.out]), rfl⟩
  · have E := Lib.hid (show mostI n = 256 by unfold mostI; rw [if_neg h])
    go_enter Try.func81, Try.ntmps81
    go_wp2
    go_ret
    exact ⟨ret_i E.out.symm, rfl⟩
end Go.Proofs.Ytlhcjnjajkfahaa

/- dibhead: numbers of bytes. -/
namespace Go.Proofs.Ytlhcjnjajkfahaa
open Go.RowKit
set_option linter.unusedVariables false
set_option linter.unusedSimpArgs false
theorem u32_wraps (n : Int) (h₀ : 0 ≤ n) (h₁ : n < 2 ^ 32) : IntKind.u32.wrap n = n := by
  have : IntKind.u32.wrap n = n % 4294967296 := rfl
  rw [this]; omega
theorem or_low32 (i : Nat) (v y : Int) (h0 : 0 ≤ v) (h1 : v < 2 ^ i) (hy : 0 ≤ y) (h2 : v + y * 2 ^ i < 2 ^ 32) : bits .or .u32 v (y * 2 ^ i) = v + y * 2 ^ i := by
  have hp := pow_pos' i
  have hm := Int.mul_nonneg hy (Int.le_of_lt hp)
  exact bits_join_low .u32 32 (by decide) u32_wraps i v _ h0 h1 (by omega) hm (Int.mul_emod_left _ _) (by omega)
theorem lowK_round32 (s : ByteArray) (a k : Nat) (h : k ≤ 3) : bits .or .u32 (lowK s a k) (byN s (a + k) % 4294967296 * 2 ^ (8 * k) % 4294967296) = lowK s a (k + 1) := by
  have hb := byN_bd s (a + k)
  have hl := lowK_bd s a k
  have hl1 := lowK_bd s a (k + 1)
  have hp := pow32 k h
  have h0 : 0 ≤ byN s (a + k) * 2 ^ (8 * k) := Int.mul_nonneg hb.1 (by omega)
  have h1 : byN s (a + k) * 2 ^ (8 * k) ≤ 255 * 2 ^ (8 * k) := Int.mul_le_mul_of_nonneg_right (by omega) (by omega)
  have h32 : (2 : Int) ^ 32 = 4294967296 := by decide
  have h3 := pow_le' (show 8 * (k + 1) ≤ 32 by omega)
  have e : lowK s a (k + 1) = lowK s a k + byN s (a + k) * 2 ^ (8 * k) := rfl
  rw [Int.emod_eq_of_lt hb.1 (by omega), Int.emod_eq_of_lt h0 (by omega), or_low32 (8 * k) _ _ hl.1 hl.2 hb.1 (by omega)]
  rfl
set_option maxRecDepth 100000 in
theorem hlow_any (s : ByteArray) (a n : Nat) (w : World) (hn : n ≤ 4) (h : a + n ≤ s.size) (hs : s.size ≤ 9223372036854775807) : Calls Try.prog 96 #[.string s, .int .i64 a, .int .i64 n] w fun e w' => e = .returned (.int .i64 (lowK s a n)) ∧ w' = w := by
  go_enter Try.func96, Try.ntmps96
  go_wp2
  go_loop [7, 8, 10] (fun v j i => ∃ k : Nat, k ≤ n ∧ i = .int .i64 k ∧ v = .int .u32 (lowK s a k)) (fun _ _ i => n - (intOf i).toNat)
  case atStart => exact ⟨0, by omega, rfl, rfl⟩
  case round =>
    obtain ⟨k, hk, rfl, rfl⟩ := hrel
    by_cases hlt : k < n
    · have i3 : ((a : Int) + k).toNat = a + k := by omega
      have i4 : (0 : Int) ≤ (a : Int) + k := by omega
      have i5 : (a : Int) + k < s.size := by omega
      have i6 : a + k < s.size := by omega
      go_wp2
      go_round
      case rel => exact ⟨k + 1, by omega, by go_num, by rw [byN_get s (a + k) i6, lowK_round32 s a k (by omega)]⟩
      case measure => simp [intOf]; omega
    · have E := Lib.hid (show lowK s a k = lowK s a n by rw [show k = n by omega])
      have hge : n ≤ k := by omega
      have hl := lowK_bd s a k
      have hp := pow_le' (show 8 * k ≤ 32 by omega)
      have h32 : (2 : Int) ^ 32 = 4294967296 := by decide
      have hb : lowK s a k < 4294967296 := by omega
      have hb0 := hl.1
      clear hl hp h32
      go_wp2
      go_ret
      exact ⟨ret_i E.out, rfl⟩
theorem signed_wrap32 (v : Int) (h0 : 0 ≤ v) (h1 : v < 4294967296) : wrap32 v = signed v := by
  unfold wrap32 signed; split <;> omega
set_option maxRecDepth 100000 in
theorem hlow32_any (s : ByteArray) (a n : Nat) (w : World) (hn : n = 4) (h : a + n ≤ s.size) (hs : s.size ≤ 9223372036854775807) : Calls Try.prog 97 #[.string s, .int .i64 a, .int .i64 n] w fun e w' => e = .returned (.int .i32 (signed (lowK s a 4))) ∧ w' = w := by
  have hn4 : n ≤ 4 := by omega
  subst hn
  go_enter Try.func97, Try.ntmps97
  go_wp2
  go_loop [7, 8, 10] (fun v j i => ∃ k : Nat, k ≤ 4 ∧ i = .int .i64 k ∧ v = .int .u32 (lowK s a k)) (fun _ _ i => 4 - (intOf i).toNat)
  case atStart => exact ⟨0, by omega, rfl, rfl⟩
  case round =>
    obtain ⟨k, hk, rfl, rfl⟩ := hrel
    by_cases hlt : k < 4
    · have i3 : ((a : Int) + k).toNat = a + k := by omega
      have i4 : (0 : Int) ≤ (a : Int) + k := by omega
      have i5 : (a : Int) + k < s.size := by omega
      have i6 : a + k < s.size := by omega
      go_wp2
      go_round
      case rel => exact ⟨k + 1, by omega, by go_num, by rw [byN_get s (a + k) i6, lowK_round32 s a k (by omega)]⟩
      case measure => simp [intOf]; omega
    · have E := Lib.hid (show wrap32 (lowK s a k) = signed (lowK s a 4) by rw [show k = 4 by omega]; exact signed_wrap32 _ (by have := lowK_bd s a 4; omega) (by have := lowK_bd s a 4; omega))
      have hge : 4 ≤ k := by omega
      have hl := lowK_bd s a k
      have hp := pow_le' (show 8 * k ≤ 32 by omega)
      have h32 : (2 : Int) ^ 32 = 4294967296 := by decide
      have hb : lowK s a k < 4294967296 := by omega
      have hb0 := hl.1
      clear hl hp h32
      go_wp2
      go_ret
      trace_state
      exact ⟨by rw [E.out]; rfl, rfl⟩
end Go.Proofs.Ytlhcjnjajkfahaa

/- The bit reader's small functions, walked. -/
import Derived.Test.YtobpocdpnkicnaaS8
import Derived.Test.YtobpocdpnkicnaaB0
namespace Go.Proofs.Ytobpocdpnkicnaa
open Go.RowKit
set_option linter.unusedVariables false
theorem highest_any (now left : Nat) (w : World) (h0 : now < 256) (h1 : 1 ≤ left) (h2 : left ≤ 8) : Calls Try.prog 88 #[.int .i64 now, .int .i64 left] w fun e w' => e = .returned (.int .i64 ((now : Int) / 2 ^ (left - 1) % 2)) ∧ w = w' := by
  go_enter Try.func88, Try.ntmps88
  go_wp2
  go_ret
  exact ⟨ret_int (i64_and_one _), rfl⟩
theorem lowest_any (now left : Nat) (w : World) (h0 : now < 256) (h1 : 1 ≤ left) (h2 : left ≤ 8) : Calls Try.prog 90 #[.int .i64 now, .int .i64 left] w fun e w' => e = .returned (.int .i64 ((now : Int) / 2 ^ (8 - left) % 2)) ∧ w = w' := by
  go_enter Try.func90, Try.ntmps90
  go_wp2
  go_ret
  exact ⟨ret_int (i64_and_one _), rfl⟩
theorem joinhi_any (v b i : Int) (w : World) (h0 : 0 ≤ v) (h1 : v < 4294967296) (h2 : 0 ≤ b) (h3 : b ≤ 1) : Calls Try.prog 89 #[.int .i64 v, .int .i64 b, .int .i64 i] w fun e w' => e = .returned (.int .i64 (2 * v + b)) ∧ w = w' := by
  go_enter Try.func89, Try.ntmps89
  go_wp2
  go_ret
  have := or_high 1 b v h2 (by omega) h0 (by have h62 : (2 : Int) ^ 62 = 4611686018427387904 := (by decide); omega)
  exact ⟨ret_int (by rw [show v * 2 = v * 2 ^ 1 by omega, this]; omega), rfl⟩
theorem joinlo_any (v b : Int) (i : Nat) (w : World) (h0 : 0 ≤ v) (h1 : v < 2 ^ i) (h2 : 0 ≤ b) (h3 : b ≤ 1) (h4 : i ≤ 32) : Calls Try.prog 91 #[.int .i64 v, .int .i64 b, .int .i64 i] w fun e w' => e = .returned (.int .i64 (v + b * 2 ^ i)) ∧ w = w' := by
  go_enter Try.func91, Try.ntmps91
  go_wp2
  go_ret
  have hp := pow_pos' i
  have hp2 := pow_le' h4
  have h32 : (2 : Int) ^ 32 = 4294967296 := by decide
  have h62 : (2 : Int) ^ 62 = 4611686018427387904 := by decide
  have hm : 0 ≤ b * 2 ^ i ∧ b * 2 ^ i ≤ 2 ^ i := by rcases (show b = 0 ∨ b = 1 by omega) with rfl | rfl <;> omega
  exact ⟨ret_int (by rw [IntWalk.wrap64_in _ (by omega), or_low i v b h0 h1 h2 (by omega)]), rfl⟩
/-! ### the bits of a text -/
/-- Bit j of a text. -/
def bitAt (s : ByteArray) (low : Bool) (j : Nat) : Int := byN s (j / 8) / 2 ^ (if low = true then j % 8 else 7 - j % 8) % 2
theorem bitAt_bd (s : ByteArray) (low : Bool) (j : Nat) : 0 ≤ bitAt s low j ∧ bitAt s low j ≤ 1 := by unfold bitAt; omega
/-- The number of n bits from a place on. -/
def joinK (s : ByteArray) (low : Bool) (t : Nat) : Nat → Int
  | 0 => 0
  | i + 1 => if low = true then joinK s low t i + bitAt s low (t + i) * 2 ^ i else 2 * joinK s low t i + bitAt s low (t + i)
theorem joinK_bd (s : ByteArray) (low : Bool) (t i : Nat) : 0 ≤ joinK s low t i ∧ joinK s low t i < 2 ^ i := by
  induction i with
  | zero => simp [joinK]
  | succ i ih =>
    have hb := bitAt_bd s low (t + i)
    have hp := pow_pos' i
    rw [pow_succ', joinK]
    cases low with
    | true =>
      rw [if_pos rfl]
      rcases (show bitAt s true (t + i) = 0 ∨ bitAt s true (t + i) = 1 by omega) with h | h <;> rw [h] <;> omega
    | false => rw [if_neg (by decide)]; omega
def bitsList (s : ByteArray) (low : Bool) (t : Nat) : Nat → List Int
  | 0 => []
  | i + 1 => bitsList s low t i ++ [bitAt s low (t + i)]
theorem bitsList_len (s : ByteArray) (low : Bool) (t n : Nat) : (bitsList s low t n).length = n := by
  induction n with
  | zero => rfl
  | succ n ih => simp [bitsList, ih]
theorem bitsList_get (s : ByteArray) (low : Bool) (t n i : Nat) (h : i < n) : (bitsList s low t n).getD i 0 = bitAt s low (t + i) := by
  induction n with
  | zero => omega
  | succ n ih =>
    rw [bitsList, List.getD_eq_getElem?_getD]
    by_cases hi : i < n
    · rw [List.getElem?_append_left (by rw [bitsList_len]; exact hi), ← List.getD_eq_getElem?_getD]; exact ih hi
    · obtain rfl : i = n := by omega
      rw [List.getElem?_append_right (by rw [bitsList_len]; omega), bitsList_len]; simp
theorem numAcc_congr (l m : List Int) (low : Bool) (k : Nat) (h : ∀ i, i < k → l.getD i 0 = m.getD i 0) : numAcc l low k = numAcc m low k := by
  induction k with
  | zero => rfl
  | succ k ih => rw [numAcc, numAcc, ih (fun i hi => h i (by omega)), h k (by omega)]
/-- The document's number of these bits. -/
theorem numI_bits (s : ByteArray) (low : Bool) (t n : Nat) : numI (bitsList s low t n) low = joinK s low t n := by
  unfold numI
  rw [bitsList_len]
  have hb : ∀ i, 0 ≤ (bitsList s low t n).getD i 0 ∧ (bitsList s low t n).getD i 0 ≤ 1 := by
    intro i
    by_cases hi : i < n
    · rw [bitsList_get _ _ _ _ _ hi]; exact bitAt_bd _ _ _
    · rw [List.getD_eq_getElem?_getD, List.getElem?_eq_none (by rw [bitsList_len]; omega)]; simp
  have key : ∀ k, k ≤ n → (numAcc (bitsList s low t n) low k).1 = joinK s low t k := by
    intro k
    induction k with
    | zero => intro _; rfl
    | succ k ih =>
      intro hk
      have h5 := (numAcc_bd (bitsList s low t n) low hb k).2.2.2.2
      rw [numAcc, joinK]
      cases low with
      | true => rw [if_pos rfl, if_pos rfl, ← ih (by omega), h5 rfl, bitsList_get _ _ _ _ _ (by omega)]
      | false => rw [if_neg (by decide), if_neg (by decide), ← ih (by omega), bitsList_get _ _ _ _ _ (by omega)]
  exact key n (Nat.le_refl _)
end Go.Proofs.Ytobpocdpnkicnaa

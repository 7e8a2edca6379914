/- The reference of layer 6: the number of some bits. -/
import Derived.Test.YtobpocdpnkicnaaD5
namespace Go.Proofs.Ytobpocdpnkicnaa
open Go.RowKit
set_option linter.unusedVariables false
/-- The number of the first k bits, in the order in which they come; what the next one counts. -/
def numAcc (l : List Int) (low : Bool) : Nat → Int × Int
  | 0 => (0, 1)
  | k + 1 => if low = true then ((numAcc l low k).1 + l.getD k 0 * (numAcc l low k).2, 2 * (numAcc l low k).2) else (2 * (numAcc l low k).1 + l.getD k 0, (numAcc l low k).2)
theorem numAcc_lo (l : List Int) (k : Nat) : numAcc l true (k + 1) = ((numAcc l true k).1 + l.getD k 0 * (numAcc l true k).2, 2 * (numAcc l true k).2) := rfl
theorem numAcc_hi (l : List Int) (k : Nat) : numAcc l false (k + 1) = (2 * (numAcc l false k).1 + l.getD k 0, (numAcc l false k).2) := rfl
def numI (l : List Int) (low : Bool) : Int := (numAcc l low l.length).1
theorem numAcc_bd (l : List Int) (low : Bool) (hb : ∀ i, 0 ≤ l.getD i 0 ∧ l.getD i 0 ≤ 1) (k : Nat) : 0 ≤ (numAcc l low k).1 ∧ (numAcc l low k).1 < 2 ^ k ∧ 1 ≤ (numAcc l low k).2 ∧ (numAcc l low k).2 ≤ 2 ^ k ∧ (low = true → (numAcc l low k).2 = 2 ^ k) := by
  induction k with
  | zero => simp [numAcc]
  | succ k ih =>
    have hk := hb k
    have hp := pow_pos' k
    rw [pow_succ']
    obtain ⟨i1, i2, i3, i4, i5⟩ := ih
    cases low with
    | true =>
      have i5 := i5 rfl
      rw [numAcc_lo]
      simp only
      rcases (show l.getD k 0 = 0 ∨ l.getD k 0 = 1 by omega) with h | h <;> rw [h, i5] <;> refine ⟨by omega, by omega, by omega, by omega, fun _ => rfl⟩
    | false =>
      rw [numAcc_hi]
      simp only
      exact ⟨by omega, by omega, by omega, by omega, fun h => by simp at h⟩
set_option maxHeartbeats 1000000 in
theorem number_hi (l : List Int) (B o cap : Nat) (w : World) (hn : l.length ≤ 40) (hb : ∀ i, 0 ≤ l.getD i 0 ∧ l.getD i 0 ≤ 1) (hc : ∀ i, i < l.length → w.cell? ⟨B, o + i, none⟩ = some (.int .i64 (l.getD i 0))) :
    Calls Try.prog 59 #[.slice (some ⟨B, o, none⟩) l.length cap, .bool false] w fun e w' => e = .returned (.int .i64 (numI l false)) ∧ w = w' := by
  have HC := Lib.hid hc
  have HB := Lib.hid hb
  clear hc hb
  go_enter Try.func59, Try.ntmps59
  go_wp2
  go_loop [5, 6, 7] (fun v p i => ∃ k : Nat, k ≤ l.length ∧ i = .int .i64 k ∧ v = .int .i64 (numAcc l false k).1 ∧ p = .int .i64 (numAcc l false k).2) (fun _ _ i => l.length - (intOf i).toNat)
  case atStart => exact ⟨0, by omega, rfl, rfl, rfl⟩
  case round =>
    obtain ⟨k, hk, rfl, rfl, rfl⟩ := hrel
    obtain ⟨b0, b1, b2, b3, b6⟩ := numAcc_bd l false HB.out k
    clear b6
    have hp := pow_le' (show k ≤ 40 by omega)
    have b4 : (numAcc l false k).1 < 1099511627776 := by
      have h40 : (2 : Int) ^ 40 = 1099511627776 := by decide
      omega
    have b5 : (numAcc l false k).2 ≤ 1099511627776 := by
      have h40 : (2 : Int) ^ 40 = 1099511627776 := by decide
      omega
    by_cases hlt : k < l.length
    · have hck := HC.out k hlt
      obtain ⟨x0, x1⟩ := HB.out k
      have E := Lib.hid (numAcc_hi l k)
      obtain ⟨x, hx⟩ : ∃ x, l.getD k 0 = x := ⟨_, rfl⟩
      rw [hx] at hck x0 x1 E
      clear hx hp b1 b3
      go_wp2
      go_round
      case rel => exact ⟨k + 1, by omega, by go_num, by rw [E.out], by rw [E.out]⟩
      case measure => simp [intOf]; omega
    · have hge : l.length ≤ k := by omega
      have E := Lib.hid (show (numAcc l false k).1 = numI l false by unfold numI; rw [show k = l.length by omega])
      go_wp2
      go_ret
      exact ⟨ret_int E.out, rfl⟩
set_option maxHeartbeats 1000000 in
theorem number_lo (l : List Int) (B o cap : Nat) (w : World) (hn : l.length ≤ 40) (hb : ∀ i, 0 ≤ l.getD i 0 ∧ l.getD i 0 ≤ 1) (hc : ∀ i, i < l.length → w.cell? ⟨B, o + i, none⟩ = some (.int .i64 (l.getD i 0))) :
    Calls Try.prog 59 #[.slice (some ⟨B, o, none⟩) l.length cap, .bool true] w fun e w' => e = .returned (.int .i64 (numI l true)) ∧ w = w' := by
  have HC := Lib.hid hc
  have HB := Lib.hid hb
  clear hc hb
  go_enter Try.func59, Try.ntmps59
  go_wp2
  go_loop [5, 6, 7] (fun v p i => ∃ k : Nat, k ≤ l.length ∧ i = .int .i64 k ∧ v = .int .i64 (numAcc l true k).1 ∧ p = .int .i64 (numAcc l true k).2) (fun _ _ i => l.length - (intOf i).toNat)
  case atStart => exact ⟨0, by omega, rfl, rfl, rfl⟩
  case round =>
    obtain ⟨k, hk, rfl, rfl, rfl⟩ := hrel
    obtain ⟨b0, b1, b2, b3, b6⟩ := numAcc_bd l true HB.out k
    clear b6
    have hp := pow_le' (show k ≤ 40 by omega)
    have b4 : (numAcc l true k).1 < 1099511627776 := by
      have h40 : (2 : Int) ^ 40 = 1099511627776 := by decide
      omega
    have b5 : (numAcc l true k).2 ≤ 1099511627776 := by
      have h40 : (2 : Int) ^ 40 = 1099511627776 := by decide
      omega
    by_cases hlt : k < l.length
    · have hck := HC.out k hlt
      obtain ⟨x0, x1⟩ := HB.out k
      have hm : l.getD k 0 * (numAcc l true k).2 ≤ 2 ^ 40 ∧ 0 ≤ l.getD k 0 * (numAcc l true k).2 := by
        rcases (show l.getD k 0 = 0 ∨ l.getD k 0 = 1 by omega) with h | h <;> rw [h] <;> omega
      obtain ⟨m1, m2⟩ := hm
      have h40 : (2 : Int) ^ 40 = 1099511627776 := by decide
      rw [h40] at m1
      have E := Lib.hid (numAcc_lo l k)
      obtain ⟨x, hx⟩ : ∃ x, l.getD k 0 = x := ⟨_, rfl⟩
      rw [hx] at hck x0 x1 E m1 m2
      clear hx hp b1 b3
      go_wp2
      go_round
      case rel => exact ⟨k + 1, by omega, by go_num, by rw [E.out], by rw [E.out]⟩
      case measure => simp [intOf]; omega
    · have hge : l.length ≤ k := by omega
      have E := Lib.hid (show (numAcc l true k).1 = numI l true by unfold numI; rw [show k = l.length by omega])
      go_wp2
      go_ret
      exact ⟨ret_int E.out, rfl⟩
theorem number_nil (a : Option Addr) (cap : Nat) (low : Bool) (w : World) : Calls Try.prog 59 #[.slice a 0 cap, .bool low] w fun e w' => e = .returned (.int .i64 0) ∧ w = w' := by
  go_enter Try.func59, Try.ntmps59
  go_wp2
  go_rounds 1
  go_ret
  exact ⟨rfl, rfl⟩
theorem number_any (l : List Int) (s : Value) (low : Bool) (w : World) (hs : Ints w s l) (hn : l.length ≤ 40) (hb : ∀ i, 0 ≤ l.getD i 0 ∧ l.getD i 0 ≤ 1) :
    Calls Try.prog 59 #[s, .bool low] w fun e w' => e = .returned (.int .i64 (numI l low)) ∧ w = w' := by
  rcases hs with ⟨a, cap, rfl, rfl⟩ | ⟨B, o, cap, rfl, hB, hc⟩
  · exact number_nil a cap low w
  · cases low
    · exact number_hi l B o cap w hn hb hc
    · exact number_lo l B o cap w hn hb hc
end Go.Proofs.Ytobpocdpnkicnaa

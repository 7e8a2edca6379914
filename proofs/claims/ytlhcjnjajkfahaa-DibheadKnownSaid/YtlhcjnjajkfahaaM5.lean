/- The references of layer 9: Of, count, channel, Color, Both, Find. -/
import Derived.Test.YtlhcjnjajkfahaaM4
namespace Go.Proofs.Ytlhcjnjajkfahaa
open Go.RowKit
def ofAcc (word mask : Int) : Nat → Int × Int
  | 0 => (0, 1)
  | k + 1 => if bitB mask k = true then (if bitB word k = true then (ofAcc word mask k).1 + (ofAcc word mask k).2 else (ofAcc word mask k).1, 2 * (ofAcc word mask k).2) else ofAcc word mask k
theorem ofAcc_bd (word mask : Int) (k : Nat) : 0 ≤ (ofAcc word mask k).1 ∧ (ofAcc word mask k).1 < (ofAcc word mask k).2 ∧ (ofAcc word mask k).2 ≤ 2 ^ k := by
  induction k with
  | zero => simp [ofAcc]
  | succ k ih =>
    have := pow_pos' k
    rw [pow_succ']; unfold ofAcc
    split <;> (try split) <;> (try simp only []) <;> omega
theorem ofAcc_succ (word mask : Int) (k : Nat) : ofAcc word mask (k + 1) = if bitB mask k = true then (if bitB word k = true then (ofAcc word mask k).1 + (ofAcc word mask k).2 else (ofAcc word mask k).1, 2 * (ofAcc word mask k).2) else ofAcc word mask k := rfl
def ofI (word mask : Int) : Int := (ofAcc word mask 32).1
def cntAcc (mask : Int) : Nat → Int
  | 0 => 0
  | k + 1 => if bitB mask k = true then cntAcc mask k + 1 else cntAcc mask k
theorem cntAcc_succ (mask : Int) (k : Nat) : cntAcc mask (k + 1) = if bitB mask k = true then cntAcc mask k + 1 else cntAcc mask k := rfl
theorem cntAcc_bd (mask : Int) (k : Nat) : 0 ≤ cntAcc mask k ∧ cntAcc mask k ≤ k := by
  induction k with
  | zero => simp [cntAcc]
  | succ k ih => unfold cntAcc; split <;> omega
theorem ofAcc_cnt (word mask : Int) (k : Nat) : (ofAcc word mask k).2 = 2 ^ (cntAcc mask k).toNat := by
  induction k with
  | zero => simp [ofAcc, cntAcc]
  | succ k ih =>
    have := (cntAcc_bd mask k).1
    unfold ofAcc cntAcc
    by_cases h : bitB mask k = true
    · simp only [h, if_true]
      rw [ih, show (cntAcc mask k + 1).toNat = (cntAcc mask k).toNat + 1 by omega, pow_succ']
    · simp only [h]; simpa using ih
theorem cnt_pos (mask : Int) (h0 : 1 ≤ mask) (h1 : mask < 2 ^ 32) : 1 ≤ cntAcc mask 32 := by
  obtain ⟨a, b, _⟩ := tzF_spec 32 mask (by omega) h1
  have hb : bitB mask (tzF 32 mask) = true := by unfold bitB; simpa using b
  have h : ∀ k, tzF 32 mask < k → 1 ≤ cntAcc mask k := by
    intro k hk
    induction k with
    | zero => omega
    | succ k ih =>
      have := (cntAcc_bd mask k).1
      unfold cntAcc
      by_cases e : tzF 32 mask = k
      · rw [← e, hb, if_pos rfl]; rw [e]; omega
      · have := ih (by omega); split <;> omega
  exact h 32 a
/-- A channel of a word, by a mask. -/
def chR (word mask none : Int) : Int := if mask = 0 then none else mxI (ofI word mask) (2 ^ (cntAcc mask 32).toNat - 1)
/-- Have two words a bit in common, among the first k? -/
def bothF (v u : Int) : Nat → Bool
  | 0 => false
  | k + 1 => bothF v u k || (bitB v k && bitB u k)
theorem bothF_succ (v u : Int) (k : Nat) : bothF v u (k + 1) = (bothF v u k || (bitB v k && bitB u k)) := rfl
theorem bothF_mono (v u : Int) (k j : Nat) (h : bothF v u k = true) (hj : k ≤ j) : bothF v u j = true := by
  induction j with
  | zero => obtain rfl : k = 0 := by omega
            exact h
  | succ j ih => by_cases e : k = j + 1
                 · subst e; exact h
                 · unfold bothF; rw [ih (by omega)]; rfl
theorem both_any (v u : Int) (w : World) : Calls Try.prog 110 #[.int .i64 v, .int .i64 u] w fun e w' => e = .returned (.bool (bothF v u 32)) ∧ w = w' := by
  go_enter Try.func110, Try.ntmps110
  go_wp2
  go_loop [5] (fun i => ∃ k : Nat, k ≤ 32 ∧ i = .int .i64 k ∧ bothF v u k = false) (fun i => 32 - (intOf i).toNat)
  case atStart => exact ⟨0, by omega, rfl, rfl⟩
  case round =>
    obtain ⟨k, hk, rfl, hf⟩ := hrel
    by_cases hlt : k < 32
    · have E := Lib.hid (bothF_succ v u k)
      have F := Lib.hid hf
      have M := Lib.hid (fun h => bothF_mono v u (k + 1) 32 h (by omega))
      clear hf
      cases h1 : bitB v k <;> cases h2 : bitB u k
      all_goals
        go_wp2_with (first | (go_at_call 123; (with_reducible refine (rbit_any v k _ (by omega) (by omega)).mono ?_); rintro e w1 ⟨rfl, rfl⟩) | (go_at_call 123; (with_reducible refine (rbit_any u k _ (by omega) (by omega)).mono ?_); rintro e w1 ⟨rfl, rfl⟩))
        first
          | (go_ret
             exact ⟨ret_bool (by rw [M.out (by rw [E.out, F.out, h1, h2]; rfl)]), rfl⟩)
          | (go_round
             case rel => exact ⟨k + 1, by omega, by go_num, by rw [E.out, F.out, h1]; simp [h2]⟩
             case measure => simp [intOf]; omega)
    · obtain rfl : k = 32 := by omega
      have F := Lib.hid hf
      clear hf
      go_wp2
      go_ret
      exact ⟨ret_bool F.out.symm, rfl⟩
end Go.Proofs.Ytlhcjnjajkfahaa

/- The references of layer 9: Of, count, channel, Color, Both, Find. -/
import Derived.Test.YtobpocdpnkicnaaM4
namespace Go.Proofs.Ytobpocdpnkicnaa
open Go.RowKit
def ofAcc (word mask : Int) : Nat → Int × Int
  | 0 => (0, 1)
  | k + 1 => if bitB mask k = true then (if bitB word k = true then (ofAcc word mask k).1 + (ofAcc word mask k).2 else (ofAcc word mask k).1, 2 * (ofAcc word mask k).2) else ofAcc word mask k
theorem ofAcc_bd (word mask : Int) (k : Nat) : 0 ≤ (ofAcc word mask k).1 ∧ (ofAcc word mask k).1 < (ofAcc word mask k).2 ∧ (ofAcc word mask k).2 ≤ 2 ^ k := by
  induction k with
  | zero => simp [ofAcc]
  | succ k ih =>
    have := pow_pos' k
    rw [pow_succ']; unfold ofAcc
    split <;> (try split) <;> (try simp only []) <;> omega
theorem ofAcc_succ (word mask : Int) (k : Nat) : ofAcc word mask (k + 1) = if bitB mask k = true then (if bitB word k = true then (ofAcc word mask k).1 + (ofAcc word mask k).2 else (ofAcc word mask k).1, 2 * (ofAcc word mask k).2) else ofAcc word mask k := rfl
def ofI (word mask : Int) : Int := (ofAcc word mask 32).1
theorem rof_any (word mask : Int) (w : World) : Calls Try.prog 35 #[.int .i64 word, .int .i64 mask] w fun e w' => e = .returned (.int .i64 (ofI word mask)) ∧ w = w' := by
  go_enter Try.func35, Try.ntmps35
  go_wp2
  go_loop [5, 6, 7] (fun v p i => ∃ k : Nat, k ≤ 32 ∧ i = .int .i64 k ∧ v = .int .i64 (ofAcc word mask k).1 ∧ p = .int .i64 (ofAcc word mask k).2) (fun _ _ i => 32 - (intOf i).toNat)
  case atStart => exact ⟨0, by omega, rfl, rfl, rfl⟩
  case round =>
    obtain ⟨k, hk, rfl, rfl, rfl⟩ := hrel
    obtain ⟨b0, b1, b2⟩ := ofAcc_bd word mask k
    by_cases hlt : k < 32
    · have b3 := pow_le' (show k ≤ 32 by omega)
      have E := Lib.hid (ofAcc_succ word mask k)
      cases h1 : bitB mask k <;> cases h2 : bitB word k
      all_goals
        go_wp2_with (first | (go_at_call 80; (with_reducible refine (rbit_any mask k _ (by omega) (by omega)).mono ?_); rintro e w1 ⟨rfl, rfl⟩) | (go_at_call 80; (with_reducible refine (rbit_any word k _ (by omega) (by omega)).mono ?_); rintro e w1 ⟨rfl, rfl⟩))
        go_round
        case rel => exact ⟨k + 1, by omega, by go_num, by rw [E.out, h1]; simp [h2], by rw [E.out, h1]; simp [h2]⟩
        case measure => simp [intOf]; omega
    · obtain rfl : k = 32 := by omega
      go_wp2
      go_ret
      exact ⟨rfl, rfl⟩
def cntAcc (mask : Int) : Nat → Int
  | 0 => 0
  | k + 1 => if bitB mask k = true then cntAcc mask k + 1 else cntAcc mask k
theorem cntAcc_succ (mask : Int) (k : Nat) : cntAcc mask (k + 1) = if bitB mask k = true then cntAcc mask k + 1 else cntAcc mask k := rfl
theorem cntAcc_bd (mask : Int) (k : Nat) : 0 ≤ cntAcc mask k ∧ cntAcc mask k ≤ k := by
  induction k with
  | zero => simp [cntAcc]
  | succ k ih => unfold cntAcc; split <;> omega
theorem ofAcc_cnt (word mask : Int) (k : Nat) : (ofAcc word mask k).2 = 2 ^ (cntAcc mask k).toNat := by
  induction k with
  | zero => simp [ofAcc, cntAcc]
  | succ k ih =>
    have := (cntAcc_bd mask k).1
    unfold ofAcc cntAcc
    by_cases h : bitB mask k = true
    · simp only [h, if_true]
      rw [ih, show (cntAcc mask k + 1).toNat = (cntAcc mask k).toNat + 1 by omega, pow_succ']
    · simp only [h]; simpa using ih
theorem count_any (mask : Int) (w : World) : Calls Try.prog 105 #[.int .i64 mask] w fun e w' => e = .returned (.int .i64 (cntAcc mask 32)) ∧ w = w' := by
  go_enter Try.func105, Try.ntmps105
  go_wp2
  go_loop [3, 4] (fun n i => ∃ k : Nat, k ≤ 32 ∧ i = .int .i64 k ∧ n = .int .i64 (cntAcc mask k)) (fun _ i => 32 - (intOf i).toNat)
  case atStart => exact ⟨0, by omega, rfl, rfl⟩
  case round =>
    obtain ⟨k, hk, rfl, rfl⟩ := hrel
    obtain ⟨b0, b1⟩ := cntAcc_bd mask k
    by_cases hlt : k < 32
    · have E := Lib.hid (cntAcc_succ mask k)
      cases h1 : bitB mask k
      all_goals
        go_wp2_with (go_at_call 80; (with_reducible refine (rbit_any mask k _ (by omega) (by omega)).mono ?_); rintro e w1 ⟨rfl, rfl⟩)
        go_round
        case rel => exact ⟨k + 1, by omega, by go_num, by rw [E.out, h1]; simp⟩
        case measure => simp [intOf]; omega
    · obtain rfl : k = 32 := by omega
      go_wp2
      go_ret
      exact ⟨rfl, rfl⟩
theorem cnt_pos (mask : Int) (h0 : 1 ≤ mask) (h1 : mask < 2 ^ 32) : 1 ≤ cntAcc mask 32 := by
  obtain ⟨a, b, _⟩ := tzF_spec 32 mask (by omega) h1
  have hb : bitB mask (tzF 32 mask) = true := by unfold bitB; simpa using b
  have h : ∀ k, tzF 32 mask < k → 1 ≤ cntAcc mask k := by
    intro k hk
    induction k with
    | zero => omega
    | succ k ih =>
      have := (cntAcc_bd mask k).1
      unfold cntAcc
      by_cases e : tzF 32 mask = k
      · rw [← e, hb, if_pos rfl]; rw [e]; omega
      · have := ih (by omega); split <;> omega
  exact h 32 a
/-- A channel of a word, by a mask. -/
def chR (word mask none : Int) : Int := if mask = 0 then none else mxI (ofI word mask) (2 ^ (cntAcc mask 32).toNat - 1)
theorem rchan_any (word mask none : Int) (w : World) (h0 : 0 ≤ mask) (h1 : mask < 2 ^ 32) (n0 : 0 ≤ none) (n1 : none ≤ 255) :
    Calls Try.prog 78 #[.int .i64 word, .int .i64 mask, .int .i64 none] w fun e w' => e = .returned (.int .u8 (chR word mask none)) ∧ w = w' := by
  by_cases hz : mask = 0
  · have E := Lib.hid (show none = chR word mask none from (if_pos hz).symm)
    subst hz
    go_enter Try.func78, Try.ntmps78
    go_wp2
    go_ret
    exact ⟨ret_int (by rw [← E.out]; try omega), rfl⟩
  · have E := Lib.hid (show mxI (ofI word mask) (2 ^ (cntAcc mask 32).toNat - 1) = chR word mask none from (if_neg hz).symm)
    have hz' : (mask == 0) = false := by simpa using hz
    have c1 := cnt_pos mask (by omega) h1
    obtain ⟨c2, c3⟩ := cntAcc_bd mask 32
    obtain ⟨b0, b1, b2⟩ := ofAcc_bd word mask 32
    rw [ofAcc_cnt] at b1
    have p0 := pow_pos' (cntAcc mask 32).toNat
    have p1 := pow_le' (show (cntAcc mask 32).toNat ≤ 32 by omega)
    have p2 := pow_le' (show 1 ≤ (cntAcc mask 32).toNat by omega)
    have hof : 0 ≤ ofI word mask ∧ ofI word mask ≤ 2 ^ (cntAcc mask 32).toNat - 1 := by unfold ofI; omega
    obtain ⟨o0, o1⟩ := hof
    obtain ⟨x0, x1⟩ := mxI_bd _ _ o0 o1 (by omega)
    clear b2 hz b0 b1
    go_enter Try.func78, Try.ntmps78
    go_wp2_with (first | (go_at_call 35; (with_reducible refine (rof_any word mask _).mono ?_); rintro e w1 ⟨rfl, rfl⟩) | (go_at_call 105; (with_reducible refine (count_any mask _).mono ?_); rintro e w1 ⟨rfl, rfl⟩) | (go_at_call 17; (with_reducible refine (power_any _ _ c2 (by omega)).mono ?_); rintro e w1 ⟨rfl, rfl⟩) | (go_at_call 104; (with_reducible refine (rmax_any _ _ _ o0 o1 (by omega) (by omega)).mono ?_); rintro e w1 ⟨rfl, rfl⟩))
    go_ret
    exact ⟨ret_int (by rw [← E.out]; try omega), rfl⟩
theorem rcolor_any (word r g b a : Int) (w : World) (r0 : 0 ≤ r) (r1 : r < 2 ^ 32) (g0 : 0 ≤ g) (g1 : g < 2 ^ 32) (b0 : 0 ≤ b) (b1 : b < 2 ^ 32) (a0 : 0 ≤ a) (a1 : a < 2 ^ 32) :
    Calls Try.prog 29 #[.int .i64 word, .int .i64 r, .int .i64 g, .int .i64 b, .int .i64 a] w fun e w' => e = .returned (.agg #[.int .u8 (chR word r 0), .int .u8 (chR word g 0), .int .u8 (chR word b 0), .int .u8 (chR word a 255)]) ∧ Below w.heap.size w w' := by
  go_enter Try.func29, Try.ntmps29
  go_wp2_with (first
    | (go_at_call 78; (with_reducible refine (rchan_any word r 0 _ r0 r1 (by omega) (by omega)).mono ?_); rintro e w1 ⟨rfl, rfl⟩)
    | (go_at_call 78; (with_reducible refine (rchan_any word g 0 _ g0 g1 (by omega) (by omega)).mono ?_); rintro e w1 ⟨rfl, rfl⟩)
    | (go_at_call 78; (with_reducible refine (rchan_any word b 0 _ b0 b1 (by omega) (by omega)).mono ?_); rintro e w1 ⟨rfl, rfl⟩)
    | (go_at_call 78; (with_reducible refine (rchan_any word a 255 _ a0 a1 (by omega) (by omega)).mono ?_); rintro e w1 ⟨rfl, rfl⟩))
  refine bodyPost_ret (v := .agg #[.int .u8 (chR word r 0), .int .u8 (chR word g 0), .int .u8 (chR word b 0), .int .u8 (chR word a 255)]) (by simp [results, Try.results29, go_sem]) rfl ⟨rfl, by go_grown⟩
/-- Have two words a bit in common, among the first k? -/
def bothF (v u : Int) : Nat → Bool
  | 0 => false
  | k + 1 => bothF v u k || (bitB v k && bitB u k)
theorem bothF_succ (v u : Int) (k : Nat) : bothF v u (k + 1) = (bothF v u k || (bitB v k && bitB u k)) := rfl
theorem bothF_mono (v u : Int) (k j : Nat) (h : bothF v u k = true) (hj : k ≤ j) : bothF v u j = true := by
  induction j with
  | zero => obtain rfl : k = 0 := by omega
            exact h
  | succ j ih => by_cases e : k = j + 1
                 · subst e; exact h
                 · unfold bothF; rw [ih (by omega)]; rfl
theorem both_any (v u : Int) (w : World) : Calls Try.prog 83 #[.int .i64 v, .int .i64 u] w fun e w' => e = .returned (.bool (bothF v u 32)) ∧ w = w' := by
  go_enter Try.func83, Try.ntmps83
  go_wp2
  go_loop [5] (fun i => ∃ k : Nat, k ≤ 32 ∧ i = .int .i64 k ∧ bothF v u k = false) (fun i => 32 - (intOf i).toNat)
  case atStart => exact ⟨0, by omega, rfl, rfl⟩
  case round =>
    obtain ⟨k, hk, rfl, hf⟩ := hrel
    by_cases hlt : k < 32
    · have E := Lib.hid (bothF_succ v u k)
      have F := Lib.hid hf
      have M := Lib.hid (fun h => bothF_mono v u (k + 1) 32 h (by omega))
      clear hf
      cases h1 : bitB v k <;> cases h2 : bitB u k
      all_goals
        go_wp2_with (first | (go_at_call 80; (with_reducible refine (rbit_any v k _ (by omega) (by omega)).mono ?_); rintro e w1 ⟨rfl, rfl⟩) | (go_at_call 80; (with_reducible refine (rbit_any u k _ (by omega) (by omega)).mono ?_); rintro e w1 ⟨rfl, rfl⟩))
        first
          | (go_ret
             exact ⟨ret_bool (by rw [M.out (by rw [E.out, F.out, h1, h2]; rfl)]), rfl⟩)
          | (go_round
             case rel => exact ⟨k + 1, by omega, by go_num, by rw [E.out, F.out, h1]; simp [h2]⟩
             case measure => simp [intOf]; omega)
    · obtain rfl : k = 32 := by omega
      have F := Lib.hid hf
      clear hf
      go_wp2
      go_ret
      exact ⟨ret_bool F.out.symm, rfl⟩
end Go.Proofs.Ytobpocdpnkicnaa

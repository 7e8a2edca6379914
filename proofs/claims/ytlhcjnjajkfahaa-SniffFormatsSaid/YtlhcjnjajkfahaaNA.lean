/- sniff.order, the last place of a byte, walked. -/
import Derived.Test.YtlhcjnjajkfahaaN9
import Derived.Test.YtlhcjnjajkfahaaO5
namespace Go.Proofs.Ytlhcjnjajkfahaa
open Go.RowKit
set_option linter.unusedVariables false
set_option linter.unusedSimpArgs false
def ordL : List Int := [1, 3, 5, 6, 8, 7, 4, 2]
def ordV : List Value := [.int .i64 1, .int .i64 3, .int .i64 5, .int .i64 6, .int .i64 8, .int .i64 7, .int .i64 4, .int .i64 2]
set_option maxRecDepth 100000 in
set_option maxHeartbeats 4000000 in
theorem order_any (w : World) : Calls Try.prog 52 #[] w (RA w ordV) := by
  have O0 := Lib.hid (obj1_new w #[.int .i64 0, .int .i64 0, .int .i64 0, .int .i64 0, .int .i64 0, .int .i64 0, .int .i64 0, .int .i64 0] 83)
  have B0 := Lib.hid ((Below.refl w.heap.size w).alloc (Nat.le_refl _) (.cells #[.int .i64 0, .int .i64 0, .int .i64 0, .int .i64 0, .int .i64 0, .int .i64 0, .int .i64 0, .int .i64 0] 83))
  go_enter Try.func52, Try.ntmps52
  go_wp2_with (refine store_o rfl 83 8 _ _ rfl w.heap.size ordV rfl rfl (by kernel_rfl) (by kernel_rfl) (by kernel_rfl) O0.out (by first | rfl | simp) ?_; intro w3 hst hO; have HO := Lib.hid hO; have B9 := Lib.hid (hst.below B0.out (Nat.le_refl _)); clear hst hO; refine gen_frame 0 (.pointer (some ⟨w.heap.size, 0, none⟩)) (by kernel_rfl) (by kernel_rfl) ?_; intro A hA hAd)
  refine bodyPost_ret (v := .agg (List.toArray ordV)) ?_ hAd ⟨rfl, B9.out⟩
  exact results_c Try.results52 _ _ _ ordV _ hA HO.out.range0 Try.underlying83 rfl (by kernel_rfl)
/-- The last place, of those below k, at which a byte stands; -1: none. -/
def lastAt (s : ByteArray) (c : Int) : Nat → Int
  | 0 => -1
  | k + 1 => if byN s k = c then k else lastAt s c k
set_option maxRecDepth 100000 in
theorem lasti_any (s : ByteArray) (c : Int) (w : World) (hs : s.size ≤ 9223372036854775807) : Calls Try.prog 95 #[.string s, .int .u8 c] w fun e w' => e = .returned (.int .i64 (lastAt s c s.size)) ∧ w' = w := by
  obtain ⟨R, hR⟩ : ∃ R, lastAt s c s.size = R := ⟨_, rfl⟩
  rw [hR]
  have eW : wrap64 ((s.size : Int) - 1) = (s.size : Int) - 1 := IntWalk.wrap64_in _ ⟨by omega, by omega⟩
  have eW' : IntKind.i64.wrap ((s.size : Int) - 1) = (s.size : Int) - 1 := (IntWalk.i64_left _).trans eW
  go_enter Try.func95, Try.ntmps95
  go_wp2
  go_loop [5] (fun i => ∃ k : Nat, k ≤ s.size ∧ i = .int .i64 ((k : Int) - 1) ∧ lastAt s c k = R) (fun i => (intOf i + 1).toNat)
  case atStart => exact ⟨s.size, by omega, rfl, hR⟩
  case round =>
    obtain ⟨k, hk, rfl, hL⟩ := hrel
    cases k with
    | zero =>
      rw [lastAt] at hL
      have D : decide (((0 : Nat) : Int) - 1 ≥ 0) = false := by decide
      have HL := Lib.hid hL
      clear hL
      go_wp2
      go_ret
      exact ⟨ret_i HL.out, rfl⟩
    | succ k =>
      rw [lastAt] at hL
      have e1 : (((k + 1 : Nat) : Int) - 1) = (k : Int) := by omega
      rw [e1]
      have ik : k < s.size := by omega
      have g := byN_get s k ik
      obtain ⟨x, hx⟩ : ∃ x, byN s k = x := ⟨_, rfl⟩
      rw [hx] at g hL
      have D : decide ((k : Int) ≥ 0) = true := by rw [decide_eq_true_iff]; omega
      have eW2 : wrap64 ((k : Int) - 1) = (k : Int) - 1 := IntWalk.wrap64_in _ ⟨by omega, by omega⟩
      have eW3 : IntKind.i64.wrap ((k : Int) - 1) = (k : Int) - 1 := (IntWalk.i64_left _).trans eW2
      by_cases hxc : x = c
      · rw [if_pos hxc] at hL
        subst hxc
        have HL := Lib.hid hL
        clear hL
        go_wp2
        go_ret
        exact ⟨ret_i HL.out, rfl⟩
      · rw [if_neg hxc] at hL
        have hxb : (x == c) = false := by simpa using hxc
        have HL := Lib.hid hL
        clear hL
        go_wp2
        go_round
        case rel => exact ⟨k, by omega, rfl, HL.out⟩
        case measure => simp [intOf] <;> omega
theorem last_any (s : ByteArray) (c : Int) (w : World) (hs : s.size ≤ 9223372036854775807) : Calls Try.prog 64 #[.string s, .int .u8 c] w fun e w' => e = .returned (.int .i64 (lastAt s c s.size)) ∧ w' = w := by
  go_enter Try.func64, Try.ntmps64
  go_wp2_with (go_at_call 95; (with_reducible refine (lasti_any s c _ hs).mono ?_); rintro e w1 ⟨rfl, rfl⟩)
  go_ret
  exact ⟨rfl, rfl⟩
end Go.Proofs.Ytlhcjnjajkfahaa

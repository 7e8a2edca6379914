/- sniff: prefixes and signs, walked. -/
import Derived.Test.YtlhcjnjajkfahaaT2
namespace Go.Proofs.Ytlhcjnjajkfahaa
open Go.RowKit
set_option linter.unusedVariables false
set_option linter.unusedSimpArgs false
def prefB (s p : ByteArray) : Bool := decide (p.size ≤ s.size) && ((s.extract 0 p.size).toList == p.toList)
theorem prefix0_any (s p : ByteArray) (w : World) : Calls Try.prog 89 #[.string s, .string p] w fun e w' => e = .returned (.bool (prefB s p)) ∧ w' = w := by
  by_cases h : p.size ≤ s.size
  · have D : decide ((s.size : Int) ≥ (p.size : Int)) = true := by rw [decide_eq_true_iff]; omega
    have E := Lib.hid (show prefB s p = ((s.extract 0 p.size).toList == p.toList) by unfold prefB; rw [decide_eq_true h]; rfl)
    go_enter Try.func89, Try.ntmps89
    go_wp2_with fail
    go_ret
    exact ⟨ret_b E.out.symm, rfl⟩
  · have D : decide ((s.size : Int) ≥ (p.size : Int)) = false := by rw [decide_eq_false_iff_not]; omega
    have E := Lib.hid (show prefB s p = false by unfold prefB; rw [decide_eq_false h]; rfl)
    go_enter Try.func89, Try.ntmps89
    go_wp2_with fail
    go_ret
    exact ⟨ret_b E.out.symm, rfl⟩
theorem prefix_any (s p : ByteArray) (w : World) : Calls Try.prog 53 #[.string s, .string p] w fun e w' => e = .returned (.bool (prefB s p)) ∧ w' = w := by
  have HP := Lib.hid (fun w0 => prefix0_any s p w0)
  go_enter Try.func53, Try.ntmps53
  go_wp2_with ((go_at_call 89; (with_reducible refine (HP.out _).mono ?_); rintro e w1 ⟨rfl, rfl⟩))
  go_ret
  exact ⟨rfl, rfl⟩
theorem qoi_any (s : ByteArray) (w : World) : Calls Try.prog 55 #[.string s] w fun e w' => e = .returned (.bool (prefB s ⟨#[113, 111, 105, 102]⟩)) ∧ w' = w := by
  have HP := Lib.hid (fun p w0 => prefix_any s p w0)
  go_enter Try.func55, Try.ntmps55
  go_wp2_with ((go_at_call 53; (with_reducible refine (HP.out _ _).mono ?_); rintro e w1 ⟨rfl, rfl⟩))
  go_ret
  exact ⟨rfl, rfl⟩
theorem ff_any (s : ByteArray) (w : World) : Calls Try.prog 56 #[.string s] w fun e w' => e = .returned (.bool (prefB s ⟨#[102, 97, 114, 98, 102, 101, 108, 100]⟩)) ∧ w' = w := by
  have HP := Lib.hid (fun p w0 => prefix_any s p w0)
  go_enter Try.func56, Try.ntmps56
  go_wp2_with ((go_at_call 53; (with_reducible refine (HP.out _ _).mono ?_); rintro e w1 ⟨rfl, rfl⟩))
  go_ret
  exact ⟨rfl, rfl⟩
def verB (b : Int) : Bool := decide (b ≤ 5) && b != 1
theorem version_any (b : Int) (w : World) : Calls Try.prog 91 #[.int .u8 b] w fun e w' => e = .returned (.bool (verB b)) ∧ w' = w := by
  go_enter Try.func91, Try.ntmps91
  go_wp2
  all_goals go_ret
  all_goals exact ⟨ret_b (by unfold verB; simp_all <;> omega), rfl⟩
end Go.Proofs.Ytlhcjnjajkfahaa

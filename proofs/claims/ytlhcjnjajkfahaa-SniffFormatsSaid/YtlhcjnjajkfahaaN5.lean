/- The reference of layer 30: Has, walked. -/
import Derived.Test.YtlhcjnjajkfahaaN4
import Derived.Test.YtlhcjnjajkfahaaT3
namespace Go.Proofs.Ytlhcjnjajkfahaa
open Go.RowKit
set_option linter.unusedVariables false
set_option linter.unusedSimpArgs false
def Has30 (s : ByteArray) (f : Int) (w : World) (e : Ending) (w' : World) : Prop := e = .returned (.bool (hasB s f)) ∧ Below w.heap.size w w'
set_option maxRecDepth 100000 in
theorem rhas_12 (s : ByteArray) (w : World) (hs : s.size ≤ 9223372036854775807) : (Calls Try.prog 25 #[.string s, .int .i64 1] w (Has30 s 1 w)) ∧ (Calls Try.prog 25 #[.string s, .int .i64 2] w (Has30 s 2 w)) ∧ (Calls Try.prog 25 #[.string s, .int .i64 5] w (Has30 s 5 w)) ∧ (Calls Try.prog 25 #[.string s, .int .i64 6] w (Has30 s 6 w)) ∧ (Calls Try.prog 25 #[.string s, .int .i64 8] w (Has30 s 8 w)) := by
  refine ⟨?_, ?_, ?_, ?_, ?_⟩
  · by_cases h : 2 ≤ s.size
    · have D : decide ((s.size : Int) ≥ 2) = true := by rw [decide_eq_true_iff]; omega
      have E := Lib.hid (show hasB s 1 = ((s.extract 0 2).toList == [66, 77]) by show prefB s _ = _; unfold prefB; rw [decide_eq_true (by exact h), show (⟨#[66, 77]⟩ : ByteArray).toList = [66, 77] by decide +kernel]; rfl)
      go_enter Try.func25, Try.ntmps25
      go_wp2_with fail
      go_ret
      exact ⟨ret_b E.out.symm, Below.refl _ _⟩
    · have D : decide ((s.size : Int) ≥ 2) = false := by rw [decide_eq_false_iff_not]; omega
      have E := Lib.hid (show hasB s 1 = false by show prefB s _ = _; unfold prefB; rw [decide_eq_false (by exact h)]; rfl)
      go_enter Try.func25, Try.ntmps25
      go_wp2_with fail
      go_ret
      exact ⟨ret_b E.out.symm, Below.refl _ _⟩
  · have HR := Lib.hid (fun w0 => ris_any s w0 hs)
    go_enter Try.func25, Try.ntmps25
    go_wp2_with ((go_at_call 61; (with_reducible refine (HR.out _).mono ?_); rintro e w1 ⟨rfl, hb⟩))
    go_ret
    exact ⟨rfl, hb⟩
  · by_cases h : 4 ≤ s.size
    · have D : decide ((s.size : Int) ≥ 4) = true := by rw [decide_eq_true_iff]; omega
      have E := Lib.hid (show hasB s 5 = ((s.extract 0 4).toList == [113, 111, 105, 102]) by show prefB s _ = _; unfold prefB; rw [decide_eq_true (by exact h), show (⟨#[113, 111, 105, 102]⟩ : ByteArray).toList = [113, 111, 105, 102] by decide +kernel]; rfl)
      go_enter Try.func25, Try.ntmps25
      go_wp2_with fail
      go_ret
      exact ⟨ret_b E.out.symm, Below.refl _ _⟩
    · have D : decide ((s.size : Int) ≥ 4) = false := by rw [decide_eq_false_iff_not]; omega
      have E := Lib.hid (show hasB s 5 = false by show prefB s _ = _; unfold prefB; rw [decide_eq_false (by exact h)]; rfl)
      go_enter Try.func25, Try.ntmps25
      go_wp2_with fail
      go_ret
      exact ⟨ret_b E.out.symm, Below.refl _ _⟩
  · by_cases h : 8 ≤ s.size
    · have D : decide ((s.size : Int) ≥ 8) = true := by rw [decide_eq_true_iff]; omega
      have E := Lib.hid (show hasB s 6 = ((s.extract 0 8).toList == [102, 97, 114, 98, 102, 101, 108, 100]) by show prefB s _ = _; unfold prefB; rw [decide_eq_true (by exact h), show (⟨#[102, 97, 114, 98, 102, 101, 108, 100]⟩ : ByteArray).toList = [102, 97, 114, 98, 102, 101, 108, 100] by decide +kernel]; rfl)
      go_enter Try.func25, Try.ntmps25
      go_wp2_with fail
      go_ret
      exact ⟨ret_b E.out.symm, Below.refl _ _⟩
    · have D : decide ((s.size : Int) ≥ 8) = false := by rw [decide_eq_false_iff_not]; omega
      have E := Lib.hid (show hasB s 6 = false by show prefB s _ = _; unfold prefB; rw [decide_eq_false (by exact h)]; rfl)
      go_enter Try.func25, Try.ntmps25
      go_wp2_with fail
      go_ret
      exact ⟨ret_b E.out.symm, Below.refl _ _⟩
  · by_cases h : 4 ≤ s.size
    · have D : decide ((s.size : Int) ≥ 4) = true := by rw [decide_eq_true_iff]; omega
      have E := Lib.hid (show hasB s 8 = ((s.extract 0 4).toList == [89, 166, 106, 149]) by show prefB s _ = _; unfold prefB; rw [decide_eq_true (by exact h), show (⟨#[89, 166, 106, 149]⟩ : ByteArray).toList = [89, 166, 106, 149] by decide +kernel]; rfl)
      go_enter Try.func25, Try.ntmps25
      go_wp2_with fail
      go_ret
      exact ⟨ret_b E.out.symm, Below.refl _ _⟩
    · have D : decide ((s.size : Int) ≥ 4) = false := by rw [decide_eq_false_iff_not]; omega
      have E := Lib.hid (show hasB s 8 = false by show prefB s _ = _; unfold prefB; rw [decide_eq_false (by exact h)]; rfl)
      go_enter Try.func25, Try.ntmps25
      go_wp2_with fail
      go_ret
      exact ⟨ret_b E.out.symm, Below.refl _ _⟩
end Go.Proofs.Ytlhcjnjajkfahaa

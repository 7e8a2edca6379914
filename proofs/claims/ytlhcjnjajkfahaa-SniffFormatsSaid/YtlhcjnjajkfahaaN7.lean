/- The reference of layer 30: Has of ICO and of what is no format, walked. -/
import Derived.Test.YtlhcjnjajkfahaaN6
namespace Go.Proofs.Ytlhcjnjajkfahaa
open Go.RowKit
set_option linter.unusedVariables false
set_option linter.unusedSimpArgs false
set_option maxRecDepth 100000 in
theorem rhas_4 (s : ByteArray) (w : World) : Calls Try.prog 25 #[.string s, .int .i64 4] w fun e w' => e = .returned (.bool (isIco s)) ∧ w' = w := by
  by_cases h : 10 ≤ s.size
  rotate_left
  · have D0 : decide ((s.size : Int) ≥ 10) = false := by rw [decide_eq_false_iff_not]; omega
    have E := Lib.hid (show isIco s = false by unfold isIco; rw [decide_eq_false h]; rfl)
    go_enter Try.func25, Try.ntmps25
    go_wp2_with fail
    go_ret
    exact ⟨ret_b E.out.symm, rfl⟩
  have D0 : decide ((s.size : Int) ≥ 10) = true := by rw [decide_eq_true_iff]; omega
  have i0 : 0 < s.size := by omega
  have i1 : 1 < s.size := by omega
  have i2 : 2 < s.size := by omega
  have i3 : 3 < s.size := by omega
  have i4 : 4 < s.size := by omega
  have i5 : 5 < s.size := by omega
  have i9 : 9 < s.size := by omega
  have E0 := isIco_eq s h
  have g0 := byN_get s 0 i0
  have g1 := byN_get s 1 i1
  have g2 := byN_get s 2 i2
  have g3 := byN_get s 3 i3
  have g4 := byN_get s 4 i4
  have g5 := byN_get s 5 i5
  have g9 := byN_get s 9 i9
  obtain ⟨x0, hx0⟩ : ∃ x, byN s 0 = x := ⟨_, rfl⟩
  obtain ⟨x1, hx1⟩ : ∃ x, byN s 1 = x := ⟨_, rfl⟩
  obtain ⟨x2, hx2⟩ : ∃ x, byN s 2 = x := ⟨_, rfl⟩
  obtain ⟨x3, hx3⟩ : ∃ x, byN s 3 = x := ⟨_, rfl⟩
  obtain ⟨x4, hx4⟩ : ∃ x, byN s 4 = x := ⟨_, rfl⟩
  obtain ⟨x5, hx5⟩ : ∃ x, byN s 5 = x := ⟨_, rfl⟩
  obtain ⟨x9, hx9⟩ : ∃ x, byN s 9 = x := ⟨_, rfl⟩
  rw [hx0] at g0; rw [hx1] at g1; rw [hx2] at g2; rw [hx3] at g3; rw [hx4] at g4; rw [hx5] at g5; rw [hx9] at g9
  rw [hx0, hx1, hx2, hx3, hx4, hx5, hx9] at E0
  obtain ⟨z0, e0⟩ : ∃ b, (x0 == 0) = b := ⟨_, rfl⟩
  obtain ⟨z1, e1⟩ : ∃ b, (x1 == 0) = b := ⟨_, rfl⟩
  obtain ⟨k1, e2⟩ : ∃ b, (x2 == 1) = b := ⟨_, rfl⟩
  obtain ⟨k2, e3⟩ : ∃ b, (x2 == 2) = b := ⟨_, rfl⟩
  obtain ⟨z3, e4⟩ : ∃ b, (x3 == 0) = b := ⟨_, rfl⟩
  obtain ⟨n4, e5⟩ : ∃ b, (x4 != 0) = b := ⟨_, rfl⟩
  obtain ⟨n5, e6⟩ : ∃ b, (x5 != 0) = b := ⟨_, rfl⟩
  obtain ⟨z9, e7⟩ : ∃ b, (x9 == 0) = b := ⟨_, rfl⟩
  rw [e0, e1, e2, e3, e4, e5, e6, e7] at E0
  have E := Lib.hid E0
  clear E0 hx0 hx1 hx2 hx3 hx4 hx5 hx9 h
  go_enter Try.func25, Try.ntmps25
  cases z0
  · go_wp2_with fail
    go_ret
    exact ⟨ret_b E.out.symm, rfl⟩
  cases z1
  · go_wp2_with fail
    go_ret
    exact ⟨ret_b E.out.symm, rfl⟩
  cases k1 <;> cases k2 <;> cases z3 <;> cases n4 <;> cases n5
  all_goals go_wp2_with fail
  all_goals go_ret
  all_goals exact ⟨ret_b E.out.symm, rfl⟩
set_option maxRecDepth 100000 in
theorem rhas_other (s : ByteArray) (f : Int) (w : World) (h1 : f ≠ 1) (h2 : f ≠ 2) (h3 : f ≠ 3) (h4 : f ≠ 4) (h5 : f ≠ 5) (h6 : f ≠ 6) (h7 : f ≠ 7) (h8 : f ≠ 8) : Calls Try.prog 25 #[.string s, .int .i64 f] w fun e w' => e = .returned (.bool false) ∧ w' = w := by
  have e1 : (f == 1) = false := by simpa using h1
  have e2 : (f == 2) = false := by simpa using h2
  have e3 : (f == 3) = false := by simpa using h3
  have e4 : (f == 4) = false := by simpa using h4
  have e5 : (f == 5) = false := by simpa using h5
  have e6 : (f == 6) = false := by simpa using h6
  have e7 : (f == 7) = false := by simpa using h7
  have e8 : (f == 8) = false := by simpa using h8
  clear h1 h2 h3 h4 h5 h6 h7 h8
  go_enter Try.func25, Try.ntmps25
  go_wp2_with fail
  go_ret
  exact ⟨rfl, rfl⟩
end Go.Proofs.Ytlhcjnjajkfahaa

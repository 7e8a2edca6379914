/- sniff: the signs of further formats, walked. -/
import Derived.Test.YtlhcjnjajkfahaaN0
namespace Go.Proofs.Ytlhcjnjajkfahaa
open Go.RowKit
set_option linter.unusedVariables false
set_option linter.unusedSimpArgs false
theorem sun_any (s : ByteArray) (w : World) : Calls Try.prog 57 #[.string s] w fun e w' => e = .returned (.bool (prefB s ⟨#[89, 166, 106, 149]⟩)) ∧ w' = w := by
  have HP := Lib.hid (fun p w0 => prefix_any s p w0)
  go_enter Try.func57, Try.ntmps57
  go_wp2_with ((go_at_call 53; (with_reducible refine (HP.out _ _).mono ?_); rintro e w1 ⟨rfl, rfl⟩))
  go_ret
  exact ⟨rfl, rfl⟩
def blankB (c : Int) : Bool := c == 32 || (decide (9 ≤ c) && decide (c ≤ 13))
theorem rblank_any (c : Int) (w : World) : Calls Try.prog 62 #[.int .u8 c] w fun e w' => e = .returned (.bool (blankB c)) ∧ w' = w := by
  go_enter Try.func62, Try.ntmps62
  by_cases h : c = 32
  · subst h; go_wp2; go_ret; exact ⟨rfl, rfl⟩
  have e1 : (c == 32) = false := by simpa using h
  by_cases h9 : 9 ≤ c
  · have e2 : decide (c ≥ 9) = true := by rw [decide_eq_true_iff]; exact h9
    have E := Lib.hid (show blankB c = decide (c ≤ 13) by unfold blankB; rw [e1, decide_eq_true h9]; rfl)
    go_wp2; go_ret
    exact ⟨ret_b E.out.symm, rfl⟩
  · have e2 : decide (c ≥ 9) = false := by rw [decide_eq_false_iff_not]; exact h9
    have E := Lib.hid (show blankB c = false by unfold blankB; rw [e1, decide_eq_false h9]; rfl)
    go_wp2; go_ret
    exact ⟨ret_b E.out.symm, rfl⟩
theorem blank_any (c : Int) (w : World) : Calls Try.prog 90 #[.int .i64 c] w fun e w' => e = .returned (.bool (blankB c)) ∧ w' = w := by
  go_enter Try.func90, Try.ntmps90
  by_cases h1 : c = 32
  · subst h1; go_wp2; go_ret; exact ⟨rfl, rfl⟩
  by_cases h2 : c = 9
  · subst h2; go_wp2; go_ret; exact ⟨rfl, rfl⟩
  by_cases h3 : c = 10
  · subst h3; go_wp2; go_ret; exact ⟨rfl, rfl⟩
  by_cases h4 : c = 11
  · subst h4; go_wp2; go_ret; exact ⟨rfl, rfl⟩
  by_cases h5 : c = 12
  · subst h5; go_wp2; go_ret; exact ⟨rfl, rfl⟩
  by_cases h6 : c = 13
  · subst h6; go_wp2; go_ret; exact ⟨rfl, rfl⟩
  have e1 : (c == 32) = false := by simpa using h1
  have e2 : (c == 9) = false := by simpa using h2
  have e3 : (c == 10) = false := by simpa using h3
  have e4 : (c == 11) = false := by simpa using h4
  have e5 : (c == 12) = false := by simpa using h5
  have e6 : (c == 13) = false := by simpa using h6
  have E := Lib.hid (show blankB c = false by unfold blankB; rw [e1]; simp; omega)
  go_wp2; go_ret
  exact ⟨ret_b E.out.symm, rfl⟩
theorem rversion_any (b : Int) (w : World) (h0 : 0 ≤ b) : Calls Try.prog 63 #[.int .u8 b] w fun e w' => e = .returned (.bool (verB b)) ∧ w' = w := by
  go_enter Try.func63, Try.ntmps63
  by_cases h1 : b = 0
  · subst h1; go_wp2; go_ret; exact ⟨rfl, rfl⟩
  by_cases h2 : b = 2
  · subst h2; go_wp2; go_ret; exact ⟨rfl, rfl⟩
  by_cases h3 : b = 3
  · subst h3; go_wp2; go_ret; exact ⟨rfl, rfl⟩
  by_cases h4 : b = 4
  · subst h4; go_wp2; go_ret; exact ⟨rfl, rfl⟩
  by_cases h5 : b = 5
  · subst h5; go_wp2; go_ret; exact ⟨rfl, rfl⟩
  have e1 : (b == 0) = false := by simpa using h1
  have e2 : (b == 2) = false := by simpa using h2
  have e3 : (b == 3) = false := by simpa using h3
  have e4 : (b == 4) = false := by simpa using h4
  have e5 : (b == 5) = false := by simpa using h5
  have E := Lib.hid (show verB b = false by unfold verB; simp; omega)
  go_wp2; go_ret
  exact ⟨ret_b E.out.symm, rfl⟩
def isPcx (s : ByteArray) : Bool := decide (4 ≤ s.size) && (byN s 0 == 10 && (verB (byN s 1) && (byN s 2 == 1 && (byN s 3 == 1 || byN s 3 == 8))))
set_option maxRecDepth 100000 in
theorem pcx_any (s : ByteArray) (w : World) : Calls Try.prog 58 #[.string s] w fun e w' => e = .returned (.bool (isPcx s)) ∧ w' = w := by
  by_cases h : 4 ≤ s.size
  rotate_left
  · have D0 : decide ((s.size : Int) ≥ 4) = false := by rw [decide_eq_false_iff_not]; omega
    have E := Lib.hid (show isPcx s = false by unfold isPcx; rw [decide_eq_false h]; rfl)
    go_enter Try.func58, Try.ntmps58
    go_wp2_with fail
    go_ret
    exact ⟨ret_b E.out.symm, rfl⟩
  have D0 : decide ((s.size : Int) ≥ 4) = true := by rw [decide_eq_true_iff]; omega
  have i0 : 0 < s.size := by omega
  have i1 : 1 < s.size := by omega
  have i2 : 2 < s.size := by omega
  have i3 : 3 < s.size := by omega
  have E0 : isPcx s = (byN s 0 == 10 && (verB (byN s 1) && (byN s 2 == 1 && (byN s 3 == 1 || byN s 3 == 8)))) := by unfold isPcx; rw [decide_eq_true h]; rfl
  obtain ⟨x0, hx0⟩ : ∃ x, byN s 0 = x := ⟨_, rfl⟩
  obtain ⟨x1, hx1⟩ : ∃ x, byN s 1 = x := ⟨_, rfl⟩
  obtain ⟨x2, hx2⟩ : ∃ x, byN s 2 = x := ⟨_, rfl⟩
  obtain ⟨x3, hx3⟩ : ∃ x, byN s 3 = x := ⟨_, rfl⟩
  have g0 : ((s[0]).toNat : Int) = x0 := by rw [← hx0]; exact byN_get s 0 i0
  have g1 : ((s[1]).toNat : Int) = x1 := by rw [← hx1]; exact byN_get s 1 i1
  have g2 : ((s[2]).toNat : Int) = x2 := by rw [← hx2]; exact byN_get s 2 i2
  have g3 : ((s[3]).toNat : Int) = x3 := by rw [← hx3]; exact byN_get s 3 i3
  rw [hx0, hx1, hx2, hx3] at E0
  have HV := Lib.hid (fun w0 => version_any x1 w0)
  obtain ⟨z0, e0⟩ : ∃ b, (x0 == 10) = b := ⟨_, rfl⟩
  obtain ⟨vb, ev⟩ : ∃ b, verB x1 = b := ⟨_, rfl⟩
  obtain ⟨z2, e2⟩ : ∃ b, (x2 == 1) = b := ⟨_, rfl⟩
  obtain ⟨z3, e3⟩ : ∃ b, (x3 == 1) = b := ⟨_, rfl⟩
  rw [e0, ev, e2, e3] at E0
  rw [ev] at HV
  have E := Lib.hid E0
  clear E0 hx0 hx1 hx2 hx3 ev h
  go_enter Try.func58, Try.ntmps58
  cases z0
  · go_wp2_with fail
    go_ret
    exact ⟨ret_b E.out.symm, rfl⟩
  cases vb
  · go_wp2_with ((go_at_call 91; (with_reducible refine (HV.out _).mono ?_); rintro e w1 ⟨rfl, rfl⟩))
    go_ret
    exact ⟨ret_b E.out.symm, rfl⟩
  cases z2
  · go_wp2_with ((go_at_call 91; (with_reducible refine (HV.out _).mono ?_); rintro e w1 ⟨rfl, rfl⟩))
    go_ret
    exact ⟨ret_b E.out.symm, rfl⟩
  cases z3
  · go_wp2_with ((go_at_call 91; (with_reducible refine (HV.out _).mono ?_); rintro e w1 ⟨rfl, rfl⟩))
    go_ret
    exact ⟨ret_b E.out.symm, rfl⟩
  · go_wp2_with ((go_at_call 91; (with_reducible refine (HV.out _).mono ?_); rintro e w1 ⟨rfl, rfl⟩))
    go_ret
    exact ⟨ret_b E.out.symm, rfl⟩
end Go.Proofs.Ytlhcjnjajkfahaa

/- The reference of layer 30: Has of PNM and PCX, walked. -/
import Derived.Test.YtlhcjnjajkfahaaN5
namespace Go.Proofs.Ytlhcjnjajkfahaa
open Go.RowKit
set_option linter.unusedVariables false
set_option linter.unusedSimpArgs false
set_option maxRecDepth 100000 in
theorem rhas_3 (s : ByteArray) (w : World) : Calls Try.prog 25 #[.string s, .int .i64 3] w fun e w' => e = .returned (.bool (isPnm s)) ∧ w' = w := by
  by_cases h : 2 < s.size
  rotate_left
  · have D0 : decide ((s.size : Int) > 2) = false := by rw [decide_eq_false_iff_not]; omega
    have E := Lib.hid (show isPnm s = false by unfold isPnm; rw [decide_eq_false h]; rfl)
    go_enter Try.func25, Try.ntmps25
    go_wp2_with fail
    go_ret
    exact ⟨ret_b E.out.symm, rfl⟩
  have D0 : decide ((s.size : Int) > 2) = true := by rw [decide_eq_true_iff]; omega
  have i0 : 0 < s.size := by omega
  have i1 : 1 < s.size := by omega
  have i2 : 2 < s.size := by omega
  have b2 := byN_bd s 2
  have E0 : isPnm s = (byN s 0 == 80 && (decide (49 ≤ byN s 1) && (decide (byN s 1 ≤ 54) && (blankB (byN s 2) || byN s 2 == 35)))) := by unfold isPnm; rw [decide_eq_true h]; rfl
  obtain ⟨x0, hx0⟩ : ∃ x, byN s 0 = x := ⟨_, rfl⟩
  obtain ⟨x1, hx1⟩ : ∃ x, byN s 1 = x := ⟨_, rfl⟩
  obtain ⟨x2, hx2⟩ : ∃ x, byN s 2 = x := ⟨_, rfl⟩
  have g0 : ((s[0]).toNat : Int) = x0 := by rw [← hx0]; exact byN_get s 0 i0
  have g1 : ((s[1]).toNat : Int) = x1 := by rw [← hx1]; exact byN_get s 1 i1
  have g2 : ((s[2]).toNat : Int) = x2 := by rw [← hx2]; exact byN_get s 2 i2
  rw [hx0, hx1, hx2] at E0
  rw [hx2] at b2
  have HV := Lib.hid (fun w0 => rblank_any x2 w0)
  have w2 : wrap64 x2 = x2 := IntWalk.wrap64_in x2 (by omega)
  obtain ⟨z0, e0⟩ : ∃ b, (x0 == 80) = b := ⟨_, rfl⟩
  obtain ⟨z1, e1⟩ : ∃ b, decide (49 ≤ x1) = b := ⟨_, rfl⟩
  obtain ⟨z2, e2⟩ : ∃ b, decide (x1 ≤ 54) = b := ⟨_, rfl⟩
  obtain ⟨bl, ev⟩ : ∃ b, blankB x2 = b := ⟨_, rfl⟩
  obtain ⟨z3, e3⟩ : ∃ b, (x2 == 35) = b := ⟨_, rfl⟩
  have e1' : decide (x1 ≥ 49) = z1 := e1
  rw [e0, e1, e2, ev, e3] at E0
  rw [ev] at HV
  have E := Lib.hid E0
  clear E0 hx0 hx1 hx2 ev h b2
  go_enter Try.func25, Try.ntmps25
  cases z0
  · go_wp2_with fail
    go_ret
    exact ⟨ret_b E.out.symm, rfl⟩
  cases z1
  · go_wp2_with fail
    go_ret
    exact ⟨ret_b E.out.symm, rfl⟩
  cases z2
  · go_wp2_with fail
    go_ret
    exact ⟨ret_b E.out.symm, rfl⟩
  cases bl
  · go_wp2_with ((go_at_call 62; (with_reducible refine (HV.out _).mono ?_); rintro e w1 ⟨rfl, rfl⟩))
    go_ret
    exact ⟨ret_b E.out.symm, rfl⟩
  · go_wp2_with ((go_at_call 62; (with_reducible refine (HV.out _).mono ?_); rintro e w1 ⟨rfl, rfl⟩))
    go_ret
    exact ⟨ret_b E.out.symm, rfl⟩
set_option maxRecDepth 100000 in
theorem rhas_7 (s : ByteArray) (w : World) : Calls Try.prog 25 #[.string s, .int .i64 7] w fun e w' => e = .returned (.bool (isPcx s)) ∧ w' = w := by
  by_cases h : 4 ≤ s.size
  rotate_left
  · have D0 : decide ((s.size : Int) ≥ 4) = false := by rw [decide_eq_false_iff_not]; omega
    have E := Lib.hid (show isPcx s = false by unfold isPcx; rw [decide_eq_false h]; rfl)
    go_enter Try.func25, Try.ntmps25
    go_wp2_with fail
    go_ret
    exact ⟨ret_b E.out.symm, rfl⟩
  have D0 : decide ((s.size : Int) ≥ 4) = true := by rw [decide_eq_true_iff]; omega
  have i0 : 0 < s.size := by omega
  have i1 : 1 < s.size := by omega
  have i2 : 2 < s.size := by omega
  have i3 : 3 < s.size := by omega
  have E0 : isPcx s = (byN s 0 == 10 && (verB (byN s 1) && (byN s 2 == 1 && (byN s 3 == 1 || byN s 3 == 8)))) := by unfold isPcx; rw [decide_eq_true h]; rfl
  obtain ⟨x0, hx0⟩ : ∃ x, byN s 0 = x := ⟨_, rfl⟩
  obtain ⟨x1, hx1⟩ : ∃ x, byN s 1 = x := ⟨_, rfl⟩
  obtain ⟨x2, hx2⟩ : ∃ x, byN s 2 = x := ⟨_, rfl⟩
  obtain ⟨x3, hx3⟩ : ∃ x, byN s 3 = x := ⟨_, rfl⟩
  have g0 : ((s[0]).toNat : Int) = x0 := by rw [← hx0]; exact byN_get s 0 i0
  have g1 : ((s[1]).toNat : Int) = x1 := by rw [← hx1]; exact byN_get s 1 i1
  have g2 : ((s[2]).toNat : Int) = x2 := by rw [← hx2]; exact byN_get s 2 i2
  have g3 : ((s[3]).toNat : Int) = x3 := by rw [← hx3]; exact byN_get s 3 i3
  rw [hx0, hx1, hx2, hx3] at E0
  have HV := Lib.hid (fun w0 => rversion_any x1 w0 (by rw [← hx1]; exact (byN_bd s 1).1))
  obtain ⟨z0, e0⟩ : ∃ b, (x0 == 10) = b := ⟨_, rfl⟩
  obtain ⟨vb, ev⟩ : ∃ b, verB x1 = b := ⟨_, rfl⟩
  obtain ⟨z2, e2⟩ : ∃ b, (x2 == 1) = b := ⟨_, rfl⟩
  obtain ⟨z3, e3⟩ : ∃ b, (x3 == 1) = b := ⟨_, rfl⟩
  rw [e0, ev, e2, e3] at E0
  rw [ev] at HV
  have E := Lib.hid E0
  clear E0 hx0 hx1 hx2 hx3 ev h
  go_enter Try.func25, Try.ntmps25
  cases z0
  · go_wp2_with fail
    go_ret
    exact ⟨ret_b E.out.symm, rfl⟩
  cases vb
  · go_wp2_with ((go_at_call 63; (with_reducible refine (HV.out _).mono ?_); rintro e w1 ⟨rfl, rfl⟩))
    go_ret
    exact ⟨ret_b E.out.symm, rfl⟩
  cases z2
  · go_wp2_with ((go_at_call 63; (with_reducible refine (HV.out _).mono ?_); rintro e w1 ⟨rfl, rfl⟩))
    go_ret
    exact ⟨ret_b E.out.symm, rfl⟩
  cases z3
  · go_wp2_with ((go_at_call 63; (with_reducible refine (HV.out _).mono ?_); rintro e w1 ⟨rfl, rfl⟩))
    go_ret
    exact ⟨ret_b E.out.symm, rfl⟩
  · go_wp2_with ((go_at_call 63; (with_reducible refine (HV.out _).mono ?_); rintro e w1 ⟨rfl, rfl⟩))
    go_ret
    exact ⟨ret_b E.out.symm, rfl⟩
end Go.Proofs.Ytlhcjnjajkfahaa

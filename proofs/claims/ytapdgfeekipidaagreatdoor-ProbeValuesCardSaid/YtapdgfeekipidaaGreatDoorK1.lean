/- sniff: the signs of further formats, walked. -/
import Derived.Test.YtapdgfeekipidaaGreatDoorK0
import Derived.Deep.AppendLies
import Derived.Deep.RegionLaw
import Derived.Deep.CutRange
import Derived.RangeFuncNested
import Derived.RangeFuncBound
import Derived.RangeFuncCalls
import Derived.RangeFuncLeaves
import Derived.RangeFuncBox
import Derived.Shelf.Abstract
import Derived.Shelf.RegionOpen
import Derived.WalkKit
import Derived.OwnWalkIn
import Derived.TacticsInMore
import Derived.LoopNIn
import Derived.LoopIn
import Derived.BigQuiet
import Derived.WalkMore
import Derived.Deep.CutBlock
import Derived.Maps.OwnSet
import Derived.Maps.Keyed
namespace Go.Proofs.YtapdgfeekipidaaGreatDoor
open Go.RowKit
set_option linter.unusedVariables false
set_option linter.unusedSimpArgs false
theorem sun_any (s : ByteArray) (w : World) : Calls Tryz.prog 58 #[.string s] w fun e w' => e = .returned (.bool (prefB s ⟨#[89, 166, 106, 149]⟩)) ∧ w' = w := by
  have HP := Hi (fun p w0 => prefix_any s p w0)
  go_enter Tryz.func58, Tryz.ntmps58
  go_wp2_with ((go_at_call 54; (with_reducible refine (HP.out _ _).mono ?_); rintro e w1 ⟨rfl, rfl⟩))
  go_ret
  exact ⟨rfl, rfl⟩
def blankB (c : Int) : Bool := c == 32 || (decide (9 ≤ c) && decide (c ≤ 13))
theorem blank_any (c : Int) (w : World) : Calls Tryz.prog 90 #[.int .i64 c] w fun e w' => e = .returned (.bool (blankB c)) ∧ w' = w := by
  go_enter Tryz.func90, Tryz.ntmps90
  by_cases h1 : c = 32
  · subst h1; go_wp2; go_ret; exact ⟨rfl, rfl⟩
  by_cases h2 : c = 9
  · subst h2; go_wp2; go_ret; exact ⟨rfl, rfl⟩
  by_cases h3 : c = 10
  · subst h3; go_wp2; go_ret; exact ⟨rfl, rfl⟩
  by_cases h4 : c = 11
  · subst h4; go_wp2; go_ret; exact ⟨rfl, rfl⟩
  by_cases h5 : c = 12
  · subst h5; go_wp2; go_ret; exact ⟨rfl, rfl⟩
  by_cases h6 : c = 13
  · subst h6; go_wp2; go_ret; exact ⟨rfl, rfl⟩
  have e1 : (c == 32) = false := by simpa using h1
  have e2 : (c == 9) = false := by simpa using h2
  have e3 : (c == 10) = false := by simpa using h3
  have e4 : (c == 11) = false := by simpa using h4
  have e5 : (c == 12) = false := by simpa using h5
  have e6 : (c == 13) = false := by simpa using h6
  have E := Hi (show blankB c = false by unfold blankB; rw [e1]; simp; omega)
  go_wp2; go_ret
  exact ⟨ret_b E.out.symm, rfl⟩
def isPcx (s : ByteArray) : Bool := decide (4 ≤ s.size) && (byN s 0 == 10 && (verB (byN s 1) && (byN s 2 == 1 && (byN s 3 == 1 || byN s 3 == 8))))
set_option maxRecDepth 100000 in
theorem pcx_any (s : ByteArray) (w : World) : Calls Tryz.prog 59 #[.string s] w fun e w' => e = .returned (.bool (isPcx s)) ∧ w' = w := by
  by_cases h : 4 ≤ s.size
  rotate_left
  · have D0 : decide ((s.size : Int) ≥ 4) = false := by rw [decide_eq_false_iff_not]; omega
    have E := Hi (show isPcx s = false by unfold isPcx; rw [decide_eq_false h]; rfl)
    go_enter Tryz.func59, Tryz.ntmps59
    go_wp2_with fail
    go_ret
    exact ⟨ret_b E.out.symm, rfl⟩
  have D0 : decide ((s.size : Int) ≥ 4) = true := by rw [decide_eq_true_iff]; omega
  have i0 : 0 < s.size := by omega
  have i1 : 1 < s.size := by omega
  have i2 : 2 < s.size := by omega
  have i3 : 3 < s.size := by omega
  have E0 : isPcx s = (byN s 0 == 10 && (verB (byN s 1) && (byN s 2 == 1 && (byN s 3 == 1 || byN s 3 == 8)))) := by unfold isPcx; rw [decide_eq_true h]; rfl
  obtain ⟨x0, hx0⟩ : ∃ x, byN s 0 = x := ⟨_, rfl⟩
  obtain ⟨x1, hx1⟩ : ∃ x, byN s 1 = x := ⟨_, rfl⟩
  obtain ⟨x2, hx2⟩ : ∃ x, byN s 2 = x := ⟨_, rfl⟩
  obtain ⟨x3, hx3⟩ : ∃ x, byN s 3 = x := ⟨_, rfl⟩
  have g0 : ((s[0]).toNat : Int) = x0 := by rw [← hx0]; exact byN_get s 0 i0
  have g1 : ((s[1]).toNat : Int) = x1 := by rw [← hx1]; exact byN_get s 1 i1
  have g2 : ((s[2]).toNat : Int) = x2 := by rw [← hx2]; exact byN_get s 2 i2
  have g3 : ((s[3]).toNat : Int) = x3 := by rw [← hx3]; exact byN_get s 3 i3
  rw [hx0, hx1, hx2, hx3] at E0
  have HV := Hi (fun w0 => version_any x1 w0)
  obtain ⟨z0, e0⟩ : ∃ b, (x0 == 10) = b := ⟨_, rfl⟩
  obtain ⟨vb, ev⟩ : ∃ b, verB x1 = b := ⟨_, rfl⟩
  obtain ⟨z2, e2⟩ : ∃ b, (x2 == 1) = b := ⟨_, rfl⟩
  obtain ⟨z3, e3⟩ : ∃ b, (x3 == 1) = b := ⟨_, rfl⟩
  rw [e0, ev, e2, e3] at E0
  rw [ev] at HV
  have E := Hi E0
  clear E0 hx0 hx1 hx2 hx3 ev h
  go_enter Tryz.func59, Tryz.ntmps59
  cases z0
  · go_wp2_with fail
    go_ret
    exact ⟨ret_b E.out.symm, rfl⟩
  cases vb
  · go_wp2_with ((go_at_call 91; (with_reducible refine (HV.out _).mono ?_); rintro e w1 ⟨rfl, rfl⟩))
    go_ret
    exact ⟨ret_b E.out.symm, rfl⟩
  cases z2
  · go_wp2_with ((go_at_call 91; (with_reducible refine (HV.out _).mono ?_); rintro e w1 ⟨rfl, rfl⟩))
    go_ret
    exact ⟨ret_b E.out.symm, rfl⟩
  cases z3
  · go_wp2_with ((go_at_call 91; (with_reducible refine (HV.out _).mono ?_); rintro e w1 ⟨rfl, rfl⟩))
    go_ret
    exact ⟨ret_b E.out.symm, rfl⟩
  · go_wp2_with ((go_at_call 91; (with_reducible refine (HV.out _).mono ?_); rintro e w1 ⟨rfl, rfl⟩))
    go_ret
    exact ⟨ret_b E.out.symm, rfl⟩
def isPnm (s : ByteArray) : Bool := decide (2 < s.size) && (byN s 0 == 80 && (decide (49 ≤ byN s 1) && (decide (byN s 1 ≤ 54) && (blankB (byN s 2) || byN s 2 == 35))))
set_option maxRecDepth 100000 in
theorem pnm_any (s : ByteArray) (w : World) : Calls Tryz.prog 55 #[.string s] w fun e w' => e = .returned (.bool (isPnm s)) ∧ w' = w := by
  by_cases h : 2 < s.size
  rotate_left
  · have D0 : decide ((s.size : Int) > 2) = false := by rw [decide_eq_false_iff_not]; omega
    have E := Hi (show isPnm s = false by unfold isPnm; rw [decide_eq_false h]; rfl)
    go_enter Tryz.func55, Tryz.ntmps55
    go_wp2_with fail
    go_ret
    exact ⟨ret_b E.out.symm, rfl⟩
  have D0 : decide ((s.size : Int) > 2) = true := by rw [decide_eq_true_iff]; omega
  have i0 : 0 < s.size := by omega
  have i1 : 1 < s.size := by omega
  have i2 : 2 < s.size := by omega
  have b2 := byN_bd s 2
  have E0 : isPnm s = (byN s 0 == 80 && (decide (49 ≤ byN s 1) && (decide (byN s 1 ≤ 54) && (blankB (byN s 2) || byN s 2 == 35)))) := by unfold isPnm; rw [decide_eq_true h]; rfl
  obtain ⟨x0, hx0⟩ : ∃ x, byN s 0 = x := ⟨_, rfl⟩
  obtain ⟨x1, hx1⟩ : ∃ x, byN s 1 = x := ⟨_, rfl⟩
  obtain ⟨x2, hx2⟩ : ∃ x, byN s 2 = x := ⟨_, rfl⟩
  have g0 : ((s[0]).toNat : Int) = x0 := by rw [← hx0]; exact byN_get s 0 i0
  have g1 : ((s[1]).toNat : Int) = x1 := by rw [← hx1]; exact byN_get s 1 i1
  have g2 : ((s[2]).toNat : Int) = x2 := by rw [← hx2]; exact byN_get s 2 i2
  rw [hx0, hx1, hx2] at E0
  rw [hx2] at b2
  have HV := Hi (fun w0 => blank_any x2 w0)
  have w2 : wrap64 x2 = x2 := IntWalk.wrap64_in x2 (by omega)
  obtain ⟨z0, e0⟩ : ∃ b, (x0 == 80) = b := ⟨_, rfl⟩
  obtain ⟨z1, e1⟩ : ∃ b, decide (49 ≤ x1) = b := ⟨_, rfl⟩
  obtain ⟨z2, e2⟩ : ∃ b, decide (x1 ≤ 54) = b := ⟨_, rfl⟩
  obtain ⟨bl, ev⟩ : ∃ b, blankB x2 = b := ⟨_, rfl⟩
  obtain ⟨z3, e3⟩ : ∃ b, (x2 == 35) = b := ⟨_, rfl⟩
  have e1' : decide (x1 ≥ 49) = z1 := e1
  rw [e0, e1, e2, ev, e3] at E0
  rw [ev] at HV
  have E := Hi E0
  clear E0 hx0 hx1 hx2 ev h b2
  go_enter Tryz.func55, Tryz.ntmps55
  cases z0
  · go_wp2_with fail
    go_ret
    exact ⟨ret_b E.out.symm, rfl⟩
  cases z1
  · go_wp2_with fail
    go_ret
    exact ⟨ret_b E.out.symm, rfl⟩
  cases z2
  · go_wp2_with fail
    go_ret
    exact ⟨ret_b E.out.symm, rfl⟩
  cases bl
  · go_wp2_with ((go_at_call 90; (with_reducible refine (HV.out _).mono ?_); rintro e w1 ⟨rfl, rfl⟩))
    go_ret
    exact ⟨ret_b E.out.symm, rfl⟩
  · go_wp2_with ((go_at_call 90; (with_reducible refine (HV.out _).mono ?_); rintro e w1 ⟨rfl, rfl⟩))
    go_ret
    exact ⟨ret_b E.out.symm, rfl⟩
def lowK (s : ByteArray) (a : Nat) : Nat → Int
  | 0 => 0
  | k + 1 => lowK s a k + byN s (a + k) * 2 ^ (8 * k)
theorem lowK_bd (s : ByteArray) (a k : Nat) : 0 ≤ lowK s a k ∧ lowK s a k < 2 ^ (8 * k) := by
  induction k with
  | zero => simp [lowK]
  | succ k ih =>
    have hb := byN_bd s (a + k)
    have hp := pow_pos' (8 * k)
    have h0 : 0 ≤ byN s (a + k) * 2 ^ (8 * k) := Int.mul_nonneg hb.1 (by omega)
    have h1 : byN s (a + k) * 2 ^ (8 * k) ≤ 255 * 2 ^ (8 * k) := Int.mul_le_mul_of_nonneg_right (by omega) (by omega)
    rw [pow8, lowK]; omega
theorem lowK_round (s : ByteArray) (a k : Nat) (h : k ≤ 3) : bits .or .i64 (lowK s a k) (wrap64 (wrap64 (byN s (a + k)) * 2 ^ (8 * k))) = lowK s a (k + 1) := by
  have hb := byN_bd s (a + k)
  have hl := lowK_bd s a k
  have hp := pow32 k h
  have h0 : 0 ≤ byN s (a + k) * 2 ^ (8 * k) := Int.mul_nonneg hb.1 (by omega)
  have h1 : byN s (a + k) * 2 ^ (8 * k) ≤ 255 * 2 ^ (8 * k) := Int.mul_le_mul_of_nonneg_right (by omega) (by omega)
  have h62 : (2 : Int) ^ 62 = 4611686018427387904 := by decide
  rw [IntWalk.wrap64_in (byN s (a + k)) (by omega), IntWalk.wrap64_in _ (by omega), or_low (8 * k) _ _ hl.1 hl.2 hb.1 (by omega)]
  rfl
set_option maxRecDepth 100000 in
theorem low_any (s : ByteArray) (a n : Nat) (w : World) (hn : n ≤ 4) (h : a + n ≤ s.size) (hs : s.size ≤ 9223372036854775807) : Calls Tryz.prog 92 #[.string s, .int .i64 a, .int .i64 n] w fun e w' => e = .returned (.int .i64 (lowK s a n)) ∧ w' = w := by
  go_enter Tryz.func92, Tryz.ntmps92
  go_wp2
  go_loop [7, 8, 10] (fun v j i => ∃ k : Nat, k ≤ n ∧ i = .int .i64 k ∧ v = .int .i64 (lowK s a k)) (fun _ _ i => n - (intOf i).toNat)
  case atStart => exact ⟨0, by omega, rfl, rfl⟩
  case round =>
    obtain ⟨k, hk, rfl, rfl⟩ := hrel
    by_cases hlt : k < n
    · have i3 : ((a : Int) + k).toNat = a + k := by omega
      have i4 : (0 : Int) ≤ (a : Int) + k := by omega
      have i5 : (a : Int) + k < s.size := by omega
      have i6 : a + k < s.size := by omega
      go_wp2
      go_round
      case rel => exact ⟨k + 1, by omega, by go_num, by rw [byN_get s (a + k) i6, lowK_round s a k (by omega)]⟩
      case measure => simp [intOf]; omega
    · have E := Hi (show lowK s a k = lowK s a n by rw [show k = n by omega])
      have hge : n ≤ k := by omega
      go_wp2
      go_ret
      exact ⟨ret_i E.out, rfl⟩
theorem low_at (s : ByteArray) (a n : Nat) (i k V : Int) (w : World) (hi : i = a) (hk : k = n) (hV : lowK s a n = V) (hn : n ≤ 4) (h : a + n ≤ s.size) (hs : s.size ≤ 9223372036854775807) : Calls Tryz.prog 92 #[.string s, .int .i64 i, .int .i64 k] w fun e w' => e = .returned (.int .i64 V) ∧ w' = w := by
  subst hi hk hV; exact low_any s a n w hn h hs
def isIco (s : ByteArray) : Bool := decide (10 ≤ s.size) && (lowK s 0 2 == 0 && (byN s 9 == 0 && ((lowK s 2 2 == 1 || lowK s 2 2 == 2) && decide (lowK s 4 2 > 0))))
set_option maxRecDepth 100000 in
theorem iis_any (s : ByteArray) (w : World) (hs : s.size ≤ 9223372036854775807) : Calls Tryz.prog 60 #[.string s] w fun e w' => e = .returned (.bool (isIco s)) ∧ w' = w := by
  by_cases h : s.size < 10
  · have D0 : decide ((s.size : Int) < 10) = true := by rw [decide_eq_true_iff]; omega
    have E := Hi (show isIco s = false by unfold isIco; rw [decide_eq_false (by omega)]; rfl)
    go_enter Tryz.func60, Tryz.ntmps60
    go_wp2
    go_ret
    exact ⟨ret_b E.out.symm, rfl⟩
  have D0 : decide ((s.size : Int) < 10) = false := by rw [decide_eq_false_iff_not]; omega
  obtain ⟨x0, hx0⟩ : ∃ x, lowK s 0 2 = x := ⟨_, rfl⟩
  obtain ⟨x2, hx2⟩ : ∃ x, lowK s 2 2 = x := ⟨_, rfl⟩
  obtain ⟨x4, hx4⟩ : ∃ x, lowK s 4 2 = x := ⟨_, rfl⟩
  obtain ⟨x9, hx9⟩ : ∃ x, byN s 9 = x := ⟨_, rfl⟩
  have HL0 := Hi (fun w0 => low_at s 0 2 0 2 x0 w0 rfl rfl hx0 (by omega) (by omega) hs)
  have HL2 := Hi (fun w0 => low_at s 2 2 2 2 x2 w0 rfl rfl hx2 (by omega) (by omega) hs)
  have HL4 := Hi (fun w0 => low_at s 4 2 4 2 x4 w0 rfl rfl hx4 (by omega) (by omega) hs)
  have i9 : 9 < s.size := by omega
  have g9 : ((s[9]).toNat : Int) = x9 := by rw [← hx9]; exact byN_get s 9 i9
  have E : isIco s = (x0 == 0 && (x9 == 0 && ((x2 == 1 || x2 == 2) && decide (x4 > 0)))) := by unfold isIco; rw [decide_eq_true (by omega : 10 ≤ s.size), hx0, hx2, hx4, hx9]; rfl
  obtain ⟨z0, e0⟩ : ∃ b, (x0 == 0) = b := ⟨_, rfl⟩
  obtain ⟨z9, e9⟩ : ∃ b, (x9 == 0) = b := ⟨_, rfl⟩
  obtain ⟨k1, e1⟩ : ∃ b, (x2 == 1) = b := ⟨_, rfl⟩
  obtain ⟨k2, e2⟩ : ∃ b, (x2 == 2) = b := ⟨_, rfl⟩
  have n0 : (x0 != 0) = !z0 := by rw [← e0]; rfl
  have n9 : (x9 != 0) = !z9 := by rw [← e9]; rfl
  rw [e0, e9, e1, e2] at E
  have E := Hi E
  clear hx0 hx2 hx4 hx9 h
  go_enter Tryz.func60, Tryz.ntmps60
  cases z0
  · go_wp2_with ((go_at_call 92; (with_reducible refine (HL0.out _).mono ?_); rintro e w1 ⟨rfl, rfl⟩))
    go_ret
    exact ⟨ret_b E.out.symm, rfl⟩
  cases z9
  · go_wp2_with ((go_at_call 92; (with_reducible refine (HL0.out _).mono ?_); rintro e w1 ⟨rfl, rfl⟩))
    go_ret
    exact ⟨ret_b E.out.symm, rfl⟩
  cases k1 <;> cases k2
  all_goals go_wp2_with (first | (go_at_call 92; (with_reducible refine (HL0.out _).mono ?_); rintro e w1 ⟨rfl, rfl⟩) | (go_at_call 92; (with_reducible refine (HL2.out _).mono ?_); rintro e w1 ⟨rfl, rfl⟩) | (go_at_call 92; (with_reducible refine (HL4.out _).mono ?_); rintro e w1 ⟨rfl, rfl⟩))
  all_goals go_ret
  all_goals exact ⟨ret_b E.out.symm, rfl⟩
def hasB (s : ByteArray) (f : Int) : Bool :=
  if f = 1 then prefB s ⟨#[66, 77]⟩ else if f = 2 then isTga s else if f = 3 then isPnm s else if f = 4 then isIco s else if f = 5 then prefB s ⟨#[113, 111, 105, 102]⟩ else
  if f = 6 then prefB s ⟨#[102, 97, 114, 98, 102, 101, 108, 100]⟩ else if f = 7 then isPcx s else if f = 8 then prefB s ⟨#[89, 166, 106, 149]⟩ else false
set_option maxRecDepth 100000 in
theorem has_any (s : ByteArray) (f : Int) (w : World) (hs : s.size ≤ 9223372036854775807) : Calls Tryz.prog 34 #[.string s, .int .i64 f] w fun e w' => e = .returned (.bool (hasB s f)) ∧ Below w.heap.size w w' := by
  have H1 := Hi (fun p w0 => prefix_any s p w0)
  have H2 := Hi (fun w0 => tis_any s w0 hs)
  have H3 := Hi (fun w0 => pnm_any s w0)
  have H4 := Hi (fun w0 => iis_any s w0 hs)
  have H5 := Hi (fun w0 => qoi_any s w0)
  have H6 := Hi (fun w0 => ff_any s w0)
  have H7 := Hi (fun w0 => pcx_any s w0)
  have H8 := Hi (fun w0 => sun_any s w0)
  go_enter Tryz.func34, Tryz.ntmps34
  by_cases h1 : f = 1
  · subst h1
    go_wp2_with ((go_at_call 54; (with_reducible refine (H1.out _ _).mono ?_); rintro e w1 ⟨rfl, rfl⟩))
    go_ret
    exact ⟨rfl, Below.refl _ _⟩
  by_cases h2 : f = 2
  · subst h2
    go_wp2_with ((go_at_call 61; (with_reducible refine (H2.out _).mono ?_); rintro e w1 ⟨rfl, hb⟩))
    go_ret
    exact ⟨rfl, hb⟩
  by_cases h3 : f = 3
  · subst h3
    go_wp2_with ((go_at_call 55; (with_reducible refine (H3.out _).mono ?_); rintro e w1 ⟨rfl, rfl⟩))
    go_ret
    exact ⟨rfl, Below.refl _ _⟩
  by_cases h4 : f = 4
  · subst h4
    go_wp2_with ((go_at_call 60; (with_reducible refine (H4.out _).mono ?_); rintro e w1 ⟨rfl, rfl⟩))
    go_ret
    exact ⟨rfl, Below.refl _ _⟩
  by_cases h5 : f = 5
  · subst h5
    go_wp2_with ((go_at_call 56; (with_reducible refine (H5.out _).mono ?_); rintro e w1 ⟨rfl, rfl⟩))
    go_ret
    exact ⟨rfl, Below.refl _ _⟩
  by_cases h6 : f = 6
  · subst h6
    go_wp2_with ((go_at_call 57; (with_reducible refine (H6.out _).mono ?_); rintro e w1 ⟨rfl, rfl⟩))
    go_ret
    exact ⟨rfl, Below.refl _ _⟩
  by_cases h7 : f = 7
  · subst h7
    go_wp2_with ((go_at_call 59; (with_reducible refine (H7.out _).mono ?_); rintro e w1 ⟨rfl, rfl⟩))
    go_ret
    exact ⟨rfl, Below.refl _ _⟩
  by_cases h8 : f = 8
  · subst h8
    go_wp2_with ((go_at_call 58; (with_reducible refine (H8.out _).mono ?_); rintro e w1 ⟨rfl, rfl⟩))
    go_ret
    exact ⟨rfl, Below.refl _ _⟩
  have e1 : (f == 1) = false := by simpa using h1
  have e2 : (f == 2) = false := by simpa using h2
  have e3 : (f == 3) = false := by simpa using h3
  have e4 : (f == 4) = false := by simpa using h4
  have e5 : (f == 5) = false := by simpa using h5
  have e6 : (f == 6) = false := by simpa using h6
  have e7 : (f == 7) = false := by simpa using h7
  have e8 : (f == 8) = false := by simpa using h8
  have E := Hi (show hasB s f = false by unfold hasB; rw [if_neg h1, if_neg h2, if_neg h3, if_neg h4, if_neg h5, if_neg h6, if_neg h7, if_neg h8])
  clear h1 h2 h3 h4 h5 h6 h7 h8
  go_wp2_with fail
  go_ret
  exact ⟨ret_b E.out.symm, Below.refl _ _⟩
end Go.Proofs.YtapdgfeekipidaaGreatDoor
namespace Go.Proofs.YtapdgfeekipidaaGreatDoor
open Go.RowKit
set_option linter.unusedVariables false
theorem app1k {P : Program} {ops : Array Oper} {rest : List Oper} {o : Oper} {a : Act} {Q : Exit → Act → World → Prop} (hgd : o.guard = none) (s x : Operand) (t : TypeId)
    (ho : o.op = .call { callee := .builtin .append, args := #[s, x], argTypes := #[t, t] })
    (base : Nat) (e : TypeId) (z : Value) (bytes : Nat) (ht : P.underlying t = some (.slice e)) (hi : (P.info? e).map (fun i => (i.zero, i.size, i.bytes)) = some (some z, 1, bytes)) (hz1 : z.cells.size = 1)
    (v : Value) (n : Nat) (xs : List Value) (hs : a.eval s = v) {wr : World} (hown : wr.ownsRow base e 1 v n xs) (X : Value) (hX : X.oneCell' = true) (T : TypeId)
    (hx : a.eval x = .slice (some ⟨wr.heap.size, 0, none⟩) 1 1) (hn : (n + 1) * bytes ≤ 140737488355328) (hn2 : n + 1 ≤ maxLen) (hbase : base ≤ wr.heap.size)
    (h : ∀ v' w', w'.ownsRow base e 1 v' (n + 1) (xs ++ [X]) → Chg (fun k => v.ownBlock = some k) wr w' → (∀ g, v'.ownBlock = some g → v.ownBlock = some g ∨ wr.heap.size ≤ g) → base ≤ w'.heap.size → wpList P ops Q rest (a.put o.dst v') w') :
    wpList P ops Q (o :: rest) a (wr.alloc (.cells #[X] T)) := by
  obtain ⟨i, i1, i2, i3, i4⟩ := info_parts hi
  have hz : wr.heap.size < (wr.alloc (.cells #[X] T)).heap.size := by simp
  refine wpList_append_lies (w := wr.alloc (.cells #[X] T)) hgd s x t ho base e i z 1 bytes ht i1 i2 i3 i4 hz1 (by decide) v n xs hs (hown.alloc _) ⟨wr.heap.size, 0, none⟩ 1 1 [X] hx rfl ?_ ?_ (by decide) hn2 hn (by omega) _ rfl ?_
  · intro j u hj
    match j, hj with
    | 0, hj => simp at hj; subst hj; simp [Addr.add, go_sem]
  · intro u hu; simp at hu; subst hu; exact hX
  · intro g cap w' hown' hgrow hat hlt
    have hc : Chg (fun k => v.ownBlock = some k) wr w' :=
      ((Chg.refl _ wr).alloc (.cells #[X] T)).trans ⟨hgrow.os, hgrow.tape, hgrow.output, hgrow.size, fun k hk hn => hgrow.block k hk (fun e => hn e.symm)⟩
    refine h _ w' hown' hc ?_ (Nat.le_trans hbase hc.size)
    intro g' hg'
    have : g = g' := by simpa [Value.ownBlock] using hg'
    subst this
    rcases hat with hat | hat
    · exact Or.inl hat
    · exact Or.inr (by rw [hat]; simp)
theorem Chg.after {S S' : Nat → Prop} {a b c : World} (h : Chg S a b) (k : Chg S' b c) (hS : ∀ n, n < a.heap.size → S' n → S n) : Chg S a c :=
  ⟨k.os.trans h.os, k.tape.trans h.tape, k.output.trans h.output, Nat.le_trans h.size k.size, fun n hn hs => (k.block n (Nat.lt_of_lt_of_le hn h.size) (fun h' => hs (hS n hn h'))).trans (h.block n hn hs)⟩
end Go.Proofs.YtapdgfeekipidaaGreatDoor
namespace Go.Proofs.YtapdgfeekipidaaGreatDoor
open Go.RowKit
set_option linter.unusedVariables false
set_option linter.unusedSimpArgs false
def allTo (s : ByteArray) : Nat → List Int
  | 0 => []
  | k + 1 => bif hasB s (ordL.getD k 0) then allTo s k ++ [ordL.getD k 0] else allTo s k
theorem allTo_len (s : ByteArray) (k : Nat) : (allTo s k).length ≤ k := by
  induction k with
  | zero => exact Nat.le_refl _
  | succ k ih => rw [allTo]; cases hasB s (ordL.getD k 0) <;> simp <;> omega
def firstOf : List Int → Int
  | [] => 0
  | x :: _ => x
set_option maxRecDepth 100000 in
theorem sall_any (s : ByteArray) (w : World) : Calls Tryz.prog 18 #[.string s] w (fun e w' => e = .returned (.func (.func 32) #[] #[.pointer (some ⟨w.heap.size, 0, none⟩)]) ∧ w' = w.alloc (.cells #[.string s] 9)) := by
  have hmf : ∀ (fn : Fn) (first cap : Array Value) (w : World), (Instr.makeFunc fn first cap).run Tryz.prog w = .ok (.func fn first cap) w := fun _ _ _ _ => rfl
  go_enter Tryz.func18, Tryz.ntmps18
  go_wp2
  go_ret
  exact ⟨rfl, rfl⟩
attribute [local go_sem] Oper.semAt_some
theorem allTo_pre (s : ByteArray) (k : Nat) : allTo s k <+: allTo s (k + 1) := by
  rw [show allTo s (k + 1) = bif hasB s (ordL.getD k 0) then allTo s k ++ [ordL.getD k 0] else allTo s k from rfl]
  cases hasB s (ordL.getD k 0)
  · exact List.prefix_refl _
  · exact List.prefix_append _ _
theorem allTo_mono (s : ByteArray) (j k : Nat) (h : j ≤ k) : allTo s j <+: allTo s k := by
  induction k with
  | zero => obtain rfl : j = 0 := by omega
            exact List.prefix_refl _
  | succ k ih =>
    by_cases e : j = k + 1
    · subst e; exact List.prefix_refl _
    · exact (ih (by omega)).trans (allTo_pre s k)
def KeepB (B : Nat) (W W' : World) : Prop := W'.heap[B]? = W.heap[B]? ∧ W.heap.size ≤ W'.heap.size
theorem keepB_t {B : Nat} {X Y Z : World} (h : KeepB B X Y) (k : KeepB B Y Z) : KeepB B X Z := ⟨k.1.trans h.1, Nat.le_trans h.2 k.2⟩
theorem keepB_b {B : Nat} {w : World} (hB : B < w.heap.size) (W : World) (l : Nat) (o o' : Obj) (hl : w.heap.size ≤ l) (h : W.heap[l]? = some o) (_ : o.isCells = false) (_ : o.isWalk = false) : KeepB B W (W.putObj l o') :=
  ⟨World.putObj_heap_other (by omega), (grownBy_putObj' W l o').size⟩
theorem below_grown {w w' : World} (h : Below w.heap.size w w') : w.grownBy w' none := ⟨h.os, h.tape, h.output, h.size, fun k hk _ => h.block k hk⟩
set_option maxRecDepth 100000 in
theorem ord_ix (k : Nat) (h : k < 8) (w : World) : (Instr.index 75 (.agg ordV.toArray) (.int .i64 k)).run Tryz.prog w = .ok (.int .i64 (ordL.getD k 0)) w := by
  rcases (show k = 0 ∨ k = 1 ∨ k = 2 ∨ k = 3 ∨ k = 4 ∨ k = 5 ∨ k = 6 ∨ k = 7 by omega) with rfl | rfl | rfl | rfl | rfl | rfl | rfl | rfl <;> kernel_rfl
set_option maxRecDepth 100000 in
set_option maxHeartbeats 4000000 in
theorem all1_in (s : ByteArray) (hs : s.size ≤ 9223372036854775807) (n : Nat) (l B : Nat) (J Jx : List Int → World → Prop) (W : World) (hBW : B < W.heap.size) (hJ : AbidesFrom W.heap.size J)
    (hY : ∀ pre x W, J pre W → pre.length < 8 → YieldAt Fence.wide (n - 1) Tryz.prog l #[.int .i64 x] W fun e W' =>
      (e = .returned (.bool true) ∧ J (pre ++ [x]) W' ∧ KeepB B W W') ∨ (e = .returned (.bool false) ∧ Jx (pre ++ [x]) W'))
    (hb : W.cell? ⟨B, 0, none⟩ = some (.string s)) (h0 : J [] W) :
    CallsIn Fence.wide n Tryz.prog 32 #[.func (.yield l) #[] #[], .pointer (some ⟨B, 0, none⟩)] W fun e W' => (∃ v, e = .returned v) ∧
      ((∃ ys, ys = allTo s 8 ∧ J ys W') ∨ (∃ pre, (pre <+: allTo s 8 ∧ pre ≠ []) ∧ Jx pre W')) := by
  have HO := Hi (fun w0 => callsIn_wide (n := n - 1).2 (order_any w0))
  have HH := Hi (fun f w0 => callsIn_wide (n := n - 1).2 (has_any s f w0 hs))
  refine callsIn_of_wp Tryz.func32 rfl trivial ?_ rfl
  simp only [Tryz.ntmps32, List.size_toArray, List.length_cons, List.length_nil, Nat.reduceAdd, Nat.reduceSub, Array.replicate_succ, Array.replicate_zero, List.push_toArray, List.append_toArray, List.nil_append, List.cons_append]
  gi_wp2_with (refine ⟨trivial, (fun h => absurd h (by decide)), ?_⟩; gi_at_call 33; refine (HO.out _).mono ?_; rintro e w1 ⟨rfl, hb1⟩)
  have hc1 : w1.cell? ⟨B, 0, none⟩ = some (.string s) := (hb1.cell (p := ⟨B, 0, none⟩) hBW).trans hb
  have J1 : J [] w1 := hJ [] W w1 none h0 (below_grown hb1) (fun r e => by cases e)
  have z1 : W.heap.size ≤ w1.heap.size := hb1.size
  clear hb1 hb h0
  gi_loopw [4, 6] (fun q4 c wr => ∃ k : Nat, k ≤ 8 ∧ c = .int .i64 k ∧ J (allTo s k) wr ∧ wr.cell? ⟨B, 0, none⟩ = some (.string s) ∧ B < wr.heap.size) (fun _ c _ => 8 - (intOf c).toNat)
  case atStart => exact ⟨0, by omega, rfl, J1, hc1, Nat.lt_of_lt_of_le hBW z1⟩
  case round =>
    obtain ⟨k, hk, rfl, hj, hc, hz⟩ := hrel
    by_cases hlt : k < 8
    rotate_left
    · have hge : 8 ≤ k := by omega
      obtain ⟨M, hM⟩ : ∃ M, allTo s k = M := ⟨_, rfl⟩
      have EM := Hi (show M = allTo s 8 by rw [← hM]; exact congrArg _ (by omega))
      rw [hM] at hj
      clear hM
      gi_wp2
      go_end0
      exact ⟨⟨_, rfl⟩, .inl ⟨M, EM.out, hj⟩⟩
    · have hge : ¬ 8 ≤ k := by omega
      have hln := allTo_len s k
      obtain ⟨f, hf⟩ : ∃ f, ordL.getD k 0 = f := ⟨_, rfl⟩
      obtain ⟨hb, hhb⟩ : ∃ b, hasB s f = b := ⟨_, rfl⟩
      have EA := Hi (show allTo s (k + 1) = bif hb then allTo s k ++ [f] else allTo s k by rw [allTo, hf, hhb])
      have HF := Hi (fun w0 => HH.out f w0)
      rw [hhb] at HF
      have ck := fun w0 => ord_ix k hlt w0
      rw [hf] at ck
      obtain ⟨P, hP⟩ : ∃ P, allTo s k = P := ⟨_, rfl⟩
      rw [hP] at EA hln hj
      have PX := Hi (allTo_mono s (k + 1) 8 (by omega))
      clear hf hhb hP
      cases hb
      · gi_wp2_with (refine ⟨trivial, (fun h => absurd h (by decide)), ?_⟩; gi_at_call 34; refine (HF.out _).mono ?_; rintro e w4 ⟨rfl, hb4⟩; have hj := hJ _ _ _ none hj (below_grown hb4) (fun r e => by cases e); have hc := (hb4.cell (p := ⟨B, 0, none⟩) hz).trans hc; have hz := Nat.lt_of_lt_of_le hz hb4.size; clear hb4)
        all_goals (try (refine ⟨fun _ h => (by cases h), ?_⟩))
        gi_wp2
        go_roundw
        case rel => exact ⟨k + 1, by omega, by go_num, by rw [EA.out]; exact hj, hc, hz⟩
        case measure => simp [intOf]; omega
      · gi_wp2_with (refine ⟨trivial, (fun h => absurd h (by decide)), ?_⟩; gi_at_call 34; refine (HF.out _).mono ?_; rintro e w4 ⟨rfl, hb4⟩; have hj := hJ _ _ _ none hj (below_grown hb4) (fun r e => by cases e); have hc := (hb4.cell (p := ⟨B, 0, none⟩) hz).trans hc; have hz := Nat.lt_of_lt_of_le hz hb4.size; clear hb4; obtain ⟨fn, tmps, assign, body, hy, hR⟩ := hY _ f w4 hj (by omega))
        refine ⟨fun h => absurd h (by decide), hR.mono ?_⟩
        rintro e W3 (⟨rfl, hJ3, hk3⟩ | ⟨rfl, hJx3⟩)
        · have hc3 := (World.cell?_of_block (a := ⟨B, 0, none⟩) hk3.1).trans hc
          gi_wp2
          go_roundw
          case rel => exact ⟨k + 1, by omega, by go_num, by rw [EA.out]; exact hJ3, hc3, Nat.lt_of_lt_of_le hz hk3.2⟩
          case measure => simp [intOf]; omega
        · gi_wp2
          refine bodyPost_ret (results_none rfl _ _ _) rfl ?_
          rw [EA.out] at PX
          exact ⟨⟨_, rfl⟩, .inr ⟨P ++ [f], ⟨PX.out, by simp⟩, hJx3⟩⟩
theorem all_stops (s : ByteArray) (hs : s.size ≤ 9223372036854775807) (n : Nat) (B : Nat) (w : World) (hB : B < w.heap.size) (hb : w.cell? ⟨B, 0, none⟩ = some (.string s)) :
    SeqStopsK Fence.wide n Tryz.prog 32 #[.pointer (some ⟨B, 0, none⟩)] (fun x : Int => #[Value.int .i64 x]) (KeepB B) (fun ys => ys = allTo s 8) (fun pre => pre <+: allTo s 8 ∧ pre ≠ []) 8 w := fun l J Jx W hW hJ hJx hY h0 =>
  all1_in s hs n l B J Jx W (Nat.lt_of_lt_of_le hB hW.size) hJ hY ((hW.cell (p := ⟨B, 0, none⟩) hB).trans hb) h0
def wordB (word : ByteArray) : ByteArray := word ++ ⟨#[32]⟩
def valL (word : ByteArray) : List ByteArray → ByteArray × Bool
  | [] => (ByteArray.empty, false)
  | l :: t => if l = word then (ByteArray.empty, true) else if prefB l (wordB word) = true then (l.extract (word.size + 1) l.size, true) else valL word t
theorem valL_snoc (word l : ByteArray) : ∀ A : List ByteArray, valL word (A ++ [l]) = if (valL word A).2 = true then valL word A else valL word [l]
  | [] => (if_neg (show ¬ ((valL word []).2 = true) from fun h => by cases h)).symm
  | a :: t => by
    rw [List.cons_append, valL, valL]
    by_cases h1 : a = word
    · rw [if_pos h1, if_pos h1, if_pos rfl]
    rw [if_neg h1, if_neg h1]
    by_cases h2 : prefB a (wordB word) = true
    · rw [if_pos h2, if_pos h2, if_pos rfl]
    rw [if_neg h2, if_neg h2]
    exact valL_snoc word l t
theorem valL_take (word : ByteArray) (L : List ByteArray) (k : Nat) (hk : k < L.length) : valL word (L.take (k + 1)) = if (valL word (L.take k)).2 = true then valL word (L.take k) else valL word [L.getD k ByteArray.empty] := by
  rw [List.take_add_one, List.getElem?_eq_getElem hk, Option.toList_some, valL_snoc, List.getD_eq_getElem?_getD, List.getElem?_eq_getElem hk, Option.getD_some]
theorem valL_drop (word : ByteArray) (L : List ByteArray) (k : Nat) (hk : k < L.length) : valL word (L.drop k) = if L.getD k ByteArray.empty = word then (ByteArray.empty, true) else if prefB (L.getD k ByteArray.empty) (wordB word) = true then ((L.getD k ByteArray.empty).extract (word.size + 1) (L.getD k ByteArray.empty).size, true) else valL word (L.drop (k + 1)) := by
  rw [List.drop_eq_getElem_cons hk, valL, List.getD_eq_getElem?_getD, List.getElem?_eq_getElem hk, Option.getD_some]
theorem ext0_list (l : ByteArray) (m : Nat) : (l.extract 0 m).toList = l.data.toList.take m := by
  rw [ByteArray.toList_eq, ByteArray.data_extract, Array.toList_extract, List.extract_eq_take_drop, List.drop_zero, Nat.sub_zero]
theorem wordB_list (word : ByteArray) : (wordB word).toList = word.toList ++ [32] := by
  rw [ByteArray.toList_eq, ByteArray.toList_eq]
  unfold wordB
  rw [ByteArray.data_append, Array.toList_append]
theorem wordB_size (word : ByteArray) : (wordB word).size = word.size + 1 := by unfold wordB; rw [ByteArray.size_append]; rfl
theorem pre_iff (l word : ByteArray) : prefB l (wordB word) = (decide (word.size < l.size) && (((l.extract 0 word.size).toList == word.toList) && (byN l word.size == 32))) := by
  unfold prefB
  rw [wordB_size, wordB_list, ext0_list, ext0_list]
  by_cases h : word.size < l.size
  · rw [decide_eq_true h, decide_eq_true (show word.size + 1 ≤ l.size from h), Bool.true_and, Bool.true_and]
    have hl : word.size < l.data.toList.length := by rw [Array.length_toList]; exact h
    rw [List.take_add_one, List.getElem?_eq_getElem hl, Option.toList_some]
    have hb : byN l word.size = ((l.data.toList[word.size]'hl).toNat : Int) := by
      unfold byN
      rw [List.getD_eq_getElem?_getD, List.getElem?_eq_getElem hl, Option.getD_some]
    rw [Bool.eq_iff_iff, Bool.and_eq_true, beq_iff_eq, beq_iff_eq, beq_iff_eq, hb]
    have hln : (l.data.toList.take word.size).length = word.toList.length := by
      rw [List.length_take, ByteArray.toList_eq, Nat.min_eq_left (Nat.le_of_lt hl), Array.length_toList]
      rfl
    constructor
    · intro e
      obtain ⟨e1, e2⟩ := List.append_inj e hln
      injection e2 with e2
      exact ⟨e1, by rw [e2]; rfl⟩
    · rintro ⟨e1, e2⟩
      rw [e1]
      congr 2
      have : (l.data.toList[word.size]'hl).toNat = 32 := by omega
      exact UInt8.toNat_inj.1 this
  · rw [decide_eq_false h, decide_eq_false (show ¬ word.size + 1 ≤ l.size from h), Bool.false_and, Bool.false_and]
theorem str_beq (a b : ByteArray) : (a.toList == b.toList) = decide (a = b) := by
  rw [Bool.eq_iff_iff, beq_iff_eq, decide_eq_true_iff]
  constructor
  · intro h
    rw [ByteArray.toList_eq, ByteArray.toList_eq] at h
    exact ByteArray.ext (Array.ext' h)
  · rintro rfl; rfl
theorem cut0_no (s p : ByteArray) (w : World) (h : prefB s p = false) : Calls Tryz.prog 15 #[.string s, .string p] w fun e w' => e = .returned (.tuple #[.string s, .bool false]) ∧ w' = w := by
  have HP := Hi (fun w0 => (prefix0_any s p w0).mono (R' := fun e w' => e = .returned (.bool false) ∧ w' = w0) fun e w' hh => by rw [h] at hh; exact hh)
  clear h
  go_enter Tryz.func15, Tryz.ntmps15
  go_wp2_with ((go_at_call 31; (with_reducible refine (HP.out _).mono ?_); rintro e w1 ⟨rfl, rfl⟩))
  go_ret2
  exact ⟨rfl, rfl⟩
theorem cut0_yes (s p : ByteArray) (w : World) (h : prefB s p = true) : Calls Tryz.prog 15 #[.string s, .string p] w fun e w' => e = .returned (.tuple #[.string (s.extract p.size s.size), .bool true]) ∧ w' = w := by
  have hle : p.size ≤ s.size := by
    unfold prefB at h
    rw [Bool.and_eq_true, decide_eq_true_iff] at h
    exact h.1
  have HP := Hi (fun w0 => (prefix0_any s p w0).mono (R' := fun e w' => e = .returned (.bool true) ∧ w' = w0) fun e w' hh => by rw [h] at hh; exact hh)
  clear h
  go_enter Tryz.func15, Tryz.ntmps15
  go_wp2_with ((go_at_call 31; (with_reducible refine (HP.out _).mono ?_); rintro e w1 ⟨rfl, rfl⟩))
  go_ret2
  exact ⟨rfl, rfl⟩
theorem cut_no (s p : ByteArray) (w : World) (h : prefB s p = false) : Calls Tryz.prog 7 #[.string s, .string p] w fun e w' => e = .returned (.tuple #[.string s, .bool false]) ∧ w' = w := by
  have HP := Hi (fun w0 => cut0_no s p w0 h)
  clear h
  go_enter Tryz.func7, Tryz.ntmps7
  go_wp2_with ((go_at_call 15; (with_reducible refine (HP.out _).mono ?_); rintro e w1 ⟨rfl, rfl⟩))
  go_ret2
  exact ⟨rfl, rfl⟩
theorem cut_yes (s p : ByteArray) (w : World) (h : prefB s p = true) : Calls Tryz.prog 7 #[.string s, .string p] w fun e w' => e = .returned (.tuple #[.string (s.extract p.size s.size), .bool true]) ∧ w' = w := by
  have HP := Hi (fun w0 => cut0_yes s p w0 h)
  clear h
  go_enter Tryz.func7, Tryz.ntmps7
  go_wp2_with ((go_at_call 15; (with_reducible refine (HP.out _).mono ?_); rintro e w1 ⟨rfl, rfl⟩))
  go_ret2
  exact ⟨rfl, rfl⟩
def StrAt (w : World) (B o : Nat) (L : List ByteArray) : Prop := ∀ i, i < L.length → w.cell? ⟨B, o + i, none⟩ = some (.string (L.getD i ByteArray.empty))
set_option maxRecDepth 100000 in
set_option maxHeartbeats 4000000 in
theorem value_some (L : List ByteArray) (B o n cap : Nat) (word : ByteArray) (w : World) (hn : n = L.length) (h99 : n ≤ 100) (hwz : word.size ≤ 100) (hR : StrAt w B o L) : Calls Tryz.prog 5 #[.slice (some ⟨B, o, none⟩) n cap, .string word] w fun e w' => e = .returned (.tuple #[.string (valL word L).1, .bool (valL word L).2]) ∧ w' = w := by
  have HR := Hi hR
  have HN := Hi hn
  obtain ⟨⟨rs, rb⟩, hRS⟩ : ∃ r, valL word L = r := ⟨_, rfl⟩
  have HRS := Hi hRS
  rw [hRS]
  clear hR hRS hn
  go_enter Tryz.func5, Tryz.ntmps5
  go_wp2_with fail
  go_loopw [7, 8, 9, 12] (fun q7 q8 q9 c wr => ∃ i : Nat, i ≤ n ∧ c = .int .i64 i ∧ valL word (L.drop i) = (rs, rb) ∧ wr = w) (fun _ _ _ c _ => n - (intOf c).toNat)
  case atStart => exact ⟨0, by omega, rfl, HRS.out, rfl⟩
  case round =>
    obtain ⟨i, hi, rfl, hf, rfl⟩ := hrel
    by_cases hlt : i < n
    rotate_left
    · have hge : n ≤ i := by omega
      have HE := Hi (show rs = ByteArray.empty ∧ rb = false by
        rw [List.drop_of_length_le (by rw [← HN.out]; exact hge)] at hf
        exact ⟨(congrArg Prod.fst hf).symm, (congrArg Prod.snd hf).symm⟩)
      clear hf
      go_wp2_with fail
      go_ret2
      exact ⟨by rw [HE.out.1, HE.out.2]; rfl, rfl⟩
    have hlt2 : i < L.length := by rw [← HN.out]; exact hlt
    obtain ⟨l, hl⟩ : ∃ l, L.getD i ByteArray.empty = l := ⟨_, rfl⟩
    have c0 : wr.cell? ⟨B, o + i, none⟩ = some (.string l) := by rw [← hl]; exact HR.out i hlt2
    rw [valL_drop word L i hlt2, hl] at hf
    by_cases hw : l = word
    · have sb : (l.toList == word.toList) = true := by rw [str_beq, decide_eq_true_iff]; exact hw
      have HE := Hi (show rs = ByteArray.empty ∧ rb = true by
        rw [if_pos hw] at hf
        exact ⟨(congrArg Prod.fst hf).symm, (congrArg Prod.snd hf).symm⟩)
      clear hf hw hl hlt2
      go_wp2_with fail
      go_ret2
      exact ⟨by rw [HE.out.1, HE.out.2]; rfl, rfl⟩
    have sb : (l.toList == word.toList) = false := by rw [str_beq, decide_eq_false_iff_not]; exact hw
    rw [if_neg hw] at hf
    cases hp : prefB l (wordB word) with
    | true =>
      have HC := Hi (fun w0 => show Calls Tryz.prog 7 #[.string l, .string (word ++ ⟨#[32]⟩)] w0 (fun e w' => e = .returned (.tuple #[.string rs, .bool true]) ∧ w' = w0) from (cut_yes l (wordB word) w0 hp).mono fun e w' hh => by
        rw [if_pos hp] at hf
        rw [wordB_size, show l.extract (word.size + 1) l.size = rs from congrArg Prod.fst hf] at hh
        exact hh)
      have HE := Hi (show rb = true by rw [if_pos hp] at hf; exact (congrArg Prod.snd hf).symm)
      clear hf hw hl hlt2 hp
      go_wp2_with ((go_at_call 7; (with_reducible refine (HC.out _).mono ?_); rintro e w1 ⟨rfl, rfl⟩))
      go_ret2
      exact ⟨by rw [HE.out]; rfl, rfl⟩
    | false =>
      have HC := Hi (fun w0 => show Calls Tryz.prog 7 #[.string l, .string (word ++ ⟨#[32]⟩)] w0 (fun e w' => e = .returned (.tuple #[.string l, .bool false]) ∧ w' = w0) from cut_no l (wordB word) w0 hp)
      have HF := Hi (show valL word (L.drop (i + 1)) = (rs, rb) by rw [if_neg (by rw [hp]; decide)] at hf; exact hf)
      clear hf hw hl hlt2 hp
      go_wp2_with ((go_at_call 7; (with_reducible refine (HC.out _).mono ?_); rintro e w1 ⟨rfl, rfl⟩))
      go_roundw
      case rel => exact ⟨i + 1, by omega, by go_num, HF.out, trivial⟩
      case measure => simp [intOf]; omega
theorem value_zero (a : Option Addr) (cap : Nat) (word : ByteArray) (w : World) : Calls Tryz.prog 5 #[.slice a 0 cap, .string word] w fun e w' => e = .returned (.tuple #[.string ByteArray.empty, .bool false]) ∧ w' = w := by
  go_enter Tryz.func5, Tryz.ntmps5
  go_wp2_with fail
  go_loopw [7, 8, 9, 12] (fun q7 q8 q9 c wr => c = .int .i64 0 ∧ wr = w) (fun _ _ _ c _ => 0)
  case atStart => exact ⟨rfl, rfl⟩
  case round =>
    obtain ⟨rfl, rfl⟩ := hrel
    go_wp2_with fail
    go_ret2
    exact ⟨rfl, rfl⟩
theorem small0 (w : World) : Calls Tryz.prog 73 #[.int .i64 0] w fun e w' => e = .returned (.string ⟨#[48]⟩) ∧ w' = w := by
  go_enter Tryz.func73, Tryz.ntmps73
  go_wp2
  go_ret
  exact ⟨by kernel_rfl, rfl⟩
theorem fint0 (w : World) : Calls Tryz.prog 45 #[.int .i64 0, .int .i64 10] w fun e w' => e = .returned (.string ⟨#[48]⟩) ∧ w' = w := by
  have HS := Hi (fun w0 => small0 w0)
  go_enter Tryz.func45, Tryz.ntmps45
  go_wp2_with ((go_at_call 73; (with_reducible refine (HS.out _).mono ?_); rintro e w1 ⟨rfl, rfl⟩))
  go_ret
  exact ⟨rfl, rfl⟩
theorem itoa0i (w : World) : Calls Tryz.prog 25 #[.int .i64 0] w fun e w' => e = .returned (.string ⟨#[48]⟩) ∧ w' = w := by
  have HS := Hi (fun w0 => fint0 w0)
  go_enter Tryz.func25, Tryz.ntmps25
  go_wp2_with ((go_at_call 45; (with_reducible refine (HS.out _).mono ?_); rintro e w1 ⟨rfl, rfl⟩))
  go_ret
  exact ⟨rfl, rfl⟩
theorem itoa0 (w : World) : Calls Tryz.prog 13 #[.int .i64 0] w fun e w' => e = .returned (.string ⟨#[48]⟩) ∧ w' = w := by
  have HS := Hi (fun w0 => itoa0i w0)
  go_enter Tryz.func13, Tryz.ntmps13
  go_wp2_with ((go_at_call 25; (with_reducible refine (HS.out _).mono ?_); rintro e w1 ⟨rfl, rfl⟩))
  go_ret
  exact ⟨rfl, rfl⟩
theorem kind3 (w : World) : Calls Tryz.prog 44 #[.int .i64 3] w fun e w' => e = .returned (.string ⟨#[117, 110, 115, 117, 112, 112, 111, 114, 116, 101, 100]⟩) ∧ w' = w := by
  go_enter Tryz.func44, Tryz.ntmps44
  go_wp2
  go_ret
  exact ⟨rfl, rfl⟩
theorem format0 (w : World) : Calls Tryz.prog 17 #[.int .i64 0] w fun e w' => e = .returned (.string ⟨#[117, 110, 107, 110, 111, 119, 110]⟩) ∧ w' = w := by
  go_enter Tryz.func17, Tryz.ntmps17
  go_wp2
  go_ret
  exact ⟨rfl, rfl⟩
set_option maxRecDepth 100000 in
theorem right3 (w : World) : Calls Tryz.prog 43 #[.agg #[.int .i64 3, .int .i64 0, .int .i64 0]] w fun e w' => e = .returned (.bool true) ∧ Below w.heap.size w w' := by
  have HK := Hi (fun w0 => kind3 w0)
  have HF := Hi (fun w0 => format0 w0)
  have O1 := Hi (obj1_new w #[.int .i64 3, .int .i64 0, .int .i64 0] 33)
  have BL := Hi ((Below.refl w.heap.size w).alloc (Nat.le_refl _) (.cells #[.int .i64 3, .int .i64 0, .int .i64 0] 33))
  go_enter Tryz.func43, Tryz.ntmps43
  go_upto_region 1 with (fail)
  generalize World.alloc _ _ = w1 at O1 BL ⊢
  have c0 := (O1.out.cell 0).trans (show _ = some (.int .i64 3) from rfl)
  have c1 := (O1.out.cell 1).trans (show _ = some (.int .i64 0) from rfl)
  have c2 := (O1.out.cell 2).trans (show _ = some (.int .i64 0) from rfl)
  go_wp2_with (first
    | ((go_at_call 44; (with_reducible refine (HK.out _).mono ?_); rintro e w2 ⟨rfl, rfl⟩))
    | ((go_at_call 17; (with_reducible refine (HF.out _).mono ?_); rintro e w3 ⟨rfl, rfl⟩)))
  go_ret
  exact ⟨rfl, BL.out⟩
set_option maxRecDepth 100000 in
theorem text3 (w : World) : Calls Tryz.prog 22 #[.agg #[.int .i64 3, .int .i64 0, .int .i64 0]] w fun e w' => e = .returned (.tuple #[.string ⟨#[117, 110, 115, 117, 112, 112, 111, 114, 116, 101, 100, 32, 117, 110, 107, 110, 111, 119, 110, 32, 48]⟩, .int .i64 0]) ∧ Below w.heap.size w w' := by
  have HK := Hi (fun w0 => kind3 w0)
  have HF := Hi (fun w0 => format0 w0)
  have HR := Hi (fun w0 => right3 w0)
  have HI := Hi (fun w0 => itoa0 w0)
  have O1 := Hi (obj1_new w #[.int .i64 3, .int .i64 0, .int .i64 0] 33)
  have BL := Hi ((Below.refl w.heap.size w).alloc (Nat.le_refl _) (.cells #[.int .i64 3, .int .i64 0, .int .i64 0] 33))
  go_enter Tryz.func22, Tryz.ntmps22
  go_upto_region 1 with (fail)
  generalize World.alloc _ _ = w1 at O1 BL ⊢
  go_upto_region 3 with (first
    | (refine load_u (by kernel_rfl) 33 3 _ rfl w.heap.size [.int .i64 3, .int .i64 0, .int .i64 0] rfl rfl O1.out Tryz.underlying33 rfl (by kernel_rfl) ?_; intro _)
    | ((go_at_call 43; (with_reducible refine (HR.out _).mono ?_); rintro e w2 ⟨rfl, hb⟩); have O1 := Hi (O1.out.below hb O1.out.lt); have BL := Hi (BL.out.trans (hb.mono BL.out.size)); clear hb))
  have c0 := (O1.out.cell 0).trans (show _ = some (.int .i64 3) from rfl)
  have c1 := (O1.out.cell 1).trans (show _ = some (.int .i64 0) from rfl)
  have c2 := (O1.out.cell 2).trans (show _ = some (.int .i64 0) from rfl)
  go_quiet (first | (go_at_call 44; exact Calls.quiet_of_same (HK.out _)) | (go_at_call 17; exact Calls.quiet_of_same (HF.out _)) | (go_at_call 13; exact Calls.quiet_of_same (HI.out _)))
  go_wp2
  go_ret2
  exact ⟨by kernel_rfl, bdrew BL.out _⟩
theorem wrong3 (w : World) : Calls Tryz.prog 11 #[.agg #[.int .i64 3, .int .i64 0, .int .i64 0]] w fun e w' => e = .returned (.string ⟨#[117, 110, 115, 117, 112, 112, 111, 114, 116, 101, 100, 32, 117, 110, 107, 110, 111, 119, 110, 32, 48]⟩) ∧ Below w.heap.size w w' := by
  have HT := Hi (fun w0 => text3 w0)
  have O1 := Hi (obj1_new w #[.int .i64 3, .int .i64 0, .int .i64 0] 33)
  have BL := Hi ((Below.refl w.heap.size w).alloc (Nat.le_refl _) (.cells #[.int .i64 3, .int .i64 0, .int .i64 0] 33))
  go_enter Tryz.func11, Tryz.ntmps11
  go_upto_region 1 with (fail)
  generalize World.alloc _ _ = w1 at O1 BL ⊢
  go_wp2_with (first
    | (refine load_u (by kernel_rfl) 33 3 _ rfl w.heap.size [.int .i64 3, .int .i64 0, .int .i64 0] rfl rfl O1.out Tryz.underlying33 rfl (by kernel_rfl) ?_; intro _)
    | ((go_at_call 22; (with_reducible refine (HT.out _).mono ?_); rintro e w2 ⟨rfl, hb⟩); have BL := Hi (BL.out.trans (hb.mono BL.out.size)); clear hb))
  go_ret
  exact ⟨rfl, BL.out⟩
theorem as_int (W : World) (v : Value) : (Instr.typeAssert (.iface 3 v) 20 3 true).run Tryz.prog W = .ok (.tuple #[v, .bool true]) W := by kernel_rfl
theorem as_str (W : World) (v : Value) : (Instr.typeAssert (.iface 9 v) 20 9 true).run Tryz.prog W = .ok (.tuple #[v, .bool true]) W := by kernel_rfl
theorem no_int0 (W : World) : (do pure (Value.tuple #[← zeroValue 3, .bool false]) : Sem Value).run Tryz.prog W = .ok (.tuple #[.int .i64 0, .bool false]) W := by kernel_rfl
theorem no_int (W : World) (v : Value) : (Instr.typeAssert (.iface 9 v) 20 3 true).run Tryz.prog W = .ok (.tuple #[.int .i64 0, .bool false]) W := by
  have e : (Instr.typeAssert (.iface 9 v) 20 3 true).run Tryz.prog W = (if (9 : Nat) = 3 then (pure (Value.tuple #[v, .bool true]) : Sem Value) else (do pure (Value.tuple #[← zeroValue 3, .bool false]))).run Tryz.prog W := by kernel_rfl
  rw [e, if_neg (by decide)]
  exact no_int0 W
set_option maxRecDepth 100000 in
set_option maxHeartbeats 4000000 in
theorem line_int (word : ByteArray) (B : Nat) (w : World) (hz : word.size ≤ 100) (hc : w.cell? ⟨B, 0, none⟩ = some (.iface 3 (.int .i64 0))) : Calls Tryz.prog 10 #[.string word, .slice (some ⟨B, 0, none⟩) 1 1] w fun e w' => e = .returned (.string (word ++ (⟨#[32]⟩ ++ ⟨#[48]⟩))) ∧ w' = w := by
  have HI := Hi (fun w0 => itoa0 w0)
  go_enter Tryz.func10, Tryz.ntmps10
  go_wp2_with fail
  go_loopw [5, 7, 8, 9, 13] (fun q5 q7 q8 q9 c wr => ((c = .int .i64 0 ∧ q5 = .string word) ∨ (c = .int .i64 1 ∧ q5 = .string (word ++ (⟨#[32]⟩ ++ ⟨#[48]⟩)))) ∧ wr = w) (fun _ _ _ _ c _ => 1 - (intOf c).toNat)
  case atStart => exact ⟨Or.inl ⟨rfl, rfl⟩, rfl⟩
  case round =>
    obtain ⟨⟨rfl, rfl⟩ | ⟨rfl, rfl⟩, rfl⟩ := hrel
    · have h1 := as_int wr (.int .i64 0)
      go_wp2_with ((go_at_call 13; (with_reducible refine (HI.out _).mono ?_); rintro e w1 ⟨rfl, rfl⟩))
      go_roundw
      case rel => exact ⟨Or.inr ⟨rfl, rfl⟩, trivial⟩
      case measure => simp [intOf]
    · clear hc
      go_wp2_with fail
      go_ret
      exact ⟨rfl, rfl⟩
set_option maxRecDepth 100000 in
set_option maxHeartbeats 4000000 in
theorem line_str (word : ByteArray) (s : ByteArray) (B : Nat) (w : World) (hz : word.size ≤ 100) (hs : s.size ≤ 100) (hc : w.cell? ⟨B, 0, none⟩ = some (.iface 9 (.string s))) : Calls Tryz.prog 10 #[.string word, .slice (some ⟨B, 0, none⟩) 1 1] w fun e w' => e = .returned (.string (word ++ (⟨#[32]⟩ ++ s))) ∧ w' = w := by
  have HI := Hi (fun w0 => itoa0 w0)
  go_enter Tryz.func10, Tryz.ntmps10
  go_wp2_with fail
  go_loopw [5, 7, 8, 9, 13] (fun q5 q7 q8 q9 c wr => ((c = .int .i64 0 ∧ q5 = .string word) ∨ (c = .int .i64 1 ∧ q5 = .string (word ++ (⟨#[32]⟩ ++ s)))) ∧ wr = w) (fun _ _ _ _ c _ => 1 - (intOf c).toNat)
  case atStart => exact ⟨Or.inl ⟨rfl, rfl⟩, rfl⟩
  case round =>
    obtain ⟨⟨rfl, rfl⟩ | ⟨rfl, rfl⟩, rfl⟩ := hrel
    · have h1 := no_int wr (.string s)
      have h2 := as_str wr (.string s)
      go_wp2_with (fail)
      go_roundw
      case rel => exact ⟨Or.inr ⟨rfl, rfl⟩, trivial⟩
      case measure => simp [intOf]
    · clear hc
      go_wp2_with fail
      go_ret
      exact ⟨rfl, rfl⟩
def tblankB (b : Int) : Bool := decide (b = 32 ∨ (9 ≤ b ∧ b ≤ 13))
def endB (b : Int) : Bool := decide (b = 10 ∨ b = 13)
def Sr.ftc (x : Sr) (l : Led) : Int × Int := if l.br = true then (4, x.p) else (1, x.e)
abbrev SL := Sr × Led
def overM : Nat → Sr → Led → Bool → SL × (Int × Int)
  | 0, x, l, _ => ((x, l), (0, 0))
  | f + 1, x, l, rm =>
    if (x.next l 1).2.2 = false then ((x.next l 1).1, if (x.next l 1).1.2.br = true then (x.next l 1).1.1.ftc (x.next l 1).1.2 else (0, 0))
    else if rm = true then overM f (x.next l 1).1.1 (x.next l 1).1.2 (!endB (byN x.s x.p))
    else if byN x.s x.p = 35 then overM f (x.next l 1).1.1 (x.next l 1).1.2 true
    else if tblankB (byN x.s x.p) = true then overM f (x.next l 1).1.1 (x.next l 1).1.2 false
    else ((x, (x.next l 1).1.2), (0, 0))
def Sr.fu (x : Sr) : Nat := x.e + 1 - x.p
def Sr.over (x : Sr) (l : Led) : SL × (Int × Int) := overM x.fu x l false
def Sr.first (x : Sr) (l : Led) : SL × ((Int × Int) × (Int × Int)) :=
  if (x.over l).2.1 ≠ 0 then ((x.over l).1, ((0, 0), (x.over l).2))
  else if ((x.over l).1.1.next (x.over l).1.2 1).2.2 = false then (((x.over l).1.1.next (x.over l).1.2 1).1, ((0, 0), ((x.over l).1.1.next (x.over l).1.2 1).1.1.ftc ((x.over l).1.1.next (x.over l).1.2 1).1.2))
  else (((x.over l).1.1.next (x.over l).1.2 1).1, ((byN x.s (x.over l).1.1.p, (x.over l).1.1.p), (0, 0)))
def Sr.one (x : Sr) (l : Led) : SL × (Int × Int) :=
  if (x.next l 1).2.2 = false then ((x.next l 1).1, (x.next l 1).1.1.ftc (x.next l 1).1.2)
  else if tblankB (byN x.s x.p) = false then ((x.next l 1).1, (2, x.p))
  else ((x.next l 1).1, (0, 0))
/-! ### a byte -/
theorem Pair.drN {w : World} {X : Nat} {x : Sr} {l : Led} (h : Pair w X x l) (n : Nat) : Pair (w.drewN n) X x l := ⟨h.src.drewN n, h.led.drewN n⟩
structure Rdr (d : Nat) (w : World) (X : Nat) (x y : Sr) (m : Led) : Prop where
  pr : Pair w X y m
  eL : y.L = x.L
  es : y.s = x.s
  eb : y.b = x.b
  ee : y.e = x.e
  lX : X < d
  lL : x.L < d
theorem Rdr.upon {d : Nat} {w w' : World} {X : Nat} {x y : Sr} {m : Led} (h : Rdr d w X x y m) (hb : Below w.heap.size w w') : Rdr d w' X x y m := ⟨h.pr.upon hb h.pr.src.lt h.pr.led.lt, h.eL, h.es, h.eb, h.ee, h.lX, h.lL⟩
theorem Rdr.into {d b o : Nat} {vs : List Value} {w w' : World} {X : Nat} {x y : Sr} {m : Led} (h : Rdr d w X x y m) (hst : Stored w b o vs w') (hb : d ≤ b) : Rdr d w' X x y m :=
  ⟨h.pr.into hst (by have := h.lX; omega) (by have := h.lL; have := h.eL; omega), h.eL, h.es, h.eb, h.ee, h.lX, h.lL⟩
theorem Rdr.alloc {d : Nat} {w : World} {X : Nat} {x y : Sr} {m : Led} (h : Rdr d w X x y m) (o : Obj) : Rdr d (w.alloc o) X x y m := ⟨h.pr.alloc o, h.eL, h.es, h.eb, h.ee, h.lX, h.lL⟩
theorem Rdr.drewN {d : Nat} {w : World} {X : Nat} {x y : Sr} {m : Led} (h : Rdr d w X x y m) (n : Nat) : Rdr d (w.drewN n) X x y m := ⟨h.pr.drN n, h.eL, h.es, h.eb, h.ee, h.lX, h.lL⟩
theorem Rdr.of {w : World} {X : Nat} {x : Sr} {m : Led} (h : Pair w X x m) : Rdr w.heap.size w X x x m := ⟨h, rfl, rfl, rfl, rfl, h.src.lt, h.led.lt⟩
theorem Rdr.to {d d' : Nat} {w w' : World} {X : Nat} {x y y' : Sr} {m m' : Led} (h : Rdr d' w' X x y' m') (k : Rdr d w X x y m) : Rdr d w' X x y' m' := ⟨h.pr, h.eL, h.es, h.eb, h.ee, k.lX, k.lL⟩
theorem Rdr.by {d : Nat} {w w' : World} {X : Nat} {x y : Sr} {m m' : Led} (h : Rdr d w X x y m) (p : Nat) (hp : Pair w' X { y with p := p } m') (hc : Chg (two X y) w w') : Rdr d w' X x { y with p := p } m' ∧ Chg (two X x) w w' :=
  ⟨⟨hp, h.eL, h.es, h.eb, h.ee, h.lX, h.lL⟩, hc.mono (fun k _ hk => hk.elim Or.inl fun hk => Or.inr (hk.trans h.eL))⟩
def Sr.kind (x : Sr) (l : Led) : SL × (Int × (Int × Int)) :=
  if (x.next l 1).2.2 = false then ((x.next l 1).1, (0, (x.next l 1).1.1.ftc (x.next l 1).1.2))
  else if byN x.s x.p ≠ 80 then ((x.next l 1).1, (0, (2, (x.p : Int))))
  else if ((x.next l 1).1.1.next (x.next l 1).1.2 1).2.2 = false then (((x.next l 1).1.1.next (x.next l 1).1.2 1).1, (0, ((x.next l 1).1.1.next (x.next l 1).1.2 1).1.1.ftc ((x.next l 1).1.1.next (x.next l 1).1.2 1).1.2))
  else if byN (x.next l 1).1.1.s (x.next l 1).1.1.p < 49 ∨ 54 < byN (x.next l 1).1.1.s (x.next l 1).1.1.p then (((x.next l 1).1.1.next (x.next l 1).1.2 1).1, (0, (2, ((x.next l 1).1.1.p : Int))))
  else (((x.next l 1).1.1.next (x.next l 1).1.2 1).1, (byN (x.next l 1).1.1.s (x.next l 1).1.1.p - 48, (0, 0)))
structure PH where
  k : Int
  W : Int
  H : Int
  M : Int
  A : Int
def ph5L (k W H M A : Int) : List Value := [.int .i64 k, .int .i64 W, .int .i64 H, .int .i64 M, .int .i64 A]
def PH.cells (h : PH) : List Value := ph5L h.k h.W h.H h.M h.A
end Go.Proofs.YtapdgfeekipidaaGreatDoor
namespace Go.Proofs.YtapdgfeekipidaaGreatDoor
open Go.RowKit Go.Maps
set_option linter.unusedVariables false
set_option linter.unusedSimpArgs false
def fnElem (v : Value) : Option (DataW Unit × List MemPlace) :=
  match v with
  | .func (.func n) a b => if a.size = 0 ∧ b.size = 0 then some (.lit (.int .i64 n), []) else none
  | .nilFunc => some (.lit (.int .i64 (-1)), [])
  | _ => none
def fnD (n : Nat) : DataW Unit := .lit (.int .i64 n)
def rdD : DataW Unit := ((((((((DataW.map []).put (.int .i64 1) (fnD 35)).put (.int .i64 2) (fnD 36)).put (.int .i64 3) (fnD 37)).put (.int .i64 4) (fnD 38)).put (.int .i64 5) (fnD 39)).put (.int .i64 6) (fnD 40)).put (.int .i64 7) (fnD 41)).put (.int .i64 8) (fnD 42)
theorem lawI : Keyed Tryz.prog 3 := int_keyed Tryz.underlying3
theorem zeroF (w : World) : (zeroValue 47).run Tryz.prog w = .ok .nilFunc w := by kernel_rfl
set_option maxRecDepth 100000 in
set_option maxHeartbeats 4000000 in
theorem readers_any (w : World) : Calls Tryz.prog 19 #[] w fun e w' => e = .returned (.map (some w.heap.size)) ∧ w'.ownsMap Tryz.prog 3 fnElem w.heap.size 8 rdD ∧ Below w.heap.size w w' := by
  have hmm := @run_makeMap Tryz.prog
  have o0 := World.ownsMap_made w Tryz.prog 3 fnElem
  have B0 := (Below.refl w.heap.size w).alloc (Nat.le_refl _) (.map #[] 0)
  obtain ⟨w1, r1, o1, g1⟩ := o0.update (t := 49) (key := .int .i64 1) (val := .func (.func 35) #[] #[]) lawI Tryz.underlying49 (by unfold maxLen; omega) (keyOf_int_mk Tryz.underlying3 (by decide)) (show fnElem _ = some (fnD 35, []) from rfl)
  have B1 := B0.grown g1 (B0.size) (fun j hj => by cases hj; exact Nat.le_refl _)
  obtain ⟨w2, r2, o2, g2⟩ := o1.update (t := 49) (key := .int .i64 2) (val := .func (.func 36) #[] #[]) lawI Tryz.underlying49 (by unfold maxLen; omega) (keyOf_int_mk Tryz.underlying3 (by decide)) (show fnElem _ = some (fnD 36, []) from rfl)
  have B2 := B1.grown g2 (B1.size) (fun j hj => by cases hj; exact Nat.le_refl _)
  obtain ⟨w3, r3, o3, g3⟩ := o2.update (t := 49) (key := .int .i64 3) (val := .func (.func 37) #[] #[]) lawI Tryz.underlying49 (by unfold maxLen; omega) (keyOf_int_mk Tryz.underlying3 (by decide)) (show fnElem _ = some (fnD 37, []) from rfl)
  have B3 := B2.grown g3 (B2.size) (fun j hj => by cases hj; exact Nat.le_refl _)
  obtain ⟨w4, r4, o4, g4⟩ := o3.update (t := 49) (key := .int .i64 4) (val := .func (.func 38) #[] #[]) lawI Tryz.underlying49 (by unfold maxLen; omega) (keyOf_int_mk Tryz.underlying3 (by decide)) (show fnElem _ = some (fnD 38, []) from rfl)
  have B4 := B3.grown g4 (B3.size) (fun j hj => by cases hj; exact Nat.le_refl _)
  obtain ⟨w5, r5, o5, g5⟩ := o4.update (t := 49) (key := .int .i64 5) (val := .func (.func 39) #[] #[]) lawI Tryz.underlying49 (by unfold maxLen; omega) (keyOf_int_mk Tryz.underlying3 (by decide)) (show fnElem _ = some (fnD 39, []) from rfl)
  have B5 := B4.grown g5 (B4.size) (fun j hj => by cases hj; exact Nat.le_refl _)
  obtain ⟨w6, r6, o6, g6⟩ := o5.update (t := 49) (key := .int .i64 6) (val := .func (.func 40) #[] #[]) lawI Tryz.underlying49 (by unfold maxLen; omega) (keyOf_int_mk Tryz.underlying3 (by decide)) (show fnElem _ = some (fnD 40, []) from rfl)
  have B6 := B5.grown g6 (B5.size) (fun j hj => by cases hj; exact Nat.le_refl _)
  obtain ⟨w7, r7, o7, g7⟩ := o6.update (t := 49) (key := .int .i64 7) (val := .func (.func 41) #[] #[]) lawI Tryz.underlying49 (by unfold maxLen; omega) (keyOf_int_mk Tryz.underlying3 (by decide)) (show fnElem _ = some (fnD 41, []) from rfl)
  have B7 := B6.grown g7 (B6.size) (fun j hj => by cases hj; exact Nat.le_refl _)
  obtain ⟨w8, r8, o8, g8⟩ := o7.update (t := 49) (key := .int .i64 8) (val := .func (.func 42) #[] #[]) lawI Tryz.underlying49 (by unfold maxLen; omega) (keyOf_int_mk Tryz.underlying3 (by decide)) (show fnElem _ = some (fnD 42, []) from rfl)
  have B8 := B7.grown g8 (B7.size) (fun j hj => by cases hj; exact Nat.le_refl _)
  have HO := Hi o8
  have BL := Hi B8
  clear o0 o1 o2 o3 o4 o5 o6 o7 o8 g1 g2 g3 g4 g5 g6 g7 g8
  go_enter Tryz.func19, Tryz.ntmps19
  go_wp2
  go_ret
  exact ⟨rfl, HO.out, BL.out⟩
end Go.Proofs.YtapdgfeekipidaaGreatDoor

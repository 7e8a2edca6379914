/- sniff: prefixes and signs, walked. -/
import Derived.Test.YtcjjfnghgajefaaGreatK1
import Derived.Test.YtcjjfnghgajefaaGreatK0
import Derived.Deep.AppendLies
import Derived.Deep.RegionLaw
import Derived.Deep.CutRange
import Derived.RangeFuncNested
import Derived.RangeFuncBound
import Derived.RangeFuncCalls
import Derived.RangeFuncLeaves
import Derived.RangeFuncBox
import Derived.Shelf.Abstract
import Derived.Shelf.RegionOpen
import Derived.WalkKit
import Derived.OwnWalkIn
import Derived.TacticsInMore
import Derived.LoopNIn
import Derived.LoopIn
import Derived.Test.YtcjjfnghgajefaaGreatK10
namespace Go.Proofs.YtcjjfnghgajefaaGreat
open Go.RowKit
set_option linter.unusedVariables false
set_option linter.unusedSimpArgs false
def prefB (s p : ByteArray) : Bool := decide (p.size ≤ s.size) && ((s.extract 0 p.size).toList == p.toList)
theorem prefix0_any (s p : ByteArray) (w : World) : Calls Tryz.prog 78 #[.string s, .string p] w fun e w' => e = .returned (.bool (prefB s p)) ∧ w' = w := by
  by_cases h : p.size ≤ s.size
  · have D : decide ((s.size : Int) ≥ (p.size : Int)) = true := by rw [decide_eq_true_iff]; omega
    have E := Hi (show prefB s p = ((s.extract 0 p.size).toList == p.toList) by unfold prefB; rw [decide_eq_true h]; rfl)
    go_enter Tryz.func78, Tryz.ntmps78
    go_wp2_with fail
    go_ret
    exact ⟨ret_b E.out.symm, rfl⟩
  · have D : decide ((s.size : Int) ≥ (p.size : Int)) = false := by rw [decide_eq_false_iff_not]; omega
    have E := Hi (show prefB s p = false by unfold prefB; rw [decide_eq_false h]; rfl)
    go_enter Tryz.func78, Tryz.ntmps78
    go_wp2_with fail
    go_ret
    exact ⟨ret_b E.out.symm, rfl⟩
theorem prefix_any (s p : ByteArray) (w : World) : Calls Tryz.prog 40 #[.string s, .string p] w fun e w' => e = .returned (.bool (prefB s p)) ∧ w' = w := by
  have HP := Hi (fun w0 => prefix0_any s p w0)
  go_enter Tryz.func40, Tryz.ntmps40
  go_wp2_with ((go_at_call 78; (with_reducible refine (HP.out _).mono ?_); rintro e w1 ⟨rfl, rfl⟩))
  go_ret
  exact ⟨rfl, rfl⟩
theorem qoi_any (s : ByteArray) (w : World) : Calls Tryz.prog 42 #[.string s] w fun e w' => e = .returned (.bool (prefB s ⟨#[113, 111, 105, 102]⟩)) ∧ w' = w := by
  have HP := Hi (fun p w0 => prefix_any s p w0)
  go_enter Tryz.func42, Tryz.ntmps42
  go_wp2_with ((go_at_call 40; (with_reducible refine (HP.out _ _).mono ?_); rintro e w1 ⟨rfl, rfl⟩))
  go_ret
  exact ⟨rfl, rfl⟩
theorem ff_any (s : ByteArray) (w : World) : Calls Tryz.prog 43 #[.string s] w fun e w' => e = .returned (.bool (prefB s ⟨#[102, 97, 114, 98, 102, 101, 108, 100]⟩)) ∧ w' = w := by
  have HP := Hi (fun p w0 => prefix_any s p w0)
  go_enter Tryz.func43, Tryz.ntmps43
  go_wp2_with ((go_at_call 40; (with_reducible refine (HP.out _ _).mono ?_); rintro e w1 ⟨rfl, rfl⟩))
  go_ret
  exact ⟨rfl, rfl⟩
def verB (b : Int) : Bool := decide (b ≤ 5) && b != 1
theorem version_any (b : Int) (w : World) : Calls Tryz.prog 80 #[.int .u8 b] w fun e w' => e = .returned (.bool (verB b)) ∧ w' = w := by
  go_enter Tryz.func80, Tryz.ntmps80
  go_wp2
  all_goals go_ret
  all_goals exact ⟨ret_b (by unfold verB; simp_all <;> omega), rfl⟩
def ordL : List Int := [1, 3, 5, 6, 8, 7, 4, 2]
def ordV : List Value := [.int .i64 1, .int .i64 3, .int .i64 5, .int .i64 6, .int .i64 8, .int .i64 7, .int .i64 4, .int .i64 2]
set_option maxRecDepth 100000 in
set_option maxHeartbeats 4000000 in
theorem order_any (w : World) : Calls Tryz.prog 27 #[] w (RA w ordV) := by
  have O0 := Hi (obj1_new w #[.int .i64 0, .int .i64 0, .int .i64 0, .int .i64 0, .int .i64 0, .int .i64 0, .int .i64 0, .int .i64 0] 76)
  have B0 := Hi ((Below.refl w.heap.size w).alloc (Nat.le_refl _) (.cells #[.int .i64 0, .int .i64 0, .int .i64 0, .int .i64 0, .int .i64 0, .int .i64 0, .int .i64 0, .int .i64 0] 76))
  go_enter Tryz.func27, Tryz.ntmps27
  go_wp2_with (refine store_o rfl 76 8 _ _ rfl w.heap.size ordV rfl rfl (by kernel_rfl) (by kernel_rfl) (by kernel_rfl) O0.out (by first | rfl | simp) ?_; intro w3 hst hO; have HO := Hi hO; have B9 := Hi (hst.below B0.out (Nat.le_refl _)); clear hst hO; refine gen_frame 0 (.pointer (some ⟨w.heap.size, 0, none⟩)) (by kernel_rfl) (by kernel_rfl) ?_; intro A hA hAd)
  refine bodyPost_ret (v := .agg (List.toArray ordV)) ?_ hAd ⟨rfl, B9.out⟩
  exact results_c Tryz.results27 _ _ _ ordV _ hA HO.out.range0 Tryz.underlying76 rfl (by kernel_rfl)
theorem sun_any (s : ByteArray) (w : World) : Calls Tryz.prog 44 #[.string s] w fun e w' => e = .returned (.bool (prefB s ⟨#[89, 166, 106, 149]⟩)) ∧ w' = w := by
  have HP := Hi (fun p w0 => prefix_any s p w0)
  go_enter Tryz.func44, Tryz.ntmps44
  go_wp2_with ((go_at_call 40; (with_reducible refine (HP.out _ _).mono ?_); rintro e w1 ⟨rfl, rfl⟩))
  go_ret
  exact ⟨rfl, rfl⟩
def blankB (c : Int) : Bool := c == 32 || (decide (9 ≤ c) && decide (c ≤ 13))
theorem blank_any (c : Int) (w : World) : Calls Tryz.prog 79 #[.int .i64 c] w fun e w' => e = .returned (.bool (blankB c)) ∧ w' = w := by
  go_enter Tryz.func79, Tryz.ntmps79
  by_cases h1 : c = 32
  · subst h1; go_wp2; go_ret; exact ⟨rfl, rfl⟩
  by_cases h2 : c = 9
  · subst h2; go_wp2; go_ret; exact ⟨rfl, rfl⟩
  by_cases h3 : c = 10
  · subst h3; go_wp2; go_ret; exact ⟨rfl, rfl⟩
  by_cases h4 : c = 11
  · subst h4; go_wp2; go_ret; exact ⟨rfl, rfl⟩
  by_cases h5 : c = 12
  · subst h5; go_wp2; go_ret; exact ⟨rfl, rfl⟩
  by_cases h6 : c = 13
  · subst h6; go_wp2; go_ret; exact ⟨rfl, rfl⟩
  have e1 : (c == 32) = false := by simpa using h1
  have e2 : (c == 9) = false := by simpa using h2
  have e3 : (c == 10) = false := by simpa using h3
  have e4 : (c == 11) = false := by simpa using h4
  have e5 : (c == 12) = false := by simpa using h5
  have e6 : (c == 13) = false := by simpa using h6
  have E := Hi (show blankB c = false by unfold blankB; rw [e1]; simp; omega)
  go_wp2; go_ret
  exact ⟨ret_b E.out.symm, rfl⟩
def isPcx (s : ByteArray) : Bool := decide (4 ≤ s.size) && (byN s 0 == 10 && (verB (byN s 1) && (byN s 2 == 1 && (byN s 3 == 1 || byN s 3 == 8))))
set_option maxRecDepth 100000 in
theorem pcx_any (s : ByteArray) (w : World) : Calls Tryz.prog 45 #[.string s] w fun e w' => e = .returned (.bool (isPcx s)) ∧ w' = w := by
  by_cases h : 4 ≤ s.size
  rotate_left
  · have D0 : decide ((s.size : Int) ≥ 4) = false := by rw [decide_eq_false_iff_not]; omega
    have E := Hi (show isPcx s = false by unfold isPcx; rw [decide_eq_false h]; rfl)
    go_enter Tryz.func45, Tryz.ntmps45
    go_wp2_with fail
    go_ret
    exact ⟨ret_b E.out.symm, rfl⟩
  have D0 : decide ((s.size : Int) ≥ 4) = true := by rw [decide_eq_true_iff]; omega
  have i0 : 0 < s.size := by omega
  have i1 : 1 < s.size := by omega
  have i2 : 2 < s.size := by omega
  have i3 : 3 < s.size := by omega
  have E0 : isPcx s = (byN s 0 == 10 && (verB (byN s 1) && (byN s 2 == 1 && (byN s 3 == 1 || byN s 3 == 8)))) := by unfold isPcx; rw [decide_eq_true h]; rfl
  obtain ⟨x0, hx0⟩ : ∃ x, byN s 0 = x := ⟨_, rfl⟩
  obtain ⟨x1, hx1⟩ : ∃ x, byN s 1 = x := ⟨_, rfl⟩
  obtain ⟨x2, hx2⟩ : ∃ x, byN s 2 = x := ⟨_, rfl⟩
  obtain ⟨x3, hx3⟩ : ∃ x, byN s 3 = x := ⟨_, rfl⟩
  have g0 : ((s[0]).toNat : Int) = x0 := by rw [← hx0]; exact byN_get s 0 i0
  have g1 : ((s[1]).toNat : Int) = x1 := by rw [← hx1]; exact byN_get s 1 i1
  have g2 : ((s[2]).toNat : Int) = x2 := by rw [← hx2]; exact byN_get s 2 i2
  have g3 : ((s[3]).toNat : Int) = x3 := by rw [← hx3]; exact byN_get s 3 i3
  rw [hx0, hx1, hx2, hx3] at E0
  have HV := Hi (fun w0 => version_any x1 w0)
  obtain ⟨z0, e0⟩ : ∃ b, (x0 == 10) = b := ⟨_, rfl⟩
  obtain ⟨vb, ev⟩ : ∃ b, verB x1 = b := ⟨_, rfl⟩
  obtain ⟨z2, e2⟩ : ∃ b, (x2 == 1) = b := ⟨_, rfl⟩
  obtain ⟨z3, e3⟩ : ∃ b, (x3 == 1) = b := ⟨_, rfl⟩
  rw [e0, ev, e2, e3] at E0
  rw [ev] at HV
  have E := Hi E0
  clear E0 hx0 hx1 hx2 hx3 ev h
  go_enter Tryz.func45, Tryz.ntmps45
  cases z0
  · go_wp2_with fail
    go_ret
    exact ⟨ret_b E.out.symm, rfl⟩
  cases vb
  · go_wp2_with ((go_at_call 80; (with_reducible refine (HV.out _).mono ?_); rintro e w1 ⟨rfl, rfl⟩))
    go_ret
    exact ⟨ret_b E.out.symm, rfl⟩
  cases z2
  · go_wp2_with ((go_at_call 80; (with_reducible refine (HV.out _).mono ?_); rintro e w1 ⟨rfl, rfl⟩))
    go_ret
    exact ⟨ret_b E.out.symm, rfl⟩
  cases z3
  · go_wp2_with ((go_at_call 80; (with_reducible refine (HV.out _).mono ?_); rintro e w1 ⟨rfl, rfl⟩))
    go_ret
    exact ⟨ret_b E.out.symm, rfl⟩
  · go_wp2_with ((go_at_call 80; (with_reducible refine (HV.out _).mono ?_); rintro e w1 ⟨rfl, rfl⟩))
    go_ret
    exact ⟨ret_b E.out.symm, rfl⟩
def isPnm (s : ByteArray) : Bool := decide (2 < s.size) && (byN s 0 == 80 && (decide (49 ≤ byN s 1) && (decide (byN s 1 ≤ 54) && (blankB (byN s 2) || byN s 2 == 35))))
set_option maxRecDepth 100000 in
theorem pnm_any (s : ByteArray) (w : World) : Calls Tryz.prog 41 #[.string s] w fun e w' => e = .returned (.bool (isPnm s)) ∧ w' = w := by
  by_cases h : 2 < s.size
  rotate_left
  · have D0 : decide ((s.size : Int) > 2) = false := by rw [decide_eq_false_iff_not]; omega
    have E := Hi (show isPnm s = false by unfold isPnm; rw [decide_eq_false h]; rfl)
    go_enter Tryz.func41, Tryz.ntmps41
    go_wp2_with fail
    go_ret
    exact ⟨ret_b E.out.symm, rfl⟩
  have D0 : decide ((s.size : Int) > 2) = true := by rw [decide_eq_true_iff]; omega
  have i0 : 0 < s.size := by omega
  have i1 : 1 < s.size := by omega
  have i2 : 2 < s.size := by omega
  have b2 := byN_bd s 2
  have E0 : isPnm s = (byN s 0 == 80 && (decide (49 ≤ byN s 1) && (decide (byN s 1 ≤ 54) && (blankB (byN s 2) || byN s 2 == 35)))) := by unfold isPnm; rw [decide_eq_true h]; rfl
  obtain ⟨x0, hx0⟩ : ∃ x, byN s 0 = x := ⟨_, rfl⟩
  obtain ⟨x1, hx1⟩ : ∃ x, byN s 1 = x := ⟨_, rfl⟩
  obtain ⟨x2, hx2⟩ : ∃ x, byN s 2 = x := ⟨_, rfl⟩
  have g0 : ((s[0]).toNat : Int) = x0 := by rw [← hx0]; exact byN_get s 0 i0
  have g1 : ((s[1]).toNat : Int) = x1 := by rw [← hx1]; exact byN_get s 1 i1
  have g2 : ((s[2]).toNat : Int) = x2 := by rw [← hx2]; exact byN_get s 2 i2
  rw [hx0, hx1, hx2] at E0
  rw [hx2] at b2
  have HV := Hi (fun w0 => blank_any x2 w0)
  have w2 : wrap64 x2 = x2 := IntWalk.wrap64_in x2 (by omega)
  obtain ⟨z0, e0⟩ : ∃ b, (x0 == 80) = b := ⟨_, rfl⟩
  obtain ⟨z1, e1⟩ : ∃ b, decide (49 ≤ x1) = b := ⟨_, rfl⟩
  obtain ⟨z2, e2⟩ : ∃ b, decide (x1 ≤ 54) = b := ⟨_, rfl⟩
  obtain ⟨bl, ev⟩ : ∃ b, blankB x2 = b := ⟨_, rfl⟩
  obtain ⟨z3, e3⟩ : ∃ b, (x2 == 35) = b := ⟨_, rfl⟩
  have e1' : decide (x1 ≥ 49) = z1 := e1
  rw [e0, e1, e2, ev, e3] at E0
  rw [ev] at HV
  have E := Hi E0
  clear E0 hx0 hx1 hx2 ev h b2
  go_enter Tryz.func41, Tryz.ntmps41
  cases z0
  · go_wp2_with fail
    go_ret
    exact ⟨ret_b E.out.symm, rfl⟩
  cases z1
  · go_wp2_with fail
    go_ret
    exact ⟨ret_b E.out.symm, rfl⟩
  cases z2
  · go_wp2_with fail
    go_ret
    exact ⟨ret_b E.out.symm, rfl⟩
  cases bl
  · go_wp2_with ((go_at_call 79; (with_reducible refine (HV.out _).mono ?_); rintro e w1 ⟨rfl, rfl⟩))
    go_ret
    exact ⟨ret_b E.out.symm, rfl⟩
  · go_wp2_with ((go_at_call 79; (with_reducible refine (HV.out _).mono ?_); rintro e w1 ⟨rfl, rfl⟩))
    go_ret
    exact ⟨ret_b E.out.symm, rfl⟩
def lowK (s : ByteArray) (a : Nat) : Nat → Int
  | 0 => 0
  | k + 1 => lowK s a k + byN s (a + k) * 2 ^ (8 * k)
theorem lowK_bd (s : ByteArray) (a k : Nat) : 0 ≤ lowK s a k ∧ lowK s a k < 2 ^ (8 * k) := by
  induction k with
  | zero => simp [lowK]
  | succ k ih =>
    have hb := byN_bd s (a + k)
    have hp := pow_pos' (8 * k)
    have h0 : 0 ≤ byN s (a + k) * 2 ^ (8 * k) := Int.mul_nonneg hb.1 (by omega)
    have h1 : byN s (a + k) * 2 ^ (8 * k) ≤ 255 * 2 ^ (8 * k) := Int.mul_le_mul_of_nonneg_right (by omega) (by omega)
    rw [pow8, lowK]; omega
theorem lowK_round (s : ByteArray) (a k : Nat) (h : k ≤ 3) : bits .or .i64 (lowK s a k) (wrap64 (wrap64 (byN s (a + k)) * 2 ^ (8 * k))) = lowK s a (k + 1) := by
  have hb := byN_bd s (a + k)
  have hl := lowK_bd s a k
  have hp := pow32 k h
  have h0 : 0 ≤ byN s (a + k) * 2 ^ (8 * k) := Int.mul_nonneg hb.1 (by omega)
  have h1 : byN s (a + k) * 2 ^ (8 * k) ≤ 255 * 2 ^ (8 * k) := Int.mul_le_mul_of_nonneg_right (by omega) (by omega)
  have h62 : (2 : Int) ^ 62 = 4611686018427387904 := by decide
  rw [IntWalk.wrap64_in (byN s (a + k)) (by omega), IntWalk.wrap64_in _ (by omega), or_low (8 * k) _ _ hl.1 hl.2 hb.1 (by omega)]
  rfl
set_option maxRecDepth 100000 in
theorem low_any (s : ByteArray) (a n : Nat) (w : World) (hn : n ≤ 4) (h : a + n ≤ s.size) (hs : s.size ≤ 9223372036854775807) : Calls Tryz.prog 81 #[.string s, .int .i64 a, .int .i64 n] w fun e w' => e = .returned (.int .i64 (lowK s a n)) ∧ w' = w := by
  go_enter Tryz.func81, Tryz.ntmps81
  go_wp2
  go_loop [7, 8, 10] (fun v j i => ∃ k : Nat, k ≤ n ∧ i = .int .i64 k ∧ v = .int .i64 (lowK s a k)) (fun _ _ i => n - (intOf i).toNat)
  case atStart => exact ⟨0, by omega, rfl, rfl⟩
  case round =>
    obtain ⟨k, hk, rfl, rfl⟩ := hrel
    by_cases hlt : k < n
    · have i3 : ((a : Int) + k).toNat = a + k := by omega
      have i4 : (0 : Int) ≤ (a : Int) + k := by omega
      have i5 : (a : Int) + k < s.size := by omega
      have i6 : a + k < s.size := by omega
      go_wp2
      go_round
      case rel => exact ⟨k + 1, by omega, by go_num, by rw [byN_get s (a + k) i6, lowK_round s a k (by omega)]⟩
      case measure => simp [intOf]; omega
    · have E := Hi (show lowK s a k = lowK s a n by rw [show k = n by omega])
      have hge : n ≤ k := by omega
      go_wp2
      go_ret
      exact ⟨ret_i E.out, rfl⟩
theorem low_at (s : ByteArray) (a n : Nat) (i k V : Int) (w : World) (hi : i = a) (hk : k = n) (hV : lowK s a n = V) (hn : n ≤ 4) (h : a + n ≤ s.size) (hs : s.size ≤ 9223372036854775807) : Calls Tryz.prog 81 #[.string s, .int .i64 i, .int .i64 k] w fun e w' => e = .returned (.int .i64 V) ∧ w' = w := by
  subst hi hk hV; exact low_any s a n w hn h hs
def isIco (s : ByteArray) : Bool := decide (10 ≤ s.size) && (lowK s 0 2 == 0 && (byN s 9 == 0 && ((lowK s 2 2 == 1 || lowK s 2 2 == 2) && decide (lowK s 4 2 > 0))))
set_option maxRecDepth 100000 in
theorem iis_any (s : ByteArray) (w : World) (hs : s.size ≤ 9223372036854775807) : Calls Tryz.prog 46 #[.string s] w fun e w' => e = .returned (.bool (isIco s)) ∧ w' = w := by
  by_cases h : s.size < 10
  · have D0 : decide ((s.size : Int) < 10) = true := by rw [decide_eq_true_iff]; omega
    have E := Hi (show isIco s = false by unfold isIco; rw [decide_eq_false (by omega)]; rfl)
    go_enter Tryz.func46, Tryz.ntmps46
    go_wp2
    go_ret
    exact ⟨ret_b E.out.symm, rfl⟩
  have D0 : decide ((s.size : Int) < 10) = false := by rw [decide_eq_false_iff_not]; omega
  obtain ⟨x0, hx0⟩ : ∃ x, lowK s 0 2 = x := ⟨_, rfl⟩
  obtain ⟨x2, hx2⟩ : ∃ x, lowK s 2 2 = x := ⟨_, rfl⟩
  obtain ⟨x4, hx4⟩ : ∃ x, lowK s 4 2 = x := ⟨_, rfl⟩
  obtain ⟨x9, hx9⟩ : ∃ x, byN s 9 = x := ⟨_, rfl⟩
  have HL0 := Hi (fun w0 => low_at s 0 2 0 2 x0 w0 rfl rfl hx0 (by omega) (by omega) hs)
  have HL2 := Hi (fun w0 => low_at s 2 2 2 2 x2 w0 rfl rfl hx2 (by omega) (by omega) hs)
  have HL4 := Hi (fun w0 => low_at s 4 2 4 2 x4 w0 rfl rfl hx4 (by omega) (by omega) hs)
  have i9 : 9 < s.size := by omega
  have g9 : ((s[9]).toNat : Int) = x9 := by rw [← hx9]; exact byN_get s 9 i9
  have E : isIco s = (x0 == 0 && (x9 == 0 && ((x2 == 1 || x2 == 2) && decide (x4 > 0)))) := by unfold isIco; rw [decide_eq_true (by omega : 10 ≤ s.size), hx0, hx2, hx4, hx9]; rfl
  obtain ⟨z0, e0⟩ : ∃ b, (x0 == 0) = b := ⟨_, rfl⟩
  obtain ⟨z9, e9⟩ : ∃ b, (x9 == 0) = b := ⟨_, rfl⟩
  obtain ⟨k1, e1⟩ : ∃ b, (x2 == 1) = b := ⟨_, rfl⟩
  obtain ⟨k2, e2⟩ : ∃ b, (x2 == 2) = b := ⟨_, rfl⟩
  have n0 : (x0 != 0) = !z0 := by rw [← e0]; rfl
  have n9 : (x9 != 0) = !z9 := by rw [← e9]; rfl
  rw [e0, e9, e1, e2] at E
  have E := Hi E
  clear hx0 hx2 hx4 hx9 h
  go_enter Tryz.func46, Tryz.ntmps46
  cases z0
  · go_wp2_with ((go_at_call 81; (with_reducible refine (HL0.out _).mono ?_); rintro e w1 ⟨rfl, rfl⟩))
    go_ret
    exact ⟨ret_b E.out.symm, rfl⟩
  cases z9
  · go_wp2_with ((go_at_call 81; (with_reducible refine (HL0.out _).mono ?_); rintro e w1 ⟨rfl, rfl⟩))
    go_ret
    exact ⟨ret_b E.out.symm, rfl⟩
  cases k1 <;> cases k2
  all_goals go_wp2_with (first | (go_at_call 81; (with_reducible refine (HL0.out _).mono ?_); rintro e w1 ⟨rfl, rfl⟩) | (go_at_call 81; (with_reducible refine (HL2.out _).mono ?_); rintro e w1 ⟨rfl, rfl⟩) | (go_at_call 81; (with_reducible refine (HL4.out _).mono ?_); rintro e w1 ⟨rfl, rfl⟩))
  all_goals go_ret
  all_goals exact ⟨ret_b E.out.symm, rfl⟩
def hasB (s : ByteArray) (f : Int) : Bool :=
  if f = 1 then prefB s ⟨#[66, 77]⟩ else if f = 2 then isTga s else if f = 3 then isPnm s else if f = 4 then isIco s else if f = 5 then prefB s ⟨#[113, 111, 105, 102]⟩ else
  if f = 6 then prefB s ⟨#[102, 97, 114, 98, 102, 101, 108, 100]⟩ else if f = 7 then isPcx s else if f = 8 then prefB s ⟨#[89, 166, 106, 149]⟩ else false
set_option maxRecDepth 100000 in
theorem has_any (s : ByteArray) (f : Int) (w : World) (hs : s.size ≤ 9223372036854775807) : Calls Tryz.prog 28 #[.string s, .int .i64 f] w fun e w' => e = .returned (.bool (hasB s f)) ∧ Below w.heap.size w w' := by
  have H1 := Hi (fun p w0 => prefix_any s p w0)
  have H2 := Hi (fun w0 => tis_any s w0 hs)
  have H3 := Hi (fun w0 => pnm_any s w0)
  have H4 := Hi (fun w0 => iis_any s w0 hs)
  have H5 := Hi (fun w0 => qoi_any s w0)
  have H6 := Hi (fun w0 => ff_any s w0)
  have H7 := Hi (fun w0 => pcx_any s w0)
  have H8 := Hi (fun w0 => sun_any s w0)
  go_enter Tryz.func28, Tryz.ntmps28
  by_cases h1 : f = 1
  · subst h1
    go_wp2_with ((go_at_call 40; (with_reducible refine (H1.out _ _).mono ?_); rintro e w1 ⟨rfl, rfl⟩))
    go_ret
    exact ⟨rfl, Below.refl _ _⟩
  by_cases h2 : f = 2
  · subst h2
    go_wp2_with ((go_at_call 47; (with_reducible refine (H2.out _).mono ?_); rintro e w1 ⟨rfl, hb⟩))
    go_ret
    exact ⟨rfl, hb⟩
  by_cases h3 : f = 3
  · subst h3
    go_wp2_with ((go_at_call 41; (with_reducible refine (H3.out _).mono ?_); rintro e w1 ⟨rfl, rfl⟩))
    go_ret
    exact ⟨rfl, Below.refl _ _⟩
  by_cases h4 : f = 4
  · subst h4
    go_wp2_with ((go_at_call 46; (with_reducible refine (H4.out _).mono ?_); rintro e w1 ⟨rfl, rfl⟩))
    go_ret
    exact ⟨rfl, Below.refl _ _⟩
  by_cases h5 : f = 5
  · subst h5
    go_wp2_with ((go_at_call 42; (with_reducible refine (H5.out _).mono ?_); rintro e w1 ⟨rfl, rfl⟩))
    go_ret
    exact ⟨rfl, Below.refl _ _⟩
  by_cases h6 : f = 6
  · subst h6
    go_wp2_with ((go_at_call 43; (with_reducible refine (H6.out _).mono ?_); rintro e w1 ⟨rfl, rfl⟩))
    go_ret
    exact ⟨rfl, Below.refl _ _⟩
  by_cases h7 : f = 7
  · subst h7
    go_wp2_with ((go_at_call 45; (with_reducible refine (H7.out _).mono ?_); rintro e w1 ⟨rfl, rfl⟩))
    go_ret
    exact ⟨rfl, Below.refl _ _⟩
  by_cases h8 : f = 8
  · subst h8
    go_wp2_with ((go_at_call 44; (with_reducible refine (H8.out _).mono ?_); rintro e w1 ⟨rfl, rfl⟩))
    go_ret
    exact ⟨rfl, Below.refl _ _⟩
  have e1 : (f == 1) = false := by simpa using h1
  have e2 : (f == 2) = false := by simpa using h2
  have e3 : (f == 3) = false := by simpa using h3
  have e4 : (f == 4) = false := by simpa using h4
  have e5 : (f == 5) = false := by simpa using h5
  have e6 : (f == 6) = false := by simpa using h6
  have e7 : (f == 7) = false := by simpa using h7
  have e8 : (f == 8) = false := by simpa using h8
  have E := Hi (show hasB s f = false by unfold hasB; rw [if_neg h1, if_neg h2, if_neg h3, if_neg h4, if_neg h5, if_neg h6, if_neg h7, if_neg h8])
  clear h1 h2 h3 h4 h5 h6 h7 h8
  go_wp2_with fail
  go_ret
  exact ⟨ret_b E.out.symm, Below.refl _ _⟩
end Go.Proofs.YtcjjfnghgajefaaGreat
namespace Go.Proofs.YtcjjfnghgajefaaGreat
open Go.RowKit
set_option linter.unusedVariables false
theorem Chg.after {S S' : Nat → Prop} {a b c : World} (h : Chg S a b) (k : Chg S' b c) (hS : ∀ n, n < a.heap.size → S' n → S n) : Chg S a c :=
  ⟨k.os.trans h.os, k.tape.trans h.tape, k.output.trans h.output, Nat.le_trans h.size k.size, fun n hn hs => (k.block n (Nat.lt_of_lt_of_le hn h.size) (fun h' => hs (hS n hn h'))).trans (h.block n hn hs)⟩
end Go.Proofs.YtcjjfnghgajefaaGreat
namespace Go.Proofs.YtcjjfnghgajefaaGreat
open Go.RowKit
set_option linter.unusedVariables false
set_option linter.unusedSimpArgs false
def allTo (s : ByteArray) : Nat → List Int
  | 0 => []
  | k + 1 => bif hasB s (ordL.getD k 0) then allTo s k ++ [ordL.getD k 0] else allTo s k
theorem allTo_len (s : ByteArray) (k : Nat) : (allTo s k).length ≤ k := by
  induction k with
  | zero => exact Nat.le_refl _
  | succ k ih => rw [allTo]; cases hasB s (ordL.getD k 0) <;> simp <;> omega
def firstOf : List Int → Int
  | [] => 0
  | x :: _ => x
set_option maxRecDepth 100000 in
theorem sall_any (s : ByteArray) (w : World) : Calls Tryz.prog 17 #[.string s] w (fun e w' => e = .returned (.func (.func 26) #[] #[.pointer (some ⟨w.heap.size, 0, none⟩)]) ∧ w' = w.alloc (.cells #[.string s] 9)) := by
  have hmf : ∀ (fn : Fn) (first cap : Array Value) (w : World), (Instr.makeFunc fn first cap).run Tryz.prog w = .ok (.func fn first cap) w := fun _ _ _ _ => rfl
  go_enter Tryz.func17, Tryz.ntmps17
  go_wp2
  go_ret
  exact ⟨rfl, rfl⟩
attribute [local go_sem] Oper.semAt_some
theorem allTo_pre (s : ByteArray) (k : Nat) : allTo s k <+: allTo s (k + 1) := by
  rw [show allTo s (k + 1) = bif hasB s (ordL.getD k 0) then allTo s k ++ [ordL.getD k 0] else allTo s k from rfl]
  cases hasB s (ordL.getD k 0)
  · exact List.prefix_refl _
  · exact List.prefix_append _ _
theorem allTo_mono (s : ByteArray) (j k : Nat) (h : j ≤ k) : allTo s j <+: allTo s k := by
  induction k with
  | zero => obtain rfl : j = 0 := by omega
            exact List.prefix_refl _
  | succ k ih =>
    by_cases e : j = k + 1
    · subst e; exact List.prefix_refl _
    · exact (ih (by omega)).trans (allTo_pre s k)
def KeepB (B : Nat) (W W' : World) : Prop := W'.heap[B]? = W.heap[B]? ∧ W.heap.size ≤ W'.heap.size
theorem keepB_t {B : Nat} {X Y Z : World} (h : KeepB B X Y) (k : KeepB B Y Z) : KeepB B X Z := ⟨k.1.trans h.1, Nat.le_trans h.2 k.2⟩
theorem keepB_b {B : Nat} {w : World} (hB : B < w.heap.size) (W : World) (l : Nat) (o o' : Obj) (hl : w.heap.size ≤ l) (h : W.heap[l]? = some o) (_ : o.isCells = false) (_ : o.isWalk = false) : KeepB B W (W.putObj l o') :=
  ⟨World.putObj_heap_other (by omega), (grownBy_putObj' W l o').size⟩
theorem below_grown {w w' : World} (h : Below w.heap.size w w') : w.grownBy w' none := ⟨h.os, h.tape, h.output, h.size, fun k hk _ => h.block k hk⟩
set_option maxRecDepth 100000 in
theorem ord_ix (k : Nat) (h : k < 8) (w : World) : (Instr.index 76 (.agg ordV.toArray) (.int .i64 k)).run Tryz.prog w = .ok (.int .i64 (ordL.getD k 0)) w := by
  rcases (show k = 0 ∨ k = 1 ∨ k = 2 ∨ k = 3 ∨ k = 4 ∨ k = 5 ∨ k = 6 ∨ k = 7 by omega) with rfl | rfl | rfl | rfl | rfl | rfl | rfl | rfl <;> kernel_rfl
set_option maxRecDepth 100000 in
set_option maxHeartbeats 4000000 in
theorem all1_in (s : ByteArray) (hs : s.size ≤ 9223372036854775807) (n : Nat) (l B : Nat) (J Jx : List Int → World → Prop) (W : World) (hBW : B < W.heap.size) (hJ : AbidesFrom W.heap.size J)
    (hY : ∀ pre x W, J pre W → pre.length < 8 → YieldAt Fence.wide (n - 1) Tryz.prog l #[.int .i64 x] W fun e W' =>
      (e = .returned (.bool true) ∧ J (pre ++ [x]) W' ∧ KeepB B W W') ∨ (e = .returned (.bool false) ∧ Jx (pre ++ [x]) W'))
    (hb : W.cell? ⟨B, 0, none⟩ = some (.string s)) (h0 : J [] W) :
    CallsIn Fence.wide n Tryz.prog 26 #[.func (.yield l) #[] #[], .pointer (some ⟨B, 0, none⟩)] W fun e W' => (∃ v, e = .returned v) ∧
      ((∃ ys, ys = allTo s 8 ∧ J ys W') ∨ (∃ pre, (pre <+: allTo s 8 ∧ pre ≠ []) ∧ Jx pre W')) := by
  have HO := Hi (fun w0 => callsIn_wide (n := n - 1).2 (order_any w0))
  have HH := Hi (fun f w0 => callsIn_wide (n := n - 1).2 (has_any s f w0 hs))
  refine callsIn_of_wp Tryz.func26 rfl trivial ?_ rfl
  simp only [Tryz.ntmps26, List.size_toArray, List.length_cons, List.length_nil, Nat.reduceAdd, Nat.reduceSub, Array.replicate_succ, Array.replicate_zero, List.push_toArray, List.append_toArray, List.nil_append, List.cons_append]
  gi_wp2_with (refine ⟨trivial, (fun h => absurd h (by decide)), ?_⟩; gi_at_call 27; refine (HO.out _).mono ?_; rintro e w1 ⟨rfl, hb1⟩)
  have hc1 : w1.cell? ⟨B, 0, none⟩ = some (.string s) := (hb1.cell (p := ⟨B, 0, none⟩) hBW).trans hb
  have J1 : J [] w1 := hJ [] W w1 none h0 (below_grown hb1) (fun r e => by cases e)
  have z1 : W.heap.size ≤ w1.heap.size := hb1.size
  clear hb1 hb h0
  gi_loopw [4, 6] (fun q4 c wr => ∃ k : Nat, k ≤ 8 ∧ c = .int .i64 k ∧ J (allTo s k) wr ∧ wr.cell? ⟨B, 0, none⟩ = some (.string s) ∧ B < wr.heap.size) (fun _ c _ => 8 - (intOf c).toNat)
  case atStart => exact ⟨0, by omega, rfl, J1, hc1, Nat.lt_of_lt_of_le hBW z1⟩
  case round =>
    obtain ⟨k, hk, rfl, hj, hc, hz⟩ := hrel
    by_cases hlt : k < 8
    rotate_left
    · have hge : 8 ≤ k := by omega
      obtain ⟨M, hM⟩ : ∃ M, allTo s k = M := ⟨_, rfl⟩
      have EM := Hi (show M = allTo s 8 by rw [← hM]; exact congrArg _ (by omega))
      rw [hM] at hj
      clear hM
      gi_wp2
      go_end0
      exact ⟨⟨_, rfl⟩, .inl ⟨M, EM.out, hj⟩⟩
    · have hge : ¬ 8 ≤ k := by omega
      have hln := allTo_len s k
      obtain ⟨f, hf⟩ : ∃ f, ordL.getD k 0 = f := ⟨_, rfl⟩
      obtain ⟨hb, hhb⟩ : ∃ b, hasB s f = b := ⟨_, rfl⟩
      have EA := Hi (show allTo s (k + 1) = bif hb then allTo s k ++ [f] else allTo s k by rw [allTo, hf, hhb])
      have HF := Hi (fun w0 => HH.out f w0)
      rw [hhb] at HF
      have ck := fun w0 => ord_ix k hlt w0
      rw [hf] at ck
      obtain ⟨P, hP⟩ : ∃ P, allTo s k = P := ⟨_, rfl⟩
      rw [hP] at EA hln hj
      have PX := Hi (allTo_mono s (k + 1) 8 (by omega))
      clear hf hhb hP
      cases hb
      · gi_wp2_with (refine ⟨trivial, (fun h => absurd h (by decide)), ?_⟩; gi_at_call 28; refine (HF.out _).mono ?_; rintro e w4 ⟨rfl, hb4⟩; have hj := hJ _ _ _ none hj (below_grown hb4) (fun r e => by cases e); have hc := (hb4.cell (p := ⟨B, 0, none⟩) hz).trans hc; have hz := Nat.lt_of_lt_of_le hz hb4.size; clear hb4)
        all_goals (try (refine ⟨fun _ h => (by cases h), ?_⟩))
        gi_wp2
        go_roundw
        case rel => exact ⟨k + 1, by omega, by go_num, by rw [EA.out]; exact hj, hc, hz⟩
        case measure => simp [intOf]; omega
      · gi_wp2_with (refine ⟨trivial, (fun h => absurd h (by decide)), ?_⟩; gi_at_call 28; refine (HF.out _).mono ?_; rintro e w4 ⟨rfl, hb4⟩; have hj := hJ _ _ _ none hj (below_grown hb4) (fun r e => by cases e); have hc := (hb4.cell (p := ⟨B, 0, none⟩) hz).trans hc; have hz := Nat.lt_of_lt_of_le hz hb4.size; clear hb4; obtain ⟨fn, tmps, assign, body, hy, hR⟩ := hY _ f w4 hj (by omega))
        refine ⟨fun h => absurd h (by decide), hR.mono ?_⟩
        rintro e W3 (⟨rfl, hJ3, hk3⟩ | ⟨rfl, hJx3⟩)
        · have hc3 := (World.cell?_of_block (a := ⟨B, 0, none⟩) hk3.1).trans hc
          gi_wp2
          go_roundw
          case rel => exact ⟨k + 1, by omega, by go_num, by rw [EA.out]; exact hJ3, hc3, Nat.lt_of_lt_of_le hz hk3.2⟩
          case measure => simp [intOf]; omega
        · gi_wp2
          refine bodyPost_ret (results_none rfl _ _ _) rfl ?_
          rw [EA.out] at PX
          exact ⟨⟨_, rfl⟩, .inr ⟨P ++ [f], ⟨PX.out, by simp⟩, hJx3⟩⟩
theorem all_stops (s : ByteArray) (hs : s.size ≤ 9223372036854775807) (n : Nat) (B : Nat) (w : World) (hB : B < w.heap.size) (hb : w.cell? ⟨B, 0, none⟩ = some (.string s)) :
    SeqStopsK Fence.wide n Tryz.prog 26 #[.pointer (some ⟨B, 0, none⟩)] (fun x : Int => #[Value.int .i64 x]) (KeepB B) (fun ys => ys = allTo s 8) (fun pre => pre <+: allTo s 8 ∧ pre ≠ []) 8 w := fun l J Jx W hW hJ hJx hY h0 =>
  all1_in s hs n l B J Jx W (Nat.lt_of_lt_of_le hB hW.size) hJ hY ((hW.cell (p := ⟨B, 0, none⟩) hB).trans hb) h0
attribute [local go_sem] Oper.semAt_some
theorem results_1 {P : Program} {fn : Func} {p : Tmp} {ty : TypeId} (h : fn.results = #[.cell p ty]) (tmps : Array Value) (w : World) (b : Nat) (v : Value)
    (hp : tmps.getD p undef = .pointer (some ⟨b, 0, none⟩)) (hl : (loadVar ty ⟨b, 0, none⟩).run P w = .ok v w) : (results fn tmps).run P w = .ok v w := by
  have hp' : tmps[p]?.getD undef = .pointer (some ⟨b, 0, none⟩) := by simpa using hp
  simp [results, h, hp', asAddr, hl]
theorem load_int (w : World) (b : Nat) (x : Int) (h : w.cell? ⟨b, 0, none⟩ = some (.int .i64 x)) : (loadVar 3 ⟨b, 0, none⟩).run Tryz.prog w = .ok (.int .i64 x) w := by
  simp [go_sem, loadVar, h]
theorem firstOf_one {f : Int} {L : List Int} (h : [f] <+: L) : firstOf L = f := by
  obtain ⟨t, rfl⟩ := h
  rfl
set_option maxRecDepth 100000 in
set_option maxHeartbeats 4000000 in
theorem sformat_any (s : ByteArray) (w : World) (hs : s.size ≤ 9223372036854775807) : Calls Tryz.prog 13 #[.string s] w (fun e w' => e = .returned (.int .i64 (firstOf (allTo s 8))) ∧ Below w.heap.size w w') := by
  refine (callsIn_wide (n := 5)).1 ?_
  refine callsIn_of_wp_marks Tryz.func13 rfl trivial ?_ rfl
  simp only [Tryz.ntmps13, List.size_toArray, List.length_cons, List.length_nil, Nat.reduceAdd, Nat.reduceSub, Array.replicate_succ, Array.replicate_zero, List.push_toArray, List.append_toArray, List.nil_append, List.cons_append]
  have bR := Boxed.new w 3 (.int .i64 0)
  have bS := Boxed.new (w.alloc (.cells #[.int .i64 0] 3)) 9 (.string s)
  rw [World.size_alloc] at bS
  have bR2 := bR.alloc (.cells #[.string s] 9)
  have hB0 : Below w.heap.size w ((w.alloc (.cells #[.int .i64 0] 3)).alloc (.cells #[.string s] 9)) := ((Below.refl _ w).alloc (Nat.le_refl _) _).alloc (by simp) _
  gi_wp2_with (refine ⟨trivial, ?_⟩; gi_at_call 17; refine (callsIn_wide.2 (sall_any s _)).mono ?_; rintro e w' ⟨rfl, rfl⟩)
  refine wpIn_rangeFunc_ownF (F := Fence.wide) (n := 5) rfl (by omega) (gf := 26) (lb := #[.pointer (some ⟨w.heap.size + 1, 0, none⟩)]) (by first | rfl | simp) trivial (enters_of Tryz.func26 (by kernel_rfl) rfl)
    (all_stops s hs _ (w.heap.size + 1) _ (by simp) bS.cell) keepB_t (keepB_b (by simp)) (Below.refl _ _) (fun _ => rfl)
    (fun pre W => pre = [] ∧ Boxed W w.heap.size 3 (.int .i64 0) ∧ Below w.heap.size w W)
    (fun c pre W => c = .ret ∧ (∃ f, pre = [f] ∧ Boxed W w.heap.size 3 (.int .i64 f)) ∧ Below w.heap.size w W)
    ?hI ?hIx ⟨rfl, bR2, hB0⟩
    (fun x => { tmps := #[.string s, undef, .pointer (some ⟨w.heap.size, 0, none⟩), .int .i64 x, .string s, .func (.func 26) #[] #[.pointer (some ⟨w.heap.size + 1, 0, none⟩)], .int .i64 x, undef], defers := [] }) ?assign ?body ?done ?stop
  case hI => exact fun s X Y row hs hg hr => ⟨hs.1, boxed_own w.heap.size 3 (fun _ : Unit => .int .i64 0) () X Y row hs.2.1 hg (fun r e => (hr r e).2), ownFrom_below (β := Unit) (Nat.le_refl _) (by simp; omega) () X Y row hs.2.2 hg hr⟩
  case hIx => exact fun c s X Y row hs hg hr => ⟨hs.1, (by obtain ⟨f, e, hb⟩ := hs.2.1; exact ⟨f, e, boxed_own w.heap.size 3 (fun _ : Unit => .int .i64 f) () X Y row hb hg (fun r e => (hr r e).2)⟩), ownFrom_below (β := Unit) (Nat.le_refl _) (by simp; omega) () X Y row hs.2.2 hg hr⟩
  case assign =>
    intro l x W K hK
    gi_wp2
    exact hK
  case body =>
    rintro l pre x W ⟨rfl, hB, hL⟩ _
    have c0 := hB.cell
    have f0 := hB.frozen
    gi_wp2
    exact ⟨KeepsOthers.setCell _ _ _, rfl, ⟨x, rfl, hB.set _⟩, hL.setCell (p := ⟨w.heap.size, 0, none⟩) (Nat.le_refl _) _⟩
  case done =>
    rintro D ys W hD hys ⟨hp, hB, hL⟩ hK
    have c0 := hB.cell
    have f0 := hB.frozen
    gi_wp2
    refine ⟨by simp, .inl ⟨_, _, rfl, run_takeDeferred ((KeepsOthers.setCell _ _ _).same D _ hK rfl), ?_⟩⟩
    have hB2 : Boxed ((W.setCell ⟨w.heap.size, 0, none⟩ (.int .i64 0)).putObj D (Obj.deferred none)) w.heap.size 3 (.int .i64 0) := (hB.set _).kept (grownBy_putObj' _ D _) (fun e => by cases e; simp at hD; omega)
    exact ⟨_, results_1 rfl _ _ w.heap.size _ rfl (load_int _ _ _ hB2.cell), by rw [← hys, hp]; rfl, (hL.setCell (p := ⟨w.heap.size, 0, none⟩) (Nat.le_refl _) _).trans (belowK_b (w := w) (Nat.le_refl _) _ D _ _ (by simp at hD; omega) ((KeepsOthers.setCell _ _ _).same D _ hK rfl) rfl rfl)⟩
  case stop =>
    rintro D c pre W hD ⟨hp, hne⟩ ⟨rfl, ⟨f, rfl, hB⟩, hL⟩ hK
    gi_wp2
    refine ⟨by simp, .inl ⟨_, _, rfl, run_takeDeferred hK, ?_⟩⟩
    have hB2 : Boxed (W.putObj D (Obj.deferred none)) w.heap.size 3 (.int .i64 f) := hB.kept (grownBy_putObj' _ D _) (fun e => by cases e; simp at hD; omega)
    exact ⟨_, results_1 rfl _ _ w.heap.size _ rfl (load_int _ _ _ hB2.cell), by rw [firstOf_one hp], hL.trans (belowK_b (w := w) (Nat.le_refl _) W D _ _ (by simp at hD; omega) hK rfl rfl)⟩
def sideB (n : Int) : Bool := decide (1 ≤ n ∧ n ≤ 16384)
def countB (n : Int) : Bool := decide (0 ≤ n ∧ n ≤ 1099511627776)
def leB (x y : Int) : Bool := decide (x ≤ y ∨ x ≤ 0)
theorem nside_any (n : Int) (w : World) : Calls Tryz.prog 10 #[.int .i64 n] w fun e w' => e = .returned (.bool (sideB n)) ∧ w = w' := by
  rcases (show n < 1 ∨ (1 ≤ n ∧ n ≤ 16384) ∨ (1 ≤ n ∧ 16384 < n) by omega) with h | ⟨h, h2⟩ | ⟨h, h2⟩
  · rw [show sideB n = false by unfold sideB; rw [decide_eq_false_iff_not]; omega]
    have g : decide (n ≥ 1) = false := by rw [decide_eq_false_iff_not]; omega
    clear h
    go_enter Tryz.func10, Tryz.ntmps10
    go_wp2_with ((with_reducible refine skip_g rfl ?_ ?_); rfl; intro _)
    go_ret
    exact ⟨rfl, rfl⟩
  · rw [show sideB n = true by unfold sideB; rw [decide_eq_true_iff]; omega]
    have g : decide (n ≥ 1) = true := by rw [decide_eq_true_iff]; omega
    have g2 : decide (n ≤ 16384) = true := by rw [decide_eq_true_iff]; omega
    clear h h2
    go_enter Tryz.func10, Tryz.ntmps10
    go_wp2
    go_ret
    exact ⟨rfl, rfl⟩
  · rw [show sideB n = false by unfold sideB; rw [decide_eq_false_iff_not]; omega]
    have g : decide (n ≥ 1) = true := by rw [decide_eq_true_iff]; omega
    have g2 : decide (n ≤ 16384) = false := by rw [decide_eq_false_iff_not]; omega
    clear h h2
    go_enter Tryz.func10, Tryz.ntmps10
    go_wp2
    go_ret
    exact ⟨rfl, rfl⟩
theorem ncount_any (n : Int) (w : World) : Calls Tryz.prog 11 #[.int .i64 n] w fun e w' => e = .returned (.bool (countB n)) ∧ w = w' := by
  rcases (show n < 0 ∨ (0 ≤ n ∧ n ≤ 1099511627776) ∨ (0 ≤ n ∧ 1099511627776 < n) by omega) with h | ⟨h, h2⟩ | ⟨h, h2⟩
  · rw [show countB n = false by unfold countB; rw [decide_eq_false_iff_not]; omega]
    have g : decide (n ≥ 0) = false := by rw [decide_eq_false_iff_not]; omega
    clear h
    go_enter Tryz.func11, Tryz.ntmps11
    go_wp2_with ((with_reducible refine skip_g rfl ?_ ?_); rfl; intro _)
    go_ret
    exact ⟨rfl, rfl⟩
  · rw [show countB n = true by unfold countB; rw [decide_eq_true_iff]; omega]
    have g : decide (n ≥ 0) = true := by rw [decide_eq_true_iff]; omega
    have g2 : decide (n ≤ 1099511627776) = true := by rw [decide_eq_true_iff]; omega
    clear h h2
    go_enter Tryz.func11, Tryz.ntmps11
    go_wp2
    go_ret
    exact ⟨rfl, rfl⟩
  · rw [show countB n = false by unfold countB; rw [decide_eq_false_iff_not]; omega]
    have g : decide (n ≥ 0) = true := by rw [decide_eq_true_iff]; omega
    have g2 : decide (n ≤ 1099511627776) = false := by rw [decide_eq_false_iff_not]; omega
    clear h h2
    go_enter Tryz.func11, Tryz.ntmps11
    go_wp2
    go_ret
    exact ⟨rfl, rfl⟩
theorem nle_any (x y : Int) (w : World) : Calls Tryz.prog 8 #[.int .i64 x, .int .i64 y] w fun e w' => e = .returned (.bool (leB x y)) ∧ w = w' := by
  rcases (show x ≤ y ∨ (y < x ∧ x ≤ 0) ∨ (y < x ∧ 0 < x) by omega) with h | ⟨h, h2⟩ | ⟨h, h2⟩
  · rw [show leB x y = true by unfold leB; rw [decide_eq_true_iff]; omega]
    have g : decide (x ≤ y) = true := by rw [decide_eq_true_iff]; omega
    clear h
    go_enter Tryz.func8, Tryz.ntmps8
    go_wp2_with ((with_reducible refine skip_g rfl ?_ ?_); rfl; intro _)
    go_ret
    exact ⟨rfl, rfl⟩
  · rw [show leB x y = true by unfold leB; rw [decide_eq_true_iff]; omega]
    have g : decide (x ≤ y) = false := by rw [decide_eq_false_iff_not]; omega
    have g2 : decide (x ≤ 0) = true := by rw [decide_eq_true_iff]; omega
    clear h h2
    go_enter Tryz.func8, Tryz.ntmps8
    go_wp2
    go_ret
    exact ⟨rfl, rfl⟩
  · rw [show leB x y = false by unfold leB; rw [decide_eq_false_iff_not]; omega]
    have g : decide (x ≤ y) = false := by rw [decide_eq_false_iff_not]; omega
    have g2 : decide (x ≤ 0) = false := by rw [decide_eq_false_iff_not]; omega
    clear h h2
    go_enter Tryz.func8, Tryz.ntmps8
    go_wp2
    go_ret
    exact ⟨rfl, rfl⟩
def needL (W H C R b : Int) : List Value := [.int .i64 W, .int .i64 H, .int .i64 (4 * W * H + 4 * C + R), .int .i64 (8 * (b + 4 * W * H) + 1024)]
structure NeedIn (W H C R b : Int) : Prop where
  w1 : 1 ≤ W
  w2 : W ≤ 16384
  h1 : 1 ≤ H
  h2 : H ≤ 16384
  c1 : 0 ≤ C
  c2 : C ≤ 1099511627776
  r1 : 0 ≤ R
  r2 : R ≤ 1099511627776
  b1 : 0 ≤ b
  b2 : b ≤ 1099511627776
def needB (W H C R b : Int) : Bool := sideB W && (sideB H && (countB C && (countB R && countB b)))
theorem need_in {W H C R b : Int} (h : needB W H C R b = true) : NeedIn W H C R b := by
  unfold needB sideB countB at h
  simp only [Bool.and_eq_true, decide_eq_true_iff] at h
  obtain ⟨⟨a1, a2⟩, ⟨a3, a4⟩, ⟨a5, a6⟩, ⟨a7, a8⟩, a9, a10⟩ := h
  exact ⟨a1, a2, a3, a4, a5, a6, a7, a8, a9, a10⟩
set_option maxRecDepth 100000 in
set_option maxHeartbeats 4000000 in
theorem pneed_yes (fm W H bt C R b : Int) (w : World) (h : needB W H C R b = true) :
    Calls Tryz.prog 5 #[.agg #[.int .i64 fm, .int .i64 W, .int .i64 H, .int .i64 bt, .int .i64 C, .int .i64 R], .int .i64 b] w fun e w' => e = .returned (.agg (needL W H C R b).toArray) ∧ Below w.heap.size w w' := by
  obtain ⟨w1, w2, h1, h2, c1, c2, r1, r2, b1, b2⟩ := need_in h
  unfold needB at h
  simp only [Bool.and_eq_true] at h
  obtain ⟨hHS1, hHS2, hHC1, hHC2, hHC3⟩ := h
  have HS1 := Hi (fun w0 => (nside_any W w0).mono (R' := fun e w' => e = .returned (.bool true) ∧ w' = w0) fun e w' hh => ⟨by rw [hh.1, hHS1], hh.2.symm⟩)
  have HS2 := Hi (fun w0 => (nside_any H w0).mono (R' := fun e w' => e = .returned (.bool true) ∧ w' = w0) fun e w' hh => ⟨by rw [hh.1, hHS2], hh.2.symm⟩)
  have HC1 := Hi (fun w0 => (ncount_any C w0).mono (R' := fun e w' => e = .returned (.bool true) ∧ w' = w0) fun e w' hh => ⟨by rw [hh.1, hHC1], hh.2.symm⟩)
  have HC2 := Hi (fun w0 => (ncount_any R w0).mono (R' := fun e w' => e = .returned (.bool true) ∧ w' = w0) fun e w' hh => ⟨by rw [hh.1, hHC2], hh.2.symm⟩)
  have HC3 := Hi (fun w0 => (ncount_any b w0).mono (R' := fun e w' => e = .returned (.bool true) ∧ w' = w0) fun e w' hh => ⟨by rw [hh.1, hHC3], hh.2.symm⟩)
  clear hHS1 hHS2 hHC1 hHC2 hHC3
  have hp0 : 0 ≤ 4 * W * H := Int.mul_nonneg (by omega) (by omega)
  have hp1 : 4 * W * H ≤ 65536 * 16384 := Int.mul_le_mul (by omega) h2 (by omega) (by omega)
  obtain ⟨p, hp⟩ : ∃ p, 4 * W * H = p := ⟨_, rfl⟩
  have E := Hi (show needL W H C R b = [.int .i64 W, .int .i64 H, .int .i64 (p + 4 * C + R), .int .i64 (8 * (b + p) + 1024)] by unfold needL; rw [hp])
  rw [hp] at hp0 hp1
  rw [E.out]
  have OP := Hi ((obj1_new w #[.int .i64 fm, .int .i64 W, .int .i64 H, .int .i64 bt, .int .i64 C, .int .i64 R] 23).alloc (.cells #[.int .i64 0, .int .i64 0, .int .i64 0, .int .i64 0] 25))
  have OB := Hi (obj1_new (w.alloc (.cells #[.int .i64 fm, .int .i64 W, .int .i64 H, .int .i64 bt, .int .i64 C, .int .i64 R] 23)) #[.int .i64 0, .int .i64 0, .int .i64 0, .int .i64 0] 25)
  have BL := Hi (((Below.refl w.heap.size w).alloc (Nat.le_refl _) (.cells #[.int .i64 fm, .int .i64 W, .int .i64 H, .int .i64 bt, .int .i64 C, .int .i64 R] 23)).alloc (by simp) (.cells #[.int .i64 0, .int .i64 0, .int .i64 0, .int .i64 0] 25))
  obtain ⟨d, hd⟩ : ∃ d, w.heap.size = d := ⟨_, rfl⟩
  have HD := Hi hd
  rw [show (w.alloc (.cells #[.int .i64 fm, .int .i64 W, .int .i64 H, .int .i64 bt, .int .i64 C, .int .i64 R] 23)).heap.size = d + 1 by rw [← hd]; simp] at OB
  rw [hd] at OP BL ⊢
  go_enter Tryz.func5, Tryz.ntmps5
  go_upto_region 1 with (fail)
  clear hd
  generalize World.alloc _ _ = wr at OP OB BL ⊢
  have q1 := (OP.out.cell 1).trans (show _ = some (.int .i64 W) from rfl)
  have q2 := (OP.out.cell 2).trans (show _ = some (.int .i64 H) from rfl)
  have q4 := (OP.out.cell 4).trans (show _ = some (.int .i64 C) from rfl)
  have q5 := (OP.out.cell 5).trans (show _ = some (.int .i64 R) from rfl)
  go_wp2_with (first
    | ((with_reducible refine skip_g rfl ?_ ?_); rfl; intro _)
    | (go_at_call 10; (with_reducible refine (HS1.out _).mono ?_); rintro e wq ⟨rfl, rfl⟩)
    | (go_at_call 10; (with_reducible refine (HS2.out _).mono ?_); rintro e wq ⟨rfl, rfl⟩)
    | (go_at_call 11; (with_reducible refine (HC1.out _).mono ?_); rintro e wq ⟨rfl, rfl⟩)
    | (go_at_call 11; (with_reducible refine (HC2.out _).mono ?_); rintro e wq ⟨rfl, rfl⟩)
    | (go_at_call 11; (with_reducible refine (HC3.out _).mono ?_); rintro e wq ⟨rfl, rfl⟩)
    | (refine store_o rfl 25 4 _ _ rfl (d + 1) [.int .i64 W, .int .i64 H, .int .i64 (p + 4 * C + R), .int .i64 (8 * (b + p) + 1024)] rfl rfl (by kernel_rfl) (by kernel_rfl) (by kernel_rfl) OB.out (by first | rfl | simp) ?_; intro ws hst hO; have OB := Hi hO; have BL := Hi (hst.below BL.out (by omega)); clear hst hO))
  refine bodyPost_ret (v := .agg ([.int .i64 W, .int .i64 H, .int .i64 (p + 4 * C + R), .int .i64 (8 * (b + p) + 1024)]).toArray) ?_ rfl ⟨rfl, BL.out⟩
  exact results_c Tryz.results5 _ _ _ ([.int .i64 W, .int .i64 H, .int .i64 (p + 4 * C + R), .int .i64 (8 * (b + p) + 1024)]) _ rfl OB.out.range0 Tryz.underlying25 rfl (by kernel_rfl)
end Go.Proofs.YtcjjfnghgajefaaGreat
namespace Go.Proofs.YtcjjfnghgajefaaGreat
open Go.RowKit Go.Maps
set_option linter.unusedVariables false
set_option linter.unusedSimpArgs false
def exS : ByteArray := ⟨#[80, 53, 32, 50, 32, 51, 32, 50, 53, 53, 10, 97, 98, 99, 100, 101, 102]⟩
theorem ex_plan (L : Nat) : ((⟨L, exS, 0, 17, 0⟩ : Sr).ppnm (Led.new 0 0 0 1125899906842624)).2 = ([.int .i64 0, .int .i64 2, .int .i64 3, .int .i64 8, .int .i64 0, .int .i64 0], (0, 0)) := by kernel_rfl
set_option maxRecDepth 100000 in
set_option maxHeartbeats 4000000 in
theorem ofex_any (w : World) : Calls Tryz.prog 12 #[.string exS] w fun e w' => e = .returned (.tuple #[.agg (List.toArray [.int .i64 3, .int .i64 2, .int .i64 3, .int .i64 8, .int .i64 0, .int .i64 0]), .agg (List.toArray [.int .i64 0, .int .i64 0, .int .i64 0])]) ∧ Below w.heap.size w w' := by
  have H1 := Hi (fun w0 => (show Calls Tryz.prog 13 #[.string exS] w0 (fun e w' => e = .returned (.int .i64 3) ∧ Below w0.heap.size w0 w') from (sformat_any exS w0 (by decide +kernel)).mono fun e w' hh => ⟨hh.1.trans (by rw [show firstOf (allTo exS 8) = 3 by decide +kernel]), hh.2⟩))
  have H2 := Hi (fun w0 => readers_any w0)
  have H3 := Hi (fun w0 => lnew_any 0 0 0 1125899906842624 w0 (by decide) (by decide))
  have H4 := Hi (fun L w0 hL => snew_any L exS w0 (by decide +kernel) hL)
  have H5 := Hi (fun L X (w0 : World) (h0 : Pair w0 X ⟨L, exS, 0, 17, 0⟩ (Led.new 0 0 0 1125899906842624)) => (ofpnm_any (Rdr.of h0)).mono (R' := fun e w' => e = .returned (.tuple #[.agg (List.toArray [.int .i64 0, .int .i64 2, .int .i64 3, .int .i64 8, .int .i64 0, .int .i64 0]), .agg (List.toArray [.int .i64 0, .int .i64 0, .int .i64 0])]) ∧ Chg (two X ⟨L, exS, 0, 17, 0⟩) w0 w') fun e w' hh => ⟨hh.1.trans (by rw [ex_plan]; rfl), hh.2.2⟩)
  have O2 := Hi ((obj1_new w #[.int .i64 0, .int .i64 0, .int .i64 0, .int .i64 0, .int .i64 0, .int .i64 0] 23).alloc (.cells #[.int .i64 0, .int .i64 0, .int .i64 0] 36))
  have O3 := Hi (obj1_new (w.alloc (.cells #[.int .i64 0, .int .i64 0, .int .i64 0, .int .i64 0, .int .i64 0, .int .i64 0] 23)) #[.int .i64 0, .int .i64 0, .int .i64 0] 36)
  have BL := Hi (((Below.refl w.heap.size w).alloc (Nat.le_refl _) (.cells #[.int .i64 0, .int .i64 0, .int .i64 0, .int .i64 0, .int .i64 0, .int .i64 0] 23)).alloc (by simp) (.cells #[.int .i64 0, .int .i64 0, .int .i64 0] 36))
  obtain ⟨d, hd⟩ : ∃ d, w.heap.size = d := ⟨_, rfl⟩
  rw [show (w.alloc (.cells #[.int .i64 0, .int .i64 0, .int .i64 0, .int .i64 0, .int .i64 0, .int .i64 0] 23)).heap.size = d + 1 by rw [← hd]; simp] at O3
  rw [hd] at O2
  have HDe := Hi hd
  obtain ⟨s, hs⟩ : ∃ s, exS = s := ⟨_, rfl⟩
  rw [hs] at H1 H4 H5 ⊢
  have HSZ := Hi (show s.size = 17 by rw [← hs]; rfl)
  clear hs
  go_enter Tryz.func12, Tryz.ntmps12
  go_upto_region 1 with (fail)
  clear hd
  generalize World.alloc (World.alloc _ _) _ = wr at O2 O3 BL ⊢
  go_upto_region 3 with (first
    | ((go_at_call 13; (with_reducible refine (H1.out _).mono ?_); rintro e w3 ⟨rfl, hb⟩); have O2 := Hi (O2.out.below hb O2.out.lt); have O3 := Hi (O3.out.below hb O3.out.lt); have BL := Hi (bthen hb BL.out BL.out.size); clear hb)
    | ((go_at_call 14; (with_reducible refine (H2.out _).mono ?_); rintro e w4 ⟨rfl, hown, hb⟩); have O2 := Hi (O2.out.below hb O2.out.lt); have O3 := Hi (O3.out.below hb O3.out.lt); have BL := Hi (bthen hb BL.out BL.out.size); clear hb)
    | (at_lookup; refine wpList_lookup_own_ok _ rfl _ _ 44 rfl 3 42 lawI Tryz.underlying44 fnElem (zeroF _) (.lit (.int .i64 (-1))) [] rfl _ _ _ rfl hown _ _ rfl (keyOf_int_mk Tryz.underlying3 (by decide)) ?_; intro v ps hv; rw [rdD_has]; rw [rdD_at] at hv; have hv := fnElem_inv hv; subst hv))
  try clear hown
  go_upto_region 6 with (first
    | ((go_at_call 15; (with_reducible refine (H3.out _).mono ?_); rintro e w5 ⟨L, rfl, hL, hLw, hC⟩); have lw5 := Nat.le_trans BL.out.size hLw))
  have lL3 := Nat.lt_of_lt_of_le O3.out.lt hLw
  have BL := Hi (bchg BL.out hC (BL.out.size) (fun k h => h.elim))
  have O2 := Hi (hC.obj O2.out (fun h => h))
  have O3 := Hi (hC.obj O3.out (fun h => h))
  clear hC hLw
  go_upto_region 7 with (first
    | ((go_at_call 16; (with_reducible refine (H4.out L _ hL.lt).mono ?_); rintro e w6 ⟨X, rfl, hX, hXw, hC⟩)))
  have lX := Nat.le_trans BL.out.size hXw
  have lX3 := Nat.lt_of_lt_of_le O3.out.lt hXw
  clear hXw
  have HP := Hi (show Pair w6 X ⟨L, s, 0, 17, 0⟩ (Led.new 0 0 0 1125899906842624) from ⟨by have := hX; rw [HSZ.out] at this; exact this, hL.chg hC (fun h => h)⟩)
  have BL := Hi (bchg BL.out hC (BL.out.size) (fun k h => h.elim))
  have O2 := Hi (hC.obj O2.out (fun h => h))
  have O3 := Hi (hC.obj O3.out (fun h => h))
  have lz3 := O3.out.lt
  clear hC hX hL
  go_wp2_with fail
  with_reducible refine (H5.out L X _ HP.out).mono ?_
  rintro e w7 ⟨rfl, hC⟩
  have BL := Hi (bchg BL.out hC (BL.out.size) (fun k h => h.elim (fun h => by rw [h]; exact lX) (fun h => by rw [h]; exact lw5)))
  have O2 := Hi (hC.obj O2.out (fun h => h.elim (fun h => by omega) (fun h => by have : d = L := h; omega)))
  have O3 := Hi (hC.obj O3.out (fun h => h.elim (fun h => by omega) (fun h => by have : d + 1 = L := h; omega)))
  have lz3 := O3.out.lt
  clear hC HP lX lw5 lX3 lL3
  obtain ⟨g, hg⟩ : ∃ b, w7.heap.size = b := ⟨_, rfl⟩
  have O4 := Hi ((obj1_new w7 #[.int .i64 0, .int .i64 0, .int .i64 0, .int .i64 0, .int .i64 0, .int .i64 0] 23).alloc (.cells #[.int .i64 0, .int .i64 0, .int .i64 0] 36))
  have lzz : (w7.alloc (Obj.cells #[.int .i64 0, .int .i64 0, .int .i64 0, .int .i64 0, .int .i64 0, .int .i64 0] 23)).heap.size = g + 1 := by rw [World.size_alloc, hg]
  have O5 := Hi (obj1_new (w7.alloc (Obj.cells #[.int .i64 0, .int .i64 0, .int .i64 0, .int .i64 0, .int .i64 0, .int .i64 0] 23)) #[.int .i64 0, .int .i64 0, .int .i64 0] 36)
  rw [lzz] at O5
  rw [hg] at O4 lz3
  have BL := Hi ((BL.out.alloc BL.out.size (.cells #[.int .i64 0, .int .i64 0, .int .i64 0, .int .i64 0, .int .i64 0, .int .i64 0] 23)).alloc (by have := BL.out.size; rw [lzz]; omega) (.cells #[.int .i64 0, .int .i64 0, .int .i64 0] 36))
  have O2 := Hi ((O2.out.alloc (.cells #[.int .i64 0, .int .i64 0, .int .i64 0, .int .i64 0, .int .i64 0, .int .i64 0] 23)).alloc (.cells #[.int .i64 0, .int .i64 0, .int .i64 0] 36))
  have O3 := Hi ((O3.out.alloc (.cells #[.int .i64 0, .int .i64 0, .int .i64 0, .int .i64 0, .int .i64 0, .int .i64 0] 23)).alloc (.cells #[.int .i64 0, .int .i64 0, .int .i64 0] 36))
  clear lzz
  go_upto_region 8 with (first
    | (refine store_o rfl 23 6 _ _ rfl g [.int .i64 0, .int .i64 2, .int .i64 3, .int .i64 8, .int .i64 0, .int .i64 0] rfl rfl (by kernel_rfl) (by kernel_rfl) (by kernel_rfl) O4.out (by first | rfl | simp) ?_; intro w8 hst hO; have O4 := Hi hO; have O2 := Hi (hst.oth O2.out (by omega)); have O3 := Hi (hst.oth O3.out (by omega)); have O5 := Hi (hst.oth O5.out (by omega)); have BL := Hi (hst.below BL.out (by have := HDe.out; omega)); clear hst hO)
    | (refine store_o rfl 36 3 _ _ rfl (g + 1) [.int .i64 0, .int .i64 0, .int .i64 0] rfl rfl (by kernel_rfl) (by kernel_rfl) (by kernel_rfl) O5.out (by first | rfl | simp) ?_; intro w9 hst hO; have O5 := Hi hO; have O2 := Hi (hst.oth O2.out (by omega)); have O3 := Hi (hst.oth O3.out (by omega)); have O4 := Hi (hst.oth O4.out (by omega)); have BL := Hi (hst.below BL.out (by have := HDe.out; omega)); clear hst hO))
  clear hg
  have c0 := (O5.out.cell 0).trans (show _ = some (.int .i64 0) from rfl)
  go_upto_region 11 with (first
    | (refine store_c rfl 3 _ _ rfl (g) 0 (.int .i64 3) rfl rfl (by kernel_rfl) (by kernel_rfl) (by kernel_rfl) O4.out (show 0 < 6 by decide) (cs' := List.toArray ([.int .i64 3, .int .i64 2, .int .i64 3, .int .i64 8, .int .i64 0, .int .i64 0])) rfl ?_; intro ws hst hO; have O4 := Hi hO; have O2 := Hi (hst.oth O2.out (by omega)); have O3 := Hi (hst.oth O3.out (by omega)); have O5 := Hi (hst.oth O5.out (by omega)); have BL := Hi (hst.below BL.out (by have := HDe.out; omega)); clear hst hO))
  clear c0
  go_wp2_with (first
    | (refine load_u (by kernel_rfl) 23 6 _ rfl g [.int .i64 3, .int .i64 2, .int .i64 3, .int .i64 8, .int .i64 0, .int .i64 0] rfl rfl O4.out Tryz.underlying23 rfl (by kernel_rfl) ?_; intro _)
    | (refine store_o rfl 23 6 _ _ rfl d [.int .i64 3, .int .i64 2, .int .i64 3, .int .i64 8, .int .i64 0, .int .i64 0] rfl rfl (by kernel_rfl) (by kernel_rfl) (by kernel_rfl) O2.out (by first | rfl | simp) ?_; intro ws hst hO; have O2 := Hi hO; have O3 := Hi (hst.oth O3.out (by omega)); have O4 := Hi (hst.oth O4.out (by omega)); have O5 := Hi (hst.oth O5.out (by omega)); have BL := Hi (hst.below BL.out (by have := HDe.out; omega)); clear hst hO)
    | (refine store_o rfl 36 3 _ _ rfl (d + 1) [.int .i64 0, .int .i64 0, .int .i64 0] rfl rfl (by kernel_rfl) (by kernel_rfl) (by kernel_rfl) O3.out (by first | rfl | simp) ?_; intro ws hst hO; have O3 := Hi hO; have O2 := Hi (hst.oth O2.out (by omega)); have O4 := Hi (hst.oth O4.out (by omega)); have O5 := Hi (hst.oth O5.out (by omega)); have BL := Hi (hst.below BL.out (by have := HDe.out; omega)); clear hst hO))
  refine bodyPost_ret (v := .tuple #[.agg (List.toArray [.int .i64 3, .int .i64 2, .int .i64 3, .int .i64 8, .int .i64 0, .int .i64 0]), .agg (List.toArray [.int .i64 0, .int .i64 0, .int .i64 0])]) ?_ rfl ⟨rfl, BL.out⟩
  exact results_cc Tryz.results12 _ _ _ _ [.int .i64 3, .int .i64 2, .int .i64 3, .int .i64 8, .int .i64 0, .int .i64 0] [.int .i64 0, .int .i64 0, .int .i64 0] _ _ rfl O2.out.range0 Tryz.underlying23 rfl (by kernel_rfl) rfl O3.out.range0 Tryz.underlying36 rfl (by kernel_rfl)
set_option maxRecDepth 100000 in
set_option maxHeartbeats 4000000 in
theorem awake31 (w : World) : Calls Tryz.prog 6 #[] w fun e w' => e = .returned (.bool true) ∧ Below w.heap.size w w' := by
  have H1 := Hi (fun w0 => ofex_any w0)
  unfold exS at H1
  have H2 := Hi (fun w0 => (pneed_yes 3 2 3 8 0 0 17 w0 (by decide)).mono (R' := fun e w' => e = .returned (.agg (List.toArray [.int .i64 2, .int .i64 3, .int .i64 24, .int .i64 1352])) ∧ Below w0.heap.size w0 w') fun e w' hh => hh)
  have BL := Hi (Below.refl w.heap.size w)
  go_enter Tryz.func6, Tryz.ntmps6
  go_wp2_with fail
  with_reducible refine (H1.out _).mono ?_
  rintro e w1 ⟨rfl, hb⟩
  have BL := Hi (bthen hb BL.out BL.out.size)
  clear hb
  obtain ⟨d, hg⟩ : ∃ b, w1.heap.size = b := ⟨_, rfl⟩
  have HDe := Hi (show w.heap.size ≤ d by rw [← hg]; exact BL.out.size)
  have O1 := Hi ((obj1_new w1 #[.int .i64 0, .int .i64 0, .int .i64 0, .int .i64 0, .int .i64 0, .int .i64 0] 23).alloc (.cells #[.int .i64 0, .int .i64 0, .int .i64 0] 36))
  have lzz : (w1.alloc (Obj.cells #[.int .i64 0, .int .i64 0, .int .i64 0, .int .i64 0, .int .i64 0, .int .i64 0] 23)).heap.size = d + 1 := by rw [World.size_alloc, hg]
  have O2 := Hi (obj1_new (w1.alloc (Obj.cells #[.int .i64 0, .int .i64 0, .int .i64 0, .int .i64 0, .int .i64 0, .int .i64 0] 23)) #[.int .i64 0, .int .i64 0, .int .i64 0] 36)
  rw [lzz] at O2
  rw [hg] at O1
  have BL := Hi ((BL.out.alloc BL.out.size (.cells #[.int .i64 0, .int .i64 0, .int .i64 0, .int .i64 0, .int .i64 0, .int .i64 0] 23)).alloc (by have := BL.out.size; rw [lzz]; omega) (.cells #[.int .i64 0, .int .i64 0, .int .i64 0] 36))
  clear lzz
  go_upto_region 2 with (first
    | (refine store_o rfl 23 6 _ _ rfl d [.int .i64 3, .int .i64 2, .int .i64 3, .int .i64 8, .int .i64 0, .int .i64 0] rfl rfl (by kernel_rfl) (by kernel_rfl) (by kernel_rfl) O1.out (by first | rfl | simp) ?_; intro w2 hst hO; have O1 := Hi hO; have O2 := Hi (hst.oth O2.out (by omega)); have BL := Hi (hst.below BL.out (by have := HDe.out; omega)); clear hst hO)
    | (refine store_o rfl 36 3 _ _ rfl (d + 1) [.int .i64 0, .int .i64 0, .int .i64 0] rfl rfl (by kernel_rfl) (by kernel_rfl) (by kernel_rfl) O2.out (by first | rfl | simp) ?_; intro w3 hst hO; have O2 := Hi hO; have O1 := Hi (hst.oth O1.out (by omega)); have BL := Hi (hst.below BL.out (by have := HDe.out; omega)); clear hst hO))
  clear hg
  go_wp2_with (refine load_u (by kernel_rfl) 23 6 _ rfl d [.int .i64 3, .int .i64 2, .int .i64 3, .int .i64 8, .int .i64 0, .int .i64 0] rfl rfl O1.out Tryz.underlying23 rfl (by kernel_rfl) ?_; intro _)
  with_reducible refine (H2.out _).mono ?_
  rintro e w4 ⟨rfl, hb⟩
  have BL := Hi (bthen hb BL.out BL.out.size)
  have O1 := Hi (O1.out.below hb O1.out.lt)
  have O2 := Hi (O2.out.below hb O2.out.lt)
  clear hb
  have lz := O2.out.lt
  obtain ⟨g, hg⟩ : ∃ b, w4.heap.size = b := ⟨_, rfl⟩
  have O3 := Hi (obj1_new w4 #[.int .i64 0, .int .i64 0, .int .i64 0, .int .i64 0] 25)
  rw [hg] at O3 lz
  have BL := Hi (BL.out.alloc BL.out.size (.cells #[.int .i64 0, .int .i64 0, .int .i64 0, .int .i64 0] 25))
  have O1 := Hi (O1.out.alloc (.cells #[.int .i64 0, .int .i64 0, .int .i64 0, .int .i64 0] 25))
  have O2 := Hi (O2.out.alloc (.cells #[.int .i64 0, .int .i64 0, .int .i64 0, .int .i64 0] 25))
  go_upto_region 3 with (first
    | (refine store_o rfl 25 4 _ _ rfl g [.int .i64 2, .int .i64 3, .int .i64 24, .int .i64 1352] rfl rfl (by kernel_rfl) (by kernel_rfl) (by kernel_rfl) O3.out (by first | rfl | simp) ?_; intro w5 hst hO; have O3 := Hi hO; have O1 := Hi (hst.oth O1.out (by omega)); have O2 := Hi (hst.oth O2.out (by omega)); have BL := Hi (hst.below BL.out (by have := HDe.out; omega)); clear hst hO))
  clear hg
  have k2 := (O3.out.cell 2).trans (show _ = some (.int .i64 24) from rfl)
  have k3 := (O3.out.cell 3).trans (show _ = some (.int .i64 1352) from rfl)
  go_wp2_with (first
    | (refine load_u (by kernel_rfl) 36 3 _ rfl (d + 1) [.int .i64 0, .int .i64 0, .int .i64 0] rfl rfl O2.out Tryz.underlying36 rfl (by kernel_rfl) ?_; intro _)
    | (refine load_u (by kernel_rfl) 23 6 _ rfl d [.int .i64 3, .int .i64 2, .int .i64 3, .int .i64 8, .int .i64 0, .int .i64 0] rfl rfl O1.out Tryz.underlying23 rfl (by kernel_rfl) ?_; intro _))
  go_ret
  exact ⟨rfl, BL.out⟩
end Go.Proofs.YtcjjfnghgajefaaGreat
namespace Go.Proofs.YtcjjfnghgajefaaGreat
open Go.RowKit
set_option linter.unusedVariables false
set_option linter.unusedSimpArgs false
def Yes31 (w : World) (e : Ending) (w' : World) : Prop := e = .returned (.bool true) ∧ Below w.heap.size w w'
end Go.Proofs.YtcjjfnghgajefaaGreat

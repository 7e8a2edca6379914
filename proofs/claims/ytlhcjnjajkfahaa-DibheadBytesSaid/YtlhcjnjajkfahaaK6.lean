/- tgahead.checks. -/
import Derived.Test.YtlhcjnjajkfahaaK5
import Derived.Deep.CutRange
namespace Go.Proofs.Ytlhcjnjajkfahaa
open Go.RowKit
set_option linter.unusedVariables false
set_option linter.unusedSimpArgs false
theorem cut_reg {P : Program} {id : Nat} {ops : Array Oper} {b : Bool} {Q : Exit → Act → World → Prop} {a : Act} {w : World} (R : Act → World → Prop)
    (h1 : (Code.region id ops b).wp P (fun e a' w' => e = .normal ∧ R a' w') a w) (h2 : ∀ a' w', R a' w' → Q .normal a' w') : (Code.region id ops b).wp P Q a w :=
  Code.wp_mono (fun e a' w' ⟨he, hr⟩ => by subst he; exact h2 a' w' hr) h1
def knownB (k : Int) : Bool := (decide (1 ≤ plainI k) && decide (plainI k ≤ 3)) && (decide (k ≤ 3) || packB k)
/-- The checks' rows: what is wrong, of which kind, where, and whether it is loose. -/
def chkArr (x1 : Int) (kn pb th c7 : Bool) (C W H : Int) (dp : Bool) (f : Int) (al : Bool) : Array Value :=
  #[.bool (decide (1 < x1)), .int .i64 2, .int .i64 1, .bool false, .bool (!kn), .int .i64 3, .int .i64 2, .bool false, .bool (pb && !th), .int .i64 2, .int .i64 1, .bool false,
    .bool (th && !c7), .int .i64 3, .int .i64 7, .bool false, .bool (th && C == 0), .int .i64 2, .int .i64 5, .bool true, .bool (W == 0), .int .i64 2, .int .i64 12, .bool false,
    .bool (decide (16384 < W)), .int .i64 3, .int .i64 12, .bool true, .bool (H == 0), .int .i64 2, .int .i64 14, .bool false, .bool (decide (16384 < H)), .int .i64 3, .int .i64 14, .bool true,
    .bool (!dp), .int .i64 3, .int .i64 16, .bool false, .bool (f / 64 != 0), .int .i64 3, .int .i64 17, .bool true, .bool (!al), .int .i64 2, .int .i64 17, .bool true]
def chkOf (s : ByteArray) : Array Value := chkArr (byN s 1) (knownB (byN s 2)) (plainI (byN s 2) == 1) (byN s 1 == 1) (colB (byN s 7)) (wordN s 5) (wordN s 12) (wordN s 14) (depB (byN s 2) (byN s 16)) (byN s 17) (alpB (byN s 16) (bits .and .i64 (byN s 17) 15))
def ChkPost (s : ByteArray) (w : World) (e : Ending) (w' : World) : Prop := ∃ B T, e = .returned (.slice (some ⟨B, 0, none⟩) 12 12) ∧ Obj1 w' B (chkOf s) T ∧ w.heap.size ≤ B ∧ Below w.heap.size w w'
set_option maxRecDepth 100000 in
set_option maxHeartbeats 8000000 in
theorem checks_any (s : ByteArray) (w : World) (h : s.size = 18) : Calls Try.prog 93 #[.string s] w (ChkPost s w) := by
  obtain ⟨k, hk⟩ : ∃ k, byN s 2 = k := ⟨_, rfl⟩
  obtain ⟨P, hP⟩ : ∃ P, plainI k = P := ⟨_, rfl⟩
  have bk := byN_bd s 2
  have b1 := byN_bd s 1
  have b17 := byN_bd s 17
  have b16 := byN_bd s 16
  have b7 := byN_bd s 7
  rw [hk] at bk
  have i1 : 1 < s.size := by omega
  have i2 : 2 < s.size := by omega
  have i7 : 7 < s.size := by omega
  have i16 : 16 < s.size := by omega
  have i17 : 17 < s.size := by omega
  have g1 : ((s[1]).toNat : Int) = byN s 1 := byN_get s 1 i1
  have g2 : ((s[2]).toNat : Int) = k := by rw [← hk]; exact byN_get s 2 i2
  have g7 : ((s[7]).toNat : Int) = byN s 7 := byN_get s 7 i7
  have g16 : ((s[16]).toNat : Int) = byN s 16 := byN_get s 16 i16
  have g17 : ((s[17]).toNat : Int) = byN s 17 := byN_get s 17 i17
  have HPL := Lib.hid (fun w0 => plain_any k w0 bk.1 (by omega))
  rw [hP] at HPL
  obtain ⟨x1, hx1⟩ : ∃ x, byN s 1 = x := ⟨_, rfl⟩
  obtain ⟨x7, hx7⟩ : ∃ x, byN s 7 = x := ⟨_, rfl⟩
  obtain ⟨n, hn⟩ : ∃ x, byN s 16 = x := ⟨_, rfl⟩
  obtain ⟨f, hf⟩ : ∃ x, byN s 17 = x := ⟨_, rfl⟩
  obtain ⟨W, hW⟩ : ∃ x, wordN s 12 = x := ⟨_, rfl⟩
  obtain ⟨H, hH⟩ : ∃ x, wordN s 14 = x := ⟨_, rfl⟩
  obtain ⟨C, hC⟩ : ∃ x, wordN s 5 = x := ⟨_, rfl⟩
  obtain ⟨pk, hpk⟩ : ∃ x, packB k = x := ⟨_, rfl⟩
  obtain ⟨c7, hc7⟩ : ∃ x, colB x7 = x := ⟨_, rfl⟩
  obtain ⟨dp, hdp⟩ : ∃ x, depB k n = x := ⟨_, rfl⟩
  rw [hx1] at g1 b1
  rw [hx7] at g7 b7
  rw [hn] at g16 b16
  rw [hf] at g17 b17
  have HPK := Lib.hid (fun w0 => packed_any k w0)
  rw [hpk] at HPK
  have HC7 := Lib.hid (fun w0 => colors_any x7 w0)
  rw [hc7] at HC7
  have HDP := Lib.hid (fun w0 => depth_any k n w0 bk.1 (by omega))
  rw [hdp] at HDP
  have HW5 := Lib.hid (fun w0 => word_at s 5 5 C w0 rfl hC (by omega) (by omega))
  have HW12 := Lib.hid (fun w0 => word_at s 12 12 W w0 rfl hW (by omega) (by omega))
  have HW14 := Lib.hid (fun w0 => word_at s 14 14 H w0 rfl hH (by omega) (by omega))
  obtain ⟨a, ha⟩ : ∃ x, bits .and .i64 f 15 = x := ⟨_, rfl⟩
  obtain ⟨al, hal⟩ : ∃ x, alpB n a = x := ⟨_, rfl⟩
  have HAL := Lib.hid (fun w0 => alpha_any n a w0)
  rw [hal] at HAL
  have e1 : wrap64 k = k := IntWalk.wrap64_in k (by omega)
  have e2 : wrap64 f = f := IntWalk.wrap64_in f (by omega)
  have e3 : wrap64 n = n := IntWalk.wrap64_in n (by omega)
  have e4 : wrap64 x7 = x7 := IntWalk.wrap64_in x7 (by omega)
  obtain ⟨th, hth⟩ : ∃ x, (x1 == 1) = x := ⟨_, rfl⟩
  obtain ⟨pb, hpb⟩ : ∃ x, (P == 1) = x := ⟨_, rfl⟩
  obtain ⟨KN, hKN⟩ : ∃ x, knownB k = x := ⟨_, rfl⟩
  have HEND := Lib.hid (show ∀ w' : World, Below w.heap.size w w' → ChkPost s w (.returned (.slice (some ⟨w'.heap.size, 0, none⟩) 12 12)) (w'.alloc (.cells (chkArr x1 KN pb th c7 C W H dp f al) 129)) from fun w' hb => by
    have e : chkOf s = chkArr x1 KN pb th c7 C W H dp f al := by unfold chkOf; rw [hx1, hk, hx7, hn, hf, hW, hH, hC, hKN, hc7, hdp, ha, hal, hth, hP, hpb]
    exact ⟨w'.heap.size, _, rfl, by rw [e]; exact obj1_new _ _ _, hb.size, hb.alloc hb.size _⟩)
  have hcase : (k = 0 ∧ P = 0 ∧ KN = false) ∨ (1 ≤ k ∧ k ≤ 3 ∧ P = k ∧ KN = true) ∨ (4 ≤ k ∧ 1 ≤ P ∧ P ≤ 3 ∧ pk = true ∧ KN = true) ∨ (4 ≤ k ∧ 4 ≤ P ∧ KN = false) := by
    by_cases h9 : 9 ≤ k ∧ k ≤ 11
    · have e : packB k = true := by unfold packB; simp; omega
      have eP : plainI k = k - 8 := by unfold plainI; rw [if_pos e]
      rw [e] at hpk; rw [eP] at hP
      refine Or.inr (Or.inr (Or.inl ⟨by omega, by omega, by omega, hpk.symm, ?_⟩))
      rw [← hKN]; unfold knownB; rw [eP, e]; simp; omega
    · have e : packB k = false := by unfold packB; simp; omega
      have eP : plainI k = k := by unfold plainI; rw [if_neg (by rw [e]; decide)]
      rw [eP] at hP
      by_cases k0 : k = 0
      · exact Or.inl ⟨k0, by omega, by rw [← hKN]; unfold knownB; rw [eP, e, k0]; decide⟩
      by_cases k3 : k ≤ 3
      · exact Or.inr (Or.inl ⟨by omega, k3, hP.symm, by rw [← hKN]; unfold knownB; rw [eP]; simp; omega⟩)
      · exact Or.inr (Or.inr (Or.inr ⟨by omega, by omega, by rw [← hKN]; unfold knownB; rw [eP]; simp; omega⟩))
  have HCASE := Lib.hid hcase
  clear hcase bk b1 b17 b16 b7 hk hP hx1 hx7 hn hf hW hH hC hpk hc7 hdp hal h hKN
  go_enter Try.func93, Try.ntmps93
  go_wp2_with fail
  go_quiet (fail)
  generalize hw1 : w.drewN _ = w1
  go_upto_region 2 with (fail)
  simp only [e1, e2]
  go_cut [6] from 19 to 34 (fun c wx => c = .bool KN ∧ wx = w1)
  case first =>
    rcases HCASE.out with ⟨rfl, rfl, rfl⟩ | ⟨h1, h2, rfl, rfl⟩ | ⟨h1, h2, h3, rfl, rfl⟩ | ⟨h1, h2, rfl⟩
    · go_wp2_with (first | (go_at_call 112; (with_reducible refine (HPL.out _).mono ?_); rintro e w1 ⟨rfl, rfl⟩) | (go_at_call 113; (with_reducible refine (HPK.out _).mono ?_); rintro e w1 ⟨rfl, rfl⟩))
      go_meet
      exact ⟨rfl, rfl⟩
    · have q1 : decide (P ≥ 1) = true := by simpa using h1
      have q2 : decide (P ≤ 3) = true := by simpa using h2
      go_wp2_with (first | (go_at_call 112; (with_reducible refine (HPL.out _).mono ?_); rintro e w1 ⟨rfl, rfl⟩) | (go_at_call 113; (with_reducible refine (HPK.out _).mono ?_); rintro e w1 ⟨rfl, rfl⟩))
      go_meet
      exact ⟨rfl, rfl⟩
    · have q1 : decide (P ≥ 1) = true := by simpa using h2
      have q2 : decide (P ≤ 3) = true := by simpa using h3
      have q3 : decide (k ≤ 3) = false := by rw [decide_eq_false_iff_not]; omega
      go_wp2_with (first | (go_at_call 112; (with_reducible refine (HPL.out _).mono ?_); rintro e w1 ⟨rfl, rfl⟩) | (go_at_call 113; (with_reducible refine (HPK.out _).mono ?_); rintro e w1 ⟨rfl, rfl⟩))
      go_meet
      exact ⟨rfl, rfl⟩
    · have q1 : decide (P ≥ 1) = true := by rw [decide_eq_true_iff]; omega
      have q2 : decide (P ≤ 3) = false := by rw [decide_eq_false_iff_not]; omega
      go_wp2_with (first | (go_at_call 112; (with_reducible refine (HPL.out _).mono ?_); rintro e w1 ⟨rfl, rfl⟩) | (go_at_call 113; (with_reducible refine (HPK.out _).mono ?_); rintro e w1 ⟨rfl, rfl⟩))
      go_meet
      exact ⟨rfl, rfl⟩
  case rest =>
    obtain ⟨rfl, rfl⟩ := hcut
    go_wp2_with fail
    go_quiet ((go_at_call 114; first | with_reducible exact Calls.quiet_of (HW12.out _) | with_reducible exact Calls.quiet_of (HW14.out _)))
    go_wp2_with fail
    simp only [e3]
    generalize hw2 : World.drewN _ _ = w2
    have q4 := hpb
    have HB2 : Below w.heap.size w w2 := by
      rw [← hw2]
      first | (rw [← hw1]; exact bdrew (bdrew (Below.refl _ _) _) _) | exact bdrew (bdrew (Below.refl _ _) _) _
    have HB2 := Lib.hid HB2
    clear hw1 hw2
    cases th <;> cases pb
    all_goals
      refine wp_region_quiet_tail 58 (by kernel_rfl) (by kernel_rfl) ?_
      simp only [List.take_succ_cons, List.take_zero, List.drop_succ_cons, List.drop_zero]
      repeat go_big_quiet_step ((first
        | (go_at_call 112; exact Calls.quiet_of_same (HPL.out _))
        | (go_at_call 115; exact Calls.quiet_of_same (HC7.out _))
        | (go_at_call 114; with_reducible exact Calls.quiet_of (HW5.out _))
        | (go_at_call 116; exact Calls.quiet_of_same (HDP.out _))
        | (go_at_call 117; exact Calls.quiet_of_same (HAL.out _))))
      refine wpQuiet_nil ?_
      intro _ hw'
      obtain ⟨nq, hw''⟩ := hw'
      subst hw''
      have HB3 := Lib.hid (bdrew HB2.out nq)
      generalize hw3 : w2.drewN _ = w3 at HB3 ⊢
      go_wp2_with fail
      go_ret
      exact HEND.out w3 HB3.out
end Go.Proofs.Ytlhcjnjajkfahaa

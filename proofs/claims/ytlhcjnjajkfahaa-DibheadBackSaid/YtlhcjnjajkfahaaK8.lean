/- The reference of layer 16: Is, walked. -/
import Derived.Test.YtlhcjnjajkfahaaK7
import Derived.Deep.CutRange
namespace Go.Proofs.Ytlhcjnjajkfahaa
open Go.RowKit
set_option linter.unusedVariables false
set_option linter.unusedSimpArgs false
theorem known_eq (t : Int) (h0 : 0 ≤ t) : knownB t = ((t == 1 || t == 9) || ((t == 2 || t == 10) || (t == 3 || t == 11))) := by
  rw [Bool.eq_iff_iff]
  unfold knownB plainI packB
  by_cases h9 : 9 ≤ t ∧ t ≤ 11
  · rw [if_pos (by simp; omega)]; simp; omega
  · rw [if_neg (by simp; omega)]; simp; omega
theorem mapped_eq (t : Int) : (plainI t == 1) = (t == 1 || t == 9) := by
  rw [Bool.eq_iff_iff]
  unfold plainI packB
  by_cases h9 : 9 ≤ t ∧ t ≤ 11
  · rw [if_pos (by simp; omega)]; simp; omega
  · rw [if_neg (by simp; omega)]; simp; omega
theorem depB_eq (t n : Int) : depB t n = if (t == 2 || t == 10) = true then colB n else n == 8 := by
  by_cases h2 : t = 2
  · subst h2; rfl
  by_cases h10 : t = 10
  · subst h10; rfl
  have hp : plainI t ≠ 2 := by
    unfold plainI packB
    by_cases h9 : 9 ≤ t ∧ t ≤ 11
    · rw [if_pos (by simp; omega)]; omega
    · rw [if_neg (by simp; omega)]; exact h2
  unfold depB
  rw [if_neg hp, if_neg (by simp; omega)]
theorem word0 (s : ByteArray) (a : Nat) : (wordN s a == 0) = (byN s a == 0 && byN s (a + 1) == 0) := by
  have := byN_bd s a; have := byN_bd s (a + 1)
  rw [Bool.eq_iff_iff]; unfold wordN; simp; omega
set_option maxRecDepth 100000 in
set_option maxHeartbeats 4000000 in
theorem ris_any (s : ByteArray) (w : World) (hs : s.size ≤ 9223372036854775807) : Calls Try.prog 61 #[.string s] w fun e w' => e = .returned (.bool (isTga s)) ∧ Below w.heap.size w w' := by
  by_cases h : s.size < 18
  · have D0 : decide ((s.size : Int) < 18) = true := by rw [decide_eq_true_iff]; omega
    have E := Lib.hid (show isTga s = false by unfold isTga; rw [decide_eq_false (by omega)]; rfl)
    go_enter Try.func61, Try.ntmps61
    go_wp2
    go_ret
    exact ⟨ret_b E.out.symm, Below.refl _ _⟩
  have D0 : decide ((s.size : Int) < 18) = false := by rw [decide_eq_false_iff_not]; omega
  have h18 : 18 ≤ s.size := by omega
  have E : isTga s = (!decide (1 < byN s 1) && (knownB (byN s 2) && (!((plainI (byN s 2) == 1) && !(byN s 1 == 1)) && (!((byN s 1 == 1) && !colB (byN s 7)) && (!(wordN s 12 == 0) && (!(wordN s 14 == 0) && depB (byN s 2) (byN s 16))))))) := by
    unfold isTga; rw [decide_eq_true h18, Chk.is_eq]; rfl
  have b1 := byN_bd s 1
  have b2 := byN_bd s 2
  have b7 := byN_bd s 7
  have b16 := byN_bd s 16
  rw [known_eq _ b2.1, mapped_eq, depB_eq, word0, word0] at E
  have i1 : 1 < s.size := by omega
  have i2 : 2 < s.size := by omega
  have i7 : 7 < s.size := by omega
  have i12 : 12 < s.size := by omega
  have i13 : 13 < s.size := by omega
  have i14 : 14 < s.size := by omega
  have i15 : 15 < s.size := by omega
  have i16 : 16 < s.size := by omega
  obtain ⟨x1, hx1⟩ : ∃ x, byN s 1 = x := ⟨_, rfl⟩
  obtain ⟨t, ht⟩ : ∃ x, byN s 2 = x := ⟨_, rfl⟩
  obtain ⟨x7, hx7⟩ : ∃ x, byN s 7 = x := ⟨_, rfl⟩
  obtain ⟨n, hn⟩ : ∃ x, byN s 16 = x := ⟨_, rfl⟩
  have g1 : ((s[1]).toNat : Int) = x1 := hx1 ▸ byN_get s 1 i1
  have g2 : ((s[2]).toNat : Int) = t := ht ▸ byN_get s 2 i2
  have g7 : ((s[7]).toNat : Int) = x7 := hx7 ▸ byN_get s 7 i7
  have g16 : ((s[16]).toNat : Int) = n := hn ▸ byN_get s 16 i16
  have g12 := byN_get s 12 i12
  have g13 := byN_get s 13 i13
  have g14 := byN_get s 14 i14
  have g15 := byN_get s 15 i15
  rw [hx1] at E b1
  rw [ht] at E b2
  rw [hx7] at E b7
  rw [hn] at E b16
  obtain ⟨m1, e1⟩ : ∃ b, (t == 1) = b := ⟨_, rfl⟩
  obtain ⟨m9, e9⟩ : ∃ b, (t == 9) = b := ⟨_, rfl⟩
  obtain ⟨m2, e2⟩ : ∃ b, (t == 2) = b := ⟨_, rfl⟩
  obtain ⟨m10, e10⟩ : ∃ b, (t == 10) = b := ⟨_, rfl⟩
  obtain ⟨m3, e3⟩ : ∃ b, (t == 3) = b := ⟨_, rfl⟩
  obtain ⟨m11, e11⟩ : ∃ b, (t == 11) = b := ⟨_, rfl⟩
  have f3 : (t != 3) = !m3 := by rw [← e3]; rfl
  have f11 : (t != 11) = !m11 := by rw [← e11]; rfl
  obtain ⟨z, ez⟩ : ∃ b, (x1 == 0) = b := ⟨_, rfl⟩
  obtain ⟨th, eth⟩ : ∃ b, (x1 == 1) = b := ⟨_, rfl⟩
  obtain ⟨z12, ez12⟩ : ∃ b, (byN s 12 == 0) = b := ⟨_, rfl⟩
  obtain ⟨z13, ez13⟩ : ∃ b, (byN s (12 + 1) == 0) = b := ⟨_, rfl⟩
  obtain ⟨z14, ez14⟩ : ∃ b, (byN s 14 == 0) = b := ⟨_, rfl⟩
  obtain ⟨z15, ez15⟩ : ∃ b, (byN s (14 + 1) == 0) = b := ⟨_, rfl⟩
  obtain ⟨n8, en8⟩ : ∃ b, (n == 8) = b := ⟨_, rfl⟩
  obtain ⟨c7, ec7⟩ : ∃ b, colB x7 = b := ⟨_, rfl⟩
  obtain ⟨cn, ecn⟩ : ∃ b, colB n = b := ⟨_, rfl⟩
  rw [e1, e9, e2, e10, e3, e11, eth, ez12, ez13, ez14, ez15, en8, ec7, ecn] at E
  rw [show (12 + 1 : Nat) = 13 from rfl] at ez13
  rw [show (14 + 1 : Nat) = 15 from rfl] at ez15
  have HC7 := Lib.hid (fun w0 => colors_any x7 w0)
  have HR7 := Lib.hid (fun w0 => rcolor_any x7 w0)
  have HRN := Lib.hid (fun w0 => rcolor_any n w0)
  rw [ec7] at HR7
  rw [ecn] at HRN
  have w7 : wrap64 x7 = x7 := IntWalk.wrap64_in x7 (by omega)
  have wn : wrap64 n = n := IntWalk.wrap64_in n (by omega)
  have wt : wrap64 t = t := IntWalk.wrap64_in t (by omega)
  by_cases hx : 1 < x1
  · have D1 : decide (x1 > 1) = true := by rw [decide_eq_true_iff]; omega
    have EE := Lib.hid (show isTga s = false by rw [E, decide_eq_true hx]; rfl)
    clear E
    go_enter Try.func61, Try.ntmps61
    go_wp2_with fail
    go_ret
    exact ⟨ret_b EE.out.symm, Below.refl _ _⟩
  have D1 : decide (x1 > 1) = false := by rw [decide_eq_false_iff_not]; omega
  have HZ : z = !th := by
    rw [← ez, ← eth, Bool.eq_iff_iff]; simp; omega
  have EE := Lib.hid (show isTga s = ((m1 || m9 || (m2 || m10 || (m3 || m11))) && (!((m1 || m9) && !th) && (!(th && !c7) && (!(z12 && z13) && (!(z14 && z15) && if (m2 || m10) = true then cn else n8))))) by rw [E, decide_eq_false hx]; rfl)
  clear E hx b1 b2 b7 b16 hx1 ht hx7 hn ec7 ecn HC7 h
  subst HZ
  go_enter Try.func61, Try.ntmps61
  go_upto_region 4 with (fail)
  simp only [wt]
  go_cut [4] from 17 to 22 (fun c wx => c = .bool (m1 || m9) ∧ wx = w)
  case first =>
    cases m1 <;> (go_wp2_with fail; go_meet; exact ⟨rfl, rfl⟩)
  case rest =>
  obtain ⟨rfl, rfl⟩ := hcut
  go_upto_region 5 with (fail)
  go_cut [5] from 23 to 28 (fun c wx => c = .bool (m2 || m10) ∧ wx = wc)
  case first =>
    cases m2 <;> (go_wp2_with fail; go_meet; exact ⟨rfl, rfl⟩)
  case rest =>
  obtain ⟨rfl, rfl⟩ := hcut
  obtain ⟨M, hM⟩ : ∃ b, (m1 || m9) = b := ⟨_, rfl⟩
  obtain ⟨CC, hCC⟩ : ∃ b, (m2 || m10) = b := ⟨_, rfl⟩
  rw [hM, hCC] at EE ⊢
  clear e1 e9 e2 e10 hM hCC
  have E2 : isTga s = (!(!(M || (CC || (m3 || m11))) || (M && !th) || (th && !c7)) && (!(z12 && z13 || z14 && z15) && (CC && cn || !CC && n8))) := by
    rw [EE.out]
    cases CC
    · cases M <;> cases m3 <;> cases m11 <;> cases th <;> cases c7 <;> cases z12 <;> cases z13 <;> cases z14 <;> cases z15 <;> rfl
    · cases M <;> cases m3 <;> cases m11 <;> cases th <;> cases c7 <;> cases z12 <;> cases z13 <;> cases z14 <;> cases z15 <;> simp
  have E2 := Lib.hid E2
  go_upto_region 6 with (fail)
  go_cut [62] from 29 to 62 (fun c wx => c = .bool (!(M || (CC || (m3 || m11))) || (M && !th) || (th && !c7)) ∧ wx = wc)
  case first =>
    cases M
    · cases CC
      · cases m3
        · cases m11
          · go_wp2_with fail
            go_meet; exact ⟨rfl, rfl⟩
          · cases th <;> (go_wp2_with (go_at_call 94; (with_reducible refine (HR7.out _).mono ?_); rintro e w1 ⟨rfl, rfl⟩); go_meet; exact ⟨rfl, rfl⟩)
        · cases th <;> (go_wp2_with (go_at_call 94; (with_reducible refine (HR7.out _).mono ?_); rintro e w1 ⟨rfl, rfl⟩); go_meet; exact ⟨rfl, rfl⟩)
      · cases th <;> (go_wp2_with (go_at_call 94; (with_reducible refine (HR7.out _).mono ?_); rintro e w1 ⟨rfl, rfl⟩); go_meet; exact ⟨rfl, rfl⟩)
    · cases th <;> (go_wp2_with (go_at_call 94; (with_reducible refine (HR7.out _).mono ?_); rintro e w1 ⟨rfl, rfl⟩); go_meet; exact ⟨rfl, rfl⟩)
  case rest =>
  obtain ⟨rfl, rfl⟩ := hcut
  obtain ⟨BD, hBD⟩ : ∃ b, (!(M || (CC || (m3 || m11))) || (M && !th) || (th && !c7)) = b := ⟨_, rfl⟩
  rw [hBD] at E2 ⊢
  clear EE hBD
  cases BD
  rotate_left
  · go_wp2_with fail
    go_ret
    exact ⟨ret_b E2.out.symm, Below.refl _ _⟩
  go_upto_region 8 with (fail)
  go_cut [80] from 63 to 80 (fun c wx => c = .bool (z12 && z13 || z14 && z15) ∧ wx = wc)
  case first =>
    cases z12
    · cases z14 <;> (go_wp2_with fail; go_meet; exact ⟨rfl, rfl⟩)
    · cases z13
      · cases z14 <;> (go_wp2_with fail; go_meet; exact ⟨rfl, rfl⟩)
      · go_wp2_with fail; go_meet; exact ⟨rfl, rfl⟩
  case rest =>
  obtain ⟨rfl, rfl⟩ := hcut
  obtain ⟨BZ, hBZ⟩ : ∃ b, (z12 && z13 || z14 && z15) = b := ⟨_, rfl⟩
  rw [hBZ] at E2 ⊢
  clear hBZ
  cases BZ
  rotate_left
  · go_wp2_with fail
    go_ret
    exact ⟨ret_b E2.out.symm, Below.refl _ _⟩
  cases CC
  · go_wp2_with fail
    go_ret
    exact ⟨ret_b E2.out.symm, Below.refl _ _⟩
  · cases cn
    · go_wp2_with (go_at_call 94; (with_reducible refine (HRN.out _).mono ?_); rintro e w1 ⟨rfl, rfl⟩)
      go_ret
      exact ⟨ret_b E2.out.symm, Below.refl _ _⟩
    · go_wp2_with (go_at_call 94; (with_reducible refine (HRN.out _).mono ?_); rintro e w1 ⟨rfl, rfl⟩)
      go_ret
      exact ⟨ret_b E2.out.symm, Below.refl _ _⟩
end Go.Proofs.Ytlhcjnjajkfahaa

/- The law TgaheadBack, walked. -/
import Derived.Test.YtomikbecbbjhoaaTB
import Derived.Test.YtomikbecbbjhoaaTC
namespace Go.Proofs.Ytomikbecbbjhoaa
open Go.RowKit
set_option linter.unusedVariables false
set_option linter.unusedSimpArgs false
theorem empty_append16 (s : ByteArray) : ByteArray.empty ++ s = s := by
  apply ByteArray.ext; simp
theorem res_split (s : ByteArray) : (∃ k p : Int, (k != 0) = true ∧ rRes16 s = rBad16 k p) ∨ (18 ≤ s.size ∧ (chkS s).first = none ∧ rRes16 s = rHead16 s) := by
  by_cases h : s.size < 18
  · exact Or.inl ⟨1, s.size, rfl, by unfold rRes16; rw [if_pos h]⟩
  · cases hf : (chkS s).first with
    | none => exact Or.inr ⟨by omega, rfl, by unfold rRes16; rw [if_neg h, hf]⟩
    | some p =>
      obtain ⟨h1, -, -⟩ := (chkS s).some_from 12 0 rfl p hf
      exact Or.inl ⟨p.1, p.2, by simp; omega, by unfold rRes16; rw [if_neg h, hf]⟩
theorem tread_good (s : ByteArray) (L : Nat) (hz : s.size ≤ 9223372036854775807) (h : 18 ≤ s.size) (hf : (chkS s).first = none) : tRead ⟨L, s, 0, s.size, 0⟩ (Led.new 0 0 0 9) = (headL s, [.int .i64 0, .int .i64 0, .int .i64 0]) := by
  have hr : rRes16 s = rHead16 s := by unfold rRes16; rw [if_neg (by omega), hf]
  have := read_cases ByteArray.empty s L (by rw [empty_append16]; exact hz)
  rw [empty_append16] at this
  rcases this with ⟨k, p, hk, -, -, -, h2⟩ | ⟨-, -, h1, -, -⟩
  · rw [hr] at h2
    unfold rHead16 rBad16 at h2
    simp only [List.cons.injEq, Value.int.injEq, true_and] at h2
    exfalso
    have := h2.2.2.2.2.2.2.2.2.2.2.2.2
    omega
  · exact h1
set_option maxRecDepth 100000 in
set_option maxHeartbeats 8000000 in
theorem tback_law (s : ByteArray) (hs : s.size ≤ maxLen) (w : World) : Calls Try.prog 8 #[.string s] w (Yes16 w) := by
  unfold maxLen at hs
  have HRR0 := Lib.hid (fun w0 => rread16_any s w0 (by omega))
  rcases res_split s with ⟨k, p, hk, hR⟩ | ⟨h18, hf, hR⟩
  · have HRR := Lib.hid (fun w0 => (HRR0.out w0).mono (R' := RA w0 (rBad16 k p)) fun e w' hh => ⟨hh.1.trans (by rw [hR]), hh.2⟩)
    clear HRR0 hR
    by_cases h1 : 100 < s.size
    · have D1 : decide ((s.size : Int) > 100) = true := by rw [decide_eq_true_iff]; omega
      go_enter Try.func8, Try.ntmps8
      go_wp2_with (first
        | ((go_at_call 32; (with_reducible refine (HRR.out _).mono ?_); rintro e w1 ⟨rfl, hb1⟩); have z1 := hb1.size; have BW := Lib.hid (hb1.alloc z1 (.cells #[.int .i64 0, .int .i64 0, .int .i64 0, .int .i64 0, .int .i64 0, .int .i64 0, .int .i64 0, .int .i64 0, .int .i64 0, .int .i64 0, .bool false, .bool false, .int .i64 0, .int .i64 0] 50)); have O3 := Lib.hid (obj1_new w1 #[.int .i64 0, .int .i64 0, .int .i64 0, .int .i64 0, .int .i64 0, .int .i64 0, .int .i64 0, .int .i64 0, .int .i64 0, .int .i64 0, .bool false, .bool false, .int .i64 0, .int .i64 0] 50); have sz1 : (w1.alloc (.cells #[.int .i64 0, .int .i64 0, .int .i64 0, .int .i64 0, .int .i64 0, .int .i64 0, .int .i64 0, .int .i64 0, .int .i64 0, .int .i64 0, .bool false, .bool false, .int .i64 0, .int .i64 0] 50)).heap.size = w1.heap.size + 1 := by simp)
        | (refine store_o rfl 50 14 _ _ rfl w1.heap.size (rBad16 k p) rfl rfl (by kernel_rfl) (by kernel_rfl) (by kernel_rfl) O3.out (by first | rfl | simp) ?_; intro w2 hst hO; have O3 := Lib.hid hO; have BW := Lib.hid (hst.below BW.out z1); have sz2 := hst.size; clear hst; have hc12 := (hO.cell 12).trans (show _ = some (.int .i64 k) from rfl); have hc1 := (hO.cell 1).trans (show _ = some (.int .i64 0) from rfl); clear hO)
        | ((go_at_call 25; (with_reducible refine (awake16 _).mono ?_); rintro e w9 ⟨rfl, hb9⟩); have BE := Lib.hid (bthen hb9 BW.out BW.out.size); clear hb9))
      go_ret
      exact ⟨rfl, BE.out⟩
    · have D1 : decide ((s.size : Int) > 100) = false := by rw [decide_eq_false_iff_not]; omega
      go_enter Try.func8, Try.ntmps8
      go_wp2_with (first
        | ((go_at_call 32; (with_reducible refine (HRR.out _).mono ?_); rintro e w1 ⟨rfl, hb1⟩); have z1 := hb1.size; have BW := Lib.hid (hb1.alloc z1 (.cells #[.int .i64 0, .int .i64 0, .int .i64 0, .int .i64 0, .int .i64 0, .int .i64 0, .int .i64 0, .int .i64 0, .int .i64 0, .int .i64 0, .bool false, .bool false, .int .i64 0, .int .i64 0] 50)); have O3 := Lib.hid (obj1_new w1 #[.int .i64 0, .int .i64 0, .int .i64 0, .int .i64 0, .int .i64 0, .int .i64 0, .int .i64 0, .int .i64 0, .int .i64 0, .int .i64 0, .bool false, .bool false, .int .i64 0, .int .i64 0] 50); have sz1 : (w1.alloc (.cells #[.int .i64 0, .int .i64 0, .int .i64 0, .int .i64 0, .int .i64 0, .int .i64 0, .int .i64 0, .int .i64 0, .int .i64 0, .int .i64 0, .bool false, .bool false, .int .i64 0, .int .i64 0] 50)).heap.size = w1.heap.size + 1 := by simp)
        | (refine store_o rfl 50 14 _ _ rfl w1.heap.size (rBad16 k p) rfl rfl (by kernel_rfl) (by kernel_rfl) (by kernel_rfl) O3.out (by first | rfl | simp) ?_; intro w2 hst hO; have O3 := Lib.hid hO; have BW := Lib.hid (hst.below BW.out z1); have sz2 := hst.size; clear hst; have hc12 := (hO.cell 12).trans (show _ = some (.int .i64 k) from rfl); have hc1 := (hO.cell 1).trans (show _ = some (.int .i64 0) from rfl); clear hO)
        | ((go_at_call 25; (with_reducible refine (awake16 _).mono ?_); rintro e w9 ⟨rfl, hb9⟩); have BE := Lib.hid (bthen hb9 BW.out BW.out.size); clear hb9))
      go_ret
      exact ⟨rfl, BE.out⟩
  have HRR := Lib.hid (fun w0 => (HRR0.out w0).mono (R' := RA w0 (rHead16 s)) fun e w' hh => ⟨hh.1.trans (by rw [hR]), hh.2⟩)
  clear HRR0 hR
  by_cases h1 : 100 < s.size
  · have D1 : decide ((s.size : Int) > 100) = true := by rw [decide_eq_true_iff]; omega
    go_enter Try.func8, Try.ntmps8
    go_wp2_with (first
      | ((go_at_call 32; (with_reducible refine (HRR.out _).mono ?_); rintro e w1 ⟨rfl, hb1⟩); have z1 := hb1.size; have BW := Lib.hid (hb1.alloc z1 (.cells #[.int .i64 0, .int .i64 0, .int .i64 0, .int .i64 0, .int .i64 0, .int .i64 0, .int .i64 0, .int .i64 0, .int .i64 0, .int .i64 0, .bool false, .bool false, .int .i64 0, .int .i64 0] 50)); have O3 := Lib.hid (obj1_new w1 #[.int .i64 0, .int .i64 0, .int .i64 0, .int .i64 0, .int .i64 0, .int .i64 0, .int .i64 0, .int .i64 0, .int .i64 0, .int .i64 0, .bool false, .bool false, .int .i64 0, .int .i64 0] 50); have sz1 : (w1.alloc (.cells #[.int .i64 0, .int .i64 0, .int .i64 0, .int .i64 0, .int .i64 0, .int .i64 0, .int .i64 0, .int .i64 0, .int .i64 0, .int .i64 0, .bool false, .bool false, .int .i64 0, .int .i64 0] 50)).heap.size = w1.heap.size + 1 := by simp)
      | (refine store_o rfl 50 14 _ _ rfl w1.heap.size (rHead16 s) rfl rfl (by kernel_rfl) (by kernel_rfl) (by kernel_rfl) O3.out (by first | rfl | simp) ?_; intro w2 hst hO; have O3 := Lib.hid hO; have BW := Lib.hid (hst.below BW.out z1); have sz2 := hst.size; clear hst; have hc12 := (hO.cell 12).trans (show _ = some (.int .i64 0) from rfl); have hc1 := (hO.cell 1).trans (show _ = some (.int .i64 (byN s 1)) from rfl); clear hO)
      | ((go_at_call 25; (with_reducible refine (awake16 _).mono ?_); rintro e w9 ⟨rfl, hb9⟩); have BE := Lib.hid (bthen hb9 BW.out BW.out.size); clear hb9))
    go_ret
    exact ⟨rfl, BE.out⟩
  have D1 : decide ((s.size : Int) > 100) = false := by rw [decide_eq_false_iff_not]; omega
  have HN := Lib.hid (fun w0 => lnew_k 9 w0 (Or.inl rfl))
  obtain ⟨B1, B2, B3⟩ := back_law s hf
  obtain ⟨t, ht⟩ : ∃ t, strOf (backL s) = t := ⟨_, rfl⟩
  have t18 : t.size = 18 := by rw [← ht]; exact strOf_size _ rfl
  have d18 : (t.size : Int) = 18 := by omega
  have HBY := Lib.hid (fun w0 => (show Calls Try.prog 35 #[.agg (headL s).toArray] w0 (TBPost (headL s) (strOf (backL s)) w0) from tbytes_any _ _ _ _ _ _ _ _ _ _ _ _ w0).mono (R' := fun e w' => e = .returned (.tuple #[.string t, .int .i64 0]) ∧ Below w0.heap.size w0 w') fun e w' hh => by
    rcases hh.2 with ⟨h2, -, -⟩ | ⟨-, h2⟩
    · exact ⟨h2.trans (by rw [ht]), hh.1⟩
    · rcases h2 with h2 | h2
      · exact absurd B1 h2
      · exact absurd B2 h2)
  rw [ht] at B3
  have HB3 := Lib.hid B3
  clear B1 B2 B3 ht
  go_enter Try.func8, Try.ntmps8
  go_wp2_with (first
    | ((go_at_call 32; (with_reducible refine (HRR.out _).mono ?_); rintro e w1 ⟨rfl, hb1⟩); have z1 := hb1.size; have BW := Lib.hid (hb1.alloc z1 (.cells #[.int .i64 0, .int .i64 0, .int .i64 0, .int .i64 0, .int .i64 0, .int .i64 0, .int .i64 0, .int .i64 0, .int .i64 0, .int .i64 0, .bool false, .bool false, .int .i64 0, .int .i64 0] 50)); have O3 := Lib.hid (obj1_new w1 #[.int .i64 0, .int .i64 0, .int .i64 0, .int .i64 0, .int .i64 0, .int .i64 0, .int .i64 0, .int .i64 0, .int .i64 0, .int .i64 0, .bool false, .bool false, .int .i64 0, .int .i64 0] 50); have sz1 : (w1.alloc (.cells #[.int .i64 0, .int .i64 0, .int .i64 0, .int .i64 0, .int .i64 0, .int .i64 0, .int .i64 0, .int .i64 0, .int .i64 0, .int .i64 0, .bool false, .bool false, .int .i64 0, .int .i64 0] 50)).heap.size = w1.heap.size + 1 := by simp)
    | (refine store_o rfl 50 14 _ _ rfl w1.heap.size (rHead16 s) rfl rfl (by kernel_rfl) (by kernel_rfl) (by kernel_rfl) O3.out (by first | rfl | simp) ?_; intro w2 hst hO; have O3 := Lib.hid hO; have BW := Lib.hid (hst.below BW.out z1); have sz2 := hst.size; clear hst; have hc12 := (hO.cell 12).trans (show _ = some (.int .i64 0) from rfl); have hc1 := (hO.cell 1).trans (show _ = some (.int .i64 (byN s 1)) from rfl); clear hO))
  have lC : w1.heap.size < w2.heap.size := O3.out.lt
  clear hc12 hc1
  refine (HN.out _).mono ?_
  rintro e w3 ⟨L, rfl, hL1, hs3, hC3⟩
  have hb3 := chg_none hC3
  have z3 := hb3.size
  have O3 := Lib.hid (O3.out.below hb3 O3.out.lt)
  have BW := Lib.hid (bthen hb3 BW.out BW.out.size)
  go_wp2_with fail
  refine (snew_c7 L s _ _ (by omega) hL1).mono ?_
  rintro e w4 ⟨X, rfl, hP4, hs4, hb4⟩
  have z4 := hb4.size
  have O3 := Lib.hid (O3.out.below hb4 O3.out.lt)
  have zw := BW.out.size
  have zw2 : w.heap.size ≤ w2.heap.size := by omega
  have BW := Lib.hid (bthen hb4 BW.out BW.out.size)
  have HTR := Lib.hid ((tread_any X _ _ w4 hP4).mono (R' := fun e w' => e = .returned (.tuple #[.agg (headL s).toArray, .agg (List.toArray [.int .i64 0, .int .i64 0, .int .i64 0])]) ∧ Chg (two X ⟨L, s, 0, s.size, 0⟩) w4 w') fun e w' hh => ⟨hh.1.trans (by rw [tread_good s L (by omega) h18 hf]), hh.2.2⟩)
  clear hL1 hC3 hb3 hP4 hb4 HN HRR
  go_wp2_with fail
  refine HTR.out.mono ?_
  rintro e w5 ⟨rfl, hC5⟩
  have O3 := Lib.hid (hC5.obj O3.out (by unfold two; simp only; omega))
  have BW := Lib.hid (chg_two BW.out hC5 (by omega) (by show w.heap.size ≤ L; omega))
  have z5 := BW.out.size
  have lC5 := O3.out.lt
  clear hC5 HTR
  have O7 := Lib.hid ((obj1_new w5 #[.int .i64 0, .bool false, .int .i64 0, .int .i64 0, .int .i64 0, .int .i64 0, .int .i64 0, .int .i64 0, .int .i64 0, .int .i64 0, .bool false, .bool false] 44).alloc (.cells #[.int .i64 0, .int .i64 0, .int .i64 0] 46))
  have O8 := Lib.hid (obj1_new (w5.alloc (.cells #[.int .i64 0, .bool false, .int .i64 0, .int .i64 0, .int .i64 0, .int .i64 0, .int .i64 0, .int .i64 0, .int .i64 0, .int .i64 0, .bool false, .bool false] 44)) #[.int .i64 0, .int .i64 0, .int .i64 0] 46)
  have BW := Lib.hid ((BW.out.alloc z5 (.cells #[.int .i64 0, .bool false, .int .i64 0, .int .i64 0, .int .i64 0, .int .i64 0, .int .i64 0, .int .i64 0, .int .i64 0, .int .i64 0, .bool false, .bool false] 44)).alloc (Nat.le_trans z5 (by simp)) (.cells #[.int .i64 0, .int .i64 0, .int .i64 0] 46))
  have O3 := Lib.hid ((O3.out.alloc (.cells #[.int .i64 0, .bool false, .int .i64 0, .int .i64 0, .int .i64 0, .int .i64 0, .int .i64 0, .int .i64 0, .int .i64 0, .int .i64 0, .bool false, .bool false] 44)).alloc (.cells #[.int .i64 0, .int .i64 0, .int .i64 0] 46))
  rw [show (w5.alloc (.cells #[.int .i64 0, .bool false, .int .i64 0, .int .i64 0, .int .i64 0, .int .i64 0, .int .i64 0, .int .i64 0, .int .i64 0, .int .i64 0, .bool false, .bool false] 44)).heap.size = w5.heap.size + 1 by simp] at O8
  go_upto_region 6 with (first
    | (refine store_o rfl 44 12 _ _ rfl w5.heap.size (headL s) rfl rfl (by kernel_rfl) (by kernel_rfl) (by kernel_rfl) O7.out (by first | rfl | simp) ?_; intro w7 hst hO; have O7 := Lib.hid hO; have O8 := Lib.hid (hst.oth O8.out (by omega)); have O3 := Lib.hid (hst.oth O3.out (by omega)); have BW := Lib.hid (hst.below BW.out (by omega)); clear hst hO)
    | (refine store_o rfl 46 3 _ _ rfl (w5.heap.size + 1) [.int .i64 0, .int .i64 0, .int .i64 0] rfl rfl (by kernel_rfl) (by kernel_rfl) (by kernel_rfl) O8.out (by first | rfl | simp) ?_; intro w8 hst hO; have O8 := Lib.hid hO; have O7 := Lib.hid (hst.oth O7.out (by omega)); have O3 := Lib.hid (hst.oth O3.out (by omega)); have BW := Lib.hid (hst.below BW.out (by omega)); clear hst hO))
  go_wp2_with (refine load_o rfl 44 12 _ rfl w5.heap.size (headL s) rfl (by kernel_rfl) O7.out Try.underlying44 rfl (by kernel_rfl) ?_)
  refine (HBY.out _).mono ?_
  rintro e w9 ⟨rfl, hb9⟩
  have O8 := Lib.hid (O8.out.below hb9 O8.out.lt)
  have O3 := Lib.hid (O3.out.below hb9 O3.out.lt)
  have BW := Lib.hid (bthen hb9 BW.out BW.out.size)
  have cf : w9.cell? ⟨w5.heap.size + 1, 0, none⟩ = some (.int .i64 0) := O8.out.cell 0
  obtain ⟨C, hC⟩ : ∃ C, w1.heap.size = C := ⟨_, rfl⟩
  have lC9 := O3.out.lt
  rw [hC] at O3 lC9 ⊢
  obtain ⟨x1, hx1⟩ : ∃ x, byN s 1 = x := ⟨_, rfl⟩
  rw [hx1] at HB3
  have HC1 : w9.cell? ⟨C, 1, none⟩ = some (.int .i64 x1) := by rw [← hx1]; exact O3.out.cell 1
  clear hb9 HBY O7
  go_wp2_with fail
  clear cf O8
  go_loopw [10, 51] (fun q10 q51 wr => ∃ i : Nat, i ≤ 18 ∧ q51 = .int .i64 i ∧ Below w9.heap.size w9 wr) (fun _ q51 _ => 18 - (intOf q51).toNat)
  case atStart => exact ⟨0, by omega, rfl, Below.refl _ _⟩
  case round =>
    obtain ⟨i, hi, rfl, hb⟩ := hrel
    have Hb := Lib.hid hb
    have hc1 : wr.cell? ⟨C, 1, none⟩ = some (.int .i64 x1) := ((bcell hb).1 _ _ lC9).trans HC1
    clear hb HC1
    by_cases hlt : i < 18
    · have D2 : decide ((i : Int) < 18) = true := by rw [decide_eq_true_iff]; omega
      have it : i < t.size := by omega
      have is : i < s.size := by omega
      have gt := byN_get t i it
      have gs := byN_get s i is
      have NEXT := Lib.hid (show ∀ wn : World, Below w9.heap.size w9 wn → (∃ j : Nat, j ≤ 18 ∧ Value.int .i64 ((i : Int) + 1) = .int .i64 j ∧ Below w9.heap.size w9 wn) ∧ 18 - (intOf (.int .i64 ((i : Int) + 1))).toNat < 18 - (intOf (.int .i64 (i : Int))).toNat from fun wn h => ⟨⟨i + 1, by omega, by go_num, h⟩, by simp [intOf]; omega⟩)
      by_cases c1 : 8 ≤ i ∧ i < 12
      · have E1 : decide ((i : Int) ≥ 8) = true := by rw [decide_eq_true_iff]; omega
        have E2 : decide ((i : Int) < 12) = true := by rw [decide_eq_true_iff]; omega
        go_wp2_with fail
        exact NEXT.out _ Hb.out
      by_cases c2 : 3 ≤ i ∧ i < 8 ∧ x1 = 0
      · obtain ⟨c3, c4, rfl⟩ := c2
        have E1 : decide ((i : Int) ≥ 8) = false := by rw [decide_eq_false_iff_not]; omega
        have E2 : decide ((i : Int) ≥ 3) = true := by rw [decide_eq_true_iff]; omega
        have E3 : decide ((i : Int) < 8) = true := by rw [decide_eq_true_iff]; omega
        go_wp2_with fail
        exact NEXT.out _ Hb.out
      have hE := HB3.out i hlt c1 c2
      have hNE : (byN t i != byN s i) = false := by rw [hE]; simp
      obtain ⟨v1, hv1⟩ : ∃ v, byN t i = v := ⟨_, rfl⟩
      obtain ⟨v2, hv2⟩ : ∃ v, byN s i = v := ⟨_, rfl⟩
      rw [hv1] at gt hNE
      rw [hv2] at gs hNE
      clear hv1 hv2 hE
      by_cases c5 : 8 ≤ i
      · have E1 : decide ((i : Int) ≥ 8) = true := by rw [decide_eq_true_iff]; omega
        have E2 : decide ((i : Int) < 12) = false := by rw [decide_eq_false_iff_not]; omega
        have E3 : decide ((i : Int) ≥ 3) = true := by rw [decide_eq_true_iff]; omega
        have E4 : decide ((i : Int) < 8) = false := by rw [decide_eq_false_iff_not]; omega
        go_wp2_with fail
        go_quiet (fail)
        go_wp2_with fail
        exact NEXT.out _ (bdrew Hb.out _)
      by_cases c6 : 3 ≤ i
      · have E1 : decide ((i : Int) ≥ 8) = false := by rw [decide_eq_false_iff_not]; omega
        have E3 : decide ((i : Int) ≥ 3) = true := by rw [decide_eq_true_iff]; omega
        have E4 : decide ((i : Int) < 8) = true := by rw [decide_eq_true_iff]; omega
        have E5 : (x1 == 0) = false := by rw [beq_eq_false_iff_ne]; intro h; exact c2 ⟨c6, by omega, h⟩
        go_wp2_with fail
        go_quiet (fail)
        go_wp2_with fail
        exact NEXT.out _ (bdrew Hb.out _)
      · have E1 : decide ((i : Int) ≥ 8) = false := by rw [decide_eq_false_iff_not]; omega
        have E3 : decide ((i : Int) ≥ 3) = false := by rw [decide_eq_false_iff_not]; omega
        go_wp2_with fail
        go_quiet (fail)
        go_wp2_with fail
        exact NEXT.out _ (bdrew Hb.out _)
    · obtain rfl : i = 18 := by omega
      have D2 : decide (((18 : Nat) : Int) < 18) = false := by decide
      go_wp2_with ((go_at_call 25; (with_reducible refine (awake16 _).mono ?_); rintro e w11 ⟨rfl, hb11⟩); have BE := Lib.hid (bthen hb11 (bthen Hb.out BW.out BW.out.size) (Nat.le_trans BW.out.size Hb.out.size)); clear hb11)
      go_ret
      exact ⟨rfl, BE.out⟩
end Go.Proofs.Ytomikbecbbjhoaa

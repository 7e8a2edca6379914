/- IcodirReads, walked. -/
import Derived.Test.YtomikbecbbjhoaaIH
import Derived.Test.YtomikbecbbjhoaaIE
namespace Go.Proofs.Ytomikbecbbjhoaa
open Go.RowKit
set_option linter.unusedVariables false
set_option linter.unusedSimpArgs false
theorem seek0b (L : Nat) (s : ByteArray) (n : Nat) (h : n ≤ s.size) : Sr.seek ⟨L, s, 0, s.size, 0⟩ n = (⟨L, s, 0, s.size, n⟩, true) := by
  unfold Sr.seek; rw [if_neg (by simp only; omega)]; simp
set_option maxRecDepth 100000 in
set_option maxHeartbeats 16000000 in
theorem ireads_law (a s : ByteArray) (ha : a.size ≤ maxLen) (hs : s.size ≤ maxLen) (w : World) : Calls Try.prog 9 #[.string a, .string s] w (Yes24 w) := by
  unfold maxLen at ha hs
  by_cases h1 : 600 < s.size
  · have D1 : decide ((s.size : Int) > 600) = true := by rw [decide_eq_true_iff]; omega
    go_enter Try.func9, Try.ntmps9
    go_wp2_with (first
      | ((with_reducible refine skip_g rfl ?_ ?_); rfl; intro _)
      | (go_at_call 37; (with_reducible refine (awake24 _).mono ?_); rintro e w1 ⟨rfl, hb⟩))
    go_ret
    exact ⟨rfl, hb⟩
  have D1 : decide ((s.size : Int) > 600) = false := by rw [decide_eq_false_iff_not]; omega
  by_cases h2 : 50 < a.size
  · have D2 : decide ((a.size : Int) > 50) = true := by rw [decide_eq_true_iff]; omega
    go_enter Try.func9, Try.ntmps9
    go_wp2_with (go_at_call 37; (with_reducible refine (awake24 _).mono ?_); rintro e w1 ⟨rfl, hb⟩)
    go_ret
    exact ⟨rfl, hb⟩
  have D2 : decide ((a.size : Int) > 50) = false := by rw [decide_eq_false_iff_not]; omega
  have hsz : (a ++ s).size = a.size + s.size := ByteArray.size_append
  have HN := Lib.hid (fun w0 => lnew_k 1000 w0 (by simp))
  have HRR := Lib.hid (fun w0 => rread24_any s w0 (by omega))
  go_enter Try.func9, Try.ntmps9
  go_wp2_with fail
  refine (HN.out _).mono ?_
  rintro e w1 ⟨L, rfl, hL1, hs1, hC1⟩
  go_wp2_with fail
  refine (snew_c7 L (a ++ s) _ _ (by omega) hL1).mono ?_
  rintro e w2 ⟨X, rfl, hP2, hs2, hB2⟩
  have HB := Lib.hid ((chg_none hC1).trans (hB2.mono hC1.size))
  have PX := Lib.hid hP2
  have z1 := hC1.size
  have hX : w.heap.size ≤ X := by omega
  have HCS := Lib.hid (reads_eq L a s (by omega))
  clear hL1 hC1 hP2 hB2
  go_wp2_with fail
  refine (seek_any X _ _ _ _ PX.out).mono ?_
  rintro e w3 hbp
  obtain ⟨rfl, hP3, hC3⟩ := seek_at hbp (seek0b L (a ++ s) a.size (by omega))
  have HB := Lib.hid (chg_two HB.out hC3 hX hs1)
  have PX := Lib.hid (show Pair w3 X (xj L a s a.size) (lj 0) from hP3)
  clear hbp hP3 hC3
  go_wp2_with fail
  refine (iread_any X _ _ _ PX.out).mono ?_
  rintro e w6 ⟨rfl, hP6, hC6⟩
  have HB := Lib.hid (chg_two HB.out hC6 hX hs1)
  have lL6 := hP6.led.lt
  have lX6 := hP6.src.lt
  have O7 := Lib.hid ((obj1_new w6 #[.bool false, .int .i64 0, .int .i64 0, .int .i64 0, .int .i64 0, .int .i64 0, .int .i64 0, .int .i64 0, .int .i64 0] 61).alloc (.cells #[.int .i64 0, .int .i64 0, .int .i64 0] 46))
  have O8 := Lib.hid (obj1_new (w6.alloc (.cells #[.bool false, .int .i64 0, .int .i64 0, .int .i64 0, .int .i64 0, .int .i64 0, .int .i64 0, .int .i64 0, .int .i64 0] 61)) #[.int .i64 0, .int .i64 0, .int .i64 0] 46)
  rw [show (w6.alloc (.cells #[.bool false, .int .i64 0, .int .i64 0, .int .i64 0, .int .i64 0, .int .i64 0, .int .i64 0, .int .i64 0, .int .i64 0] 61)).heap.size = w6.heap.size + 1 by simp] at O8
  have z6 := HB.out.size
  have HB := Lib.hid ((HB.out.alloc HB.out.size (.cells #[.bool false, .int .i64 0, .int .i64 0, .int .i64 0, .int .i64 0, .int .i64 0, .int .i64 0, .int .i64 0, .int .i64 0] 61)).alloc (Nat.le_trans HB.out.size (by simp)) (.cells #[.int .i64 0, .int .i64 0, .int .i64 0] 46))
  clear hC6
  rcases HCS.out with ⟨f, y, m, hD, hyL, k, p, hk, hp0, hp1, rfl, hR⟩ | ⟨cur, n, b, e, y, m, hD, hyL, hyp, hn, hR, eok⟩
  · rw [hD]
    rw [hR] at HRR
    have hk0 : (k != 0) = true := by simp; omega
    have eW : IntKind.i64.wrap ((a.size : Int) + p) = (a.size : Int) + p := i64_wraps _ (by omega) (by omega)
    clear HCS hD hR hP6 PX
    go_upto_region 9 with (first
      | (refine store_o rfl 61 9 _ _ rfl w6.heap.size [.bool false, .int .i64 0, .int .i64 0, .int .i64 0, .int .i64 0, .int .i64 0, .int .i64 0, .int .i64 0, .int .i64 0] rfl rfl (by kernel_rfl) (by kernel_rfl) (by kernel_rfl) O7.out (by first | rfl | simp) ?_; intro ws hst hO; have O7 := Lib.hid hO; have O8 := Lib.hid (hst.oth O8.out (by omega)); have HB := Lib.hid (hst.below HB.out (by omega)); clear hst hO)
      | (refine store_o rfl 46 3 _ _ rfl (w6.heap.size + 1) [.int .i64 k, .int .i64 4, .int .i64 ((a.size : Int) + p)] rfl rfl (by kernel_rfl) (by kernel_rfl) (by kernel_rfl) O8.out (by first | rfl | simp) ?_; intro ws hst hO; have O8 := Lib.hid hO; have O7 := Lib.hid (hst.oth O7.out (by omega)); have HB := Lib.hid (hst.below HB.out (by omega)); clear hst hO)
      | ((go_at_call 39; (with_reducible refine (HRR.out _).mono ?_); rintro x w9 ⟨rfl, hb⟩); have l9 := hb.size; have O9 := Lib.hid (obj1_new w9 #[.bool false, .int .i64 0, .int .i64 0, .int .i64 0, .int .i64 0, .int .i64 0, .int .i64 0, .int .i64 0, .int .i64 0, .int .i64 0, .int .i64 0] 67); have O7 := Lib.hid (O7.out.below hb O7.out.lt); have O8 := Lib.hid (O8.out.below hb O8.out.lt); have HB := Lib.hid (bthen hb HB.out HB.out.size); have lO9 := O8.out.lt; have z9 := HB.out.size; have O7 := Lib.hid (O7.out.alloc (.cells #[.bool false, .int .i64 0, .int .i64 0, .int .i64 0, .int .i64 0, .int .i64 0, .int .i64 0, .int .i64 0, .int .i64 0, .int .i64 0, .int .i64 0] 67)); have O8 := Lib.hid (O8.out.alloc (.cells #[.bool false, .int .i64 0, .int .i64 0, .int .i64 0, .int .i64 0, .int .i64 0, .int .i64 0, .int .i64 0, .int .i64 0, .int .i64 0, .int .i64 0] 67)); have HB := Lib.hid (HB.out.alloc HB.out.size (.cells #[.bool false, .int .i64 0, .int .i64 0, .int .i64 0, .int .i64 0, .int .i64 0, .int .i64 0, .int .i64 0, .int .i64 0, .int .i64 0, .int .i64 0] 67)); clear hb)
      | (refine store_o rfl 67 11 _ _ rfl w9.heap.size [.bool false, .int .i64 0, .int .i64 0, .int .i64 0, .int .i64 0, .int .i64 0, .int .i64 0, .int .i64 0, .int .i64 0, .int .i64 k, .int .i64 p] rfl rfl (by kernel_rfl) (by kernel_rfl) (by kernel_rfl) O9.out (by first | rfl | simp) ?_; intro wt hst hO; have O9 := Lib.hid hO; have O7 := Lib.hid (hst.oth O7.out (by omega)); have O8 := Lib.hid (hst.oth O8.out (by omega)); have HB := Lib.hid (hst.below HB.out (by omega)); clear hst hO))
    have c9 : wt.cell? ⟨w9.heap.size, 9, none⟩ = some (.int .i64 k) := (O9.out.cell 9).trans rfl
    have c10 : wt.cell? ⟨w9.heap.size, 10, none⟩ = some (.int .i64 p) := (O9.out.cell 10).trans rfl
    go_wp2_with (first
      | ((with_reducible refine skip_g rfl ?_ ?_); rfl; intro _)
      | (refine load_u (by kernel_rfl) 61 9 _ rfl w6.heap.size [.bool false, .int .i64 0, .int .i64 0, .int .i64 0, .int .i64 0, .int .i64 0, .int .i64 0, .int .i64 0, .int .i64 0] rfl rfl O7.out Try.underlying61 rfl (by kernel_rfl) ?_; intro _)
      | (refine load_u (by kernel_rfl) 46 3 _ rfl (w6.heap.size + 1) [.int .i64 k, .int .i64 4, .int .i64 ((a.size : Int) + p)] rfl rfl O8.out Try.underlying46 rfl (by kernel_rfl) ?_; intro _)
      | ((go_at_call 37; (with_reducible refine (awake24 _).mono ?_); rintro x w11 ⟨rfl, hb11⟩); have HBE := Lib.hid (bthen hb11 HB.out HB.out.size); clear hb11))
    go_ret
    exact ⟨rfl, HBE.out⟩
  · have p0 := eok.p0
    have p1 := eok.p1
    obtain ⟨pw, hpw⟩ : ∃ q, e.P + (a.size : Int) = q := ⟨_, rfl⟩
    have eW : IntKind.i64.wrap (e.P + (a.size : Int)) = pw := by rw [hpw]; exact i64_wraps _ (by omega) (by omega)
    rw [hpw] at hD
    clear hpw
    rw [hD]
    rw [hD] at hP6
    rw [hR] at HRR
    have eW1 : IntKind.i64.wrap ((a.size : Int) + 6) = (a.size : Int) + 6 := i64_wraps _ (by omega) (by omega)
    have eW2 : IntKind.i64.wrap (16 * (n : Int)) = 16 * (n : Int) := i64_wraps _ (by omega) (by omega)
    have eW3 : IntKind.i64.wrap ((a.size : Int) + 6 + 16 * (n : Int)) = (a.size : Int) + 6 + 16 * (n : Int) := i64_wraps _ (by omega) (by omega)
    have PX := Lib.hid (hP6.alloc (.cells #[.bool false, .int .i64 0, .int .i64 0, .int .i64 0, .int .i64 0, .int .i64 0, .int .i64 0, .int .i64 0, .int .i64 0] 61))
    have PX := Lib.hid (PX.out.alloc (.cells #[.int .i64 0, .int .i64 0, .int .i64 0] 46))
    have lX := hP6.src.lt
    have lL := hP6.led.lt
    have hyI : (y.p : Int) = (a.size : Int) + 6 + 16 * (n : Int) := by rw [hyp]; omega
    have HAT := Lib.hid (fun w0 hp => (at_any X y w0 hp).mono (R' := fun x w' => x = .returned (.int .i64 ((a.size : Int) + 6 + 16 * (n : Int))) ∧ w0 = w') fun x w' hh => ⟨hh.1.trans (by rw [hyI]), hh.2⟩)
    have HPL := Lib.hid (fun w0 => (show Calls Try.prog 40 #[.agg (List.toArray [.int .i64 e.W, .int .i64 e.H, .int .i64 e.A, .int .i64 e.B, .int .i64 e.Z, .int .i64 e.P])] w0 (RA w0 [.int .i64 e.W, .int .i64 e.H, .int .i64 e.A, .int .i64 e.B, .int .i64 e.Z, .int .i64 e.P]) from plain24_any e w0))
    clear HCS hD hR hP6 hyp p0 p1 hyI
    go_upto_region 9 with (first
      | (refine store_o rfl 61 9 _ _ rfl w6.heap.size [.bool cur, .int .i64 n, .int .i64 b, .int .i64 e.W, .int .i64 e.H, .int .i64 e.A, .int .i64 e.B, .int .i64 e.Z, .int .i64 pw] rfl rfl (by kernel_rfl) (by kernel_rfl) (by kernel_rfl) O7.out (by first | rfl | simp) ?_; intro ws hst hO; have O7 := Lib.hid hO; have O8 := Lib.hid (hst.oth O8.out (by omega)); have PX := Lib.hid (PX.out.into hst (by omega) (by omega)); have HB := Lib.hid (hst.below HB.out (by omega)); clear hst hO)
      | (refine store_o rfl 46 3 _ _ rfl (w6.heap.size + 1) [.int .i64 0, .int .i64 0, .int .i64 0] rfl rfl (by kernel_rfl) (by kernel_rfl) (by kernel_rfl) O8.out (by first | rfl | simp) ?_; intro ws hst hO; have O8 := Lib.hid hO; have O7 := Lib.hid (hst.oth O7.out (by omega)); have PX := Lib.hid (PX.out.into hst (by omega) (by omega)); have HB := Lib.hid (hst.below HB.out (by omega)); clear hst hO)
      | ((go_at_call 39; (with_reducible refine (HRR.out _).mono ?_); rintro x w9 ⟨rfl, hb⟩); have l9 := hb.size; have O9 := Lib.hid (obj1_new w9 #[.bool false, .int .i64 0, .int .i64 0, .int .i64 0, .int .i64 0, .int .i64 0, .int .i64 0, .int .i64 0, .int .i64 0, .int .i64 0, .int .i64 0] 67); have O7 := Lib.hid (O7.out.below hb O7.out.lt); have O8 := Lib.hid (O8.out.below hb O8.out.lt); have PX := Lib.hid (PX.out.upon hb PX.out.src.lt PX.out.led.lt); have HB := Lib.hid (bthen hb HB.out HB.out.size); have lO9 := O8.out.lt; have lX := PX.out.src.lt; have lL := PX.out.led.lt; have z9 := HB.out.size; have O7 := Lib.hid (O7.out.alloc (.cells #[.bool false, .int .i64 0, .int .i64 0, .int .i64 0, .int .i64 0, .int .i64 0, .int .i64 0, .int .i64 0, .int .i64 0, .int .i64 0, .int .i64 0] 67)); have O8 := Lib.hid (O8.out.alloc (.cells #[.bool false, .int .i64 0, .int .i64 0, .int .i64 0, .int .i64 0, .int .i64 0, .int .i64 0, .int .i64 0, .int .i64 0, .int .i64 0, .int .i64 0] 67)); have PX := Lib.hid (PX.out.alloc (.cells #[.bool false, .int .i64 0, .int .i64 0, .int .i64 0, .int .i64 0, .int .i64 0, .int .i64 0, .int .i64 0, .int .i64 0, .int .i64 0, .int .i64 0] 67)); have HB := Lib.hid (HB.out.alloc HB.out.size (.cells #[.bool false, .int .i64 0, .int .i64 0, .int .i64 0, .int .i64 0, .int .i64 0, .int .i64 0, .int .i64 0, .int .i64 0, .int .i64 0, .int .i64 0] 67)); clear hb)
      | (refine store_o rfl 67 11 _ _ rfl w9.heap.size [.bool cur, .int .i64 n, .int .i64 b, .int .i64 e.W, .int .i64 e.H, .int .i64 e.A, .int .i64 e.B, .int .i64 e.Z, .int .i64 e.P, .int .i64 0, .int .i64 0] rfl rfl (by kernel_rfl) (by kernel_rfl) (by kernel_rfl) O9.out (by first | rfl | simp) ?_; intro wt hst hO; have O9 := Lib.hid hO; have O7 := Lib.hid (hst.oth O7.out (by omega)); have O8 := Lib.hid (hst.oth O8.out (by omega)); have PX := Lib.hid (PX.out.into hst (by omega) (by omega)); have HB := Lib.hid (hst.below HB.out (by omega)); clear hst hO))
    have c9 : wt.cell? ⟨w9.heap.size, 9, none⟩ = some (.int .i64 0) := (O9.out.cell 9).trans rfl
    go_upto_region 12 with (first
      | (refine load_ag (by kernel_rfl) 65 _ rfl w9.heap.size 3 [.int .i64 e.W, .int .i64 e.H, .int .i64 e.A, .int .i64 e.B, .int .i64 e.Z, .int .i64 e.P] rfl O9.out rfl Try.underlying65 rfl (by kernel_rfl) ?_; intro _)
      | ((go_at_call 40; (with_reducible refine (HPL.out _).mono ?_); rintro x w10 ⟨rfl, hb⟩); have l10 := hb.size; have O11 := Lib.hid (obj1_new w10 #[.int .i64 0, .int .i64 0, .int .i64 0, .int .i64 0, .int .i64 0, .int .i64 0] 59); have O7 := Lib.hid (O7.out.below hb O7.out.lt); have O8 := Lib.hid (O8.out.below hb O8.out.lt); have O9 := Lib.hid (O9.out.below hb O9.out.lt); have PX := Lib.hid (PX.out.upon hb PX.out.src.lt PX.out.led.lt); have HB := Lib.hid (bthen hb HB.out HB.out.size); have lO9 := O9.out.lt; have lO8 := O8.out.lt; have lX := PX.out.src.lt; have lL := PX.out.led.lt; have z10 := HB.out.size; have O7 := Lib.hid (O7.out.alloc (.cells #[.int .i64 0, .int .i64 0, .int .i64 0, .int .i64 0, .int .i64 0, .int .i64 0] 59)); have O8 := Lib.hid (O8.out.alloc (.cells #[.int .i64 0, .int .i64 0, .int .i64 0, .int .i64 0, .int .i64 0, .int .i64 0] 59)); have O9 := Lib.hid (O9.out.alloc (.cells #[.int .i64 0, .int .i64 0, .int .i64 0, .int .i64 0, .int .i64 0, .int .i64 0] 59)); have PX := Lib.hid (PX.out.alloc (.cells #[.int .i64 0, .int .i64 0, .int .i64 0, .int .i64 0, .int .i64 0, .int .i64 0] 59)); have HB := Lib.hid (HB.out.alloc HB.out.size (.cells #[.int .i64 0, .int .i64 0, .int .i64 0, .int .i64 0, .int .i64 0, .int .i64 0] 59)); clear hb)
      | (refine store_o rfl 59 6 _ _ rfl w10.heap.size [.int .i64 e.W, .int .i64 e.H, .int .i64 e.A, .int .i64 e.B, .int .i64 e.Z, .int .i64 e.P] rfl rfl (by kernel_rfl) (by kernel_rfl) (by kernel_rfl) O11.out (by first | rfl | simp) ?_; intro wu hst hO; have O11 := Lib.hid hO; have O7 := Lib.hid (hst.oth O7.out (by omega)); have O8 := Lib.hid (hst.oth O8.out (by omega)); have O9 := Lib.hid (hst.oth O9.out (by omega)); have PX := Lib.hid (PX.out.into hst (by omega) (by omega)); have HB := Lib.hid (hst.below HB.out (by omega)); clear hst hO))
    clear c9
    obtain ⟨d11, hd11⟩ : ∃ d, w10.heap.size = d := ⟨_, rfl⟩
    obtain ⟨d9, hd9⟩ : ∃ d, w9.heap.size = d := ⟨_, rfl⟩
    obtain ⟨d7, hd7⟩ : ∃ d, w6.heap.size = d := ⟨_, rfl⟩
    have o1 : d11 ≠ d9 ∧ d11 ≠ d7 ∧ d11 ≠ d7 + 1 ∧ X ≠ d11 ∧ y.L ≠ d11 ∧ w.heap.size ≤ d11 := by omega
    rw [hd11] at O11
    rw [hd9] at O9
    rw [hd7] at O7 O8
    rw [hd11, hd9, hd7]
    obtain ⟨o1, o2, o3, o4, o5, o6⟩ := o1
    have k5 : wu.cell? ⟨d11, 5, none⟩ = some (.int .i64 e.P) := (O11.out.cell 5).trans rfl
    have f5 : wu.frozen? ⟨d11, 5, none⟩ = false := O11.out.frozen 5
    go_upto_region 13 with (fail)
    have hst : Stored wu d11 5 [.int .i64 pw] (wu.setCell ⟨d11, 5, none⟩ (.int .i64 pw)) := rfl
    have O11 := Lib.hid ((O11.out.set 5 (.int .i64 pw)).cells (show _ = List.toArray [.int .i64 e.W, .int .i64 e.H, .int .i64 e.A, .int .i64 e.B, .int .i64 e.Z, .int .i64 pw] from rfl))
    have O9 := Lib.hid (hst.oth O9.out (Ne.symm o1))
    have O7 := Lib.hid (hst.oth O7.out (Ne.symm o2))
    have O8 := Lib.hid (hst.oth O8.out (Ne.symm o3))
    have PX := Lib.hid (PX.out.into hst o4 o5)
    have HB := Lib.hid (hst.below HB.out o6)
    clear hst k5 f5
    generalize World.setCell _ _ _ = wv at O7 O8 O9 O11 PX HB ⊢
    refine wp_region_noPanic ?_
    refine wp_region_held_drew (S := fun w' => (w'.rangeAt d7 0 [.bool cur, .int .i64 n, .int .i64 b, .int .i64 e.W, .int .i64 e.H, .int .i64 e.A, .int .i64 e.B, .int .i64 e.Z, .int .i64 pw] ∧ w'.rangeAt (d7 + 1) 0 [.int .i64 0, .int .i64 0, .int .i64 0]) ∧ (w'.rangeAt d9 0 [.bool cur, .int .i64 n, .int .i64 b, .int .i64 e.W, .int .i64 e.H, .int .i64 e.A, .int .i64 e.B, .int .i64 e.Z, .int .i64 e.P, .int .i64 0, .int .i64 0] ∧ w'.rangeAt d11 0 [.int .i64 e.W, .int .i64 e.H, .int .i64 e.A, .int .i64 e.B, .int .i64 e.Z, .int .i64 pw])) (by kernel_rfl) ⟨⟨O7.out.range0, O8.out.range0⟩, ⟨O9.out.range0, O11.out.range0⟩⟩ (fun hHeld => ?_)
    refine wpAnyH_take (i := 0) rfl (by kernel_rfl) (by kernel_rfl) (by kernel_rfl) (fun _ _ _ h => h) (yieldsIf_load_mid (by rfl) 46 _ rfl (d7 + 1) 0 rfl [.int .i64 0, .int .i64 0, .int .i64 0] _ (fun _ h => h.1.2) Try.underlying46 rfl (by kernel_rfl)) hHeld ?_
    simp only [Act.put, List.setIfInBounds_toArray, List.set_cons_zero, List.set_cons_succ, List.getElem_toArray, List.getElem_cons_zero, List.getElem_cons_succ]
    refine wpAnyH_take (i := 1) (v := .agg #[.int .i64 0, .int .i64 0, .int .i64 0]) rfl (by kernel_rfl) (by kernel_rfl) (by kernel_rfl) (fun _ _ _ h => h) (Or.inl ⟨by rfl, fun w hS => by go_simp⟩) hHeld ?_
    simp only [Act.put, List.setIfInBounds_toArray, List.set_cons_zero, List.set_cons_succ, List.getElem_toArray, List.getElem_cons_zero, List.getElem_cons_succ]
    refine wpAnyH_take (i := 2) (v := .bool true) rfl (by kernel_rfl) (by kernel_rfl) (by kernel_rfl) (fun _ _ _ h => h) (Or.inl ⟨by rfl, fun w hS => by go_simp⟩) hHeld ?_
    simp only [Act.put, List.setIfInBounds_toArray, List.set_cons_zero, List.set_cons_succ, List.getElem_toArray, List.getElem_cons_zero, List.getElem_cons_succ]
    refine wpAnyH_take (i := 3) (v := .bool true) rfl (by kernel_rfl) (by kernel_rfl) (by kernel_rfl) (fun _ _ _ h => h) (Or.inl ⟨by rfl, fun w hS => by go_simp⟩) hHeld ?_
    simp only [Act.put, List.setIfInBounds_toArray, List.set_cons_zero, List.set_cons_succ, List.getElem_toArray, List.getElem_cons_zero, List.getElem_cons_succ]
    refine wpAnyH_take (i := 4) rfl (by kernel_rfl) (by kernel_rfl) (by kernel_rfl) (fun _ _ _ h => h) (yieldsIf_load_mid (by rfl) 61 _ rfl (d7) 0 rfl [.bool cur, .int .i64 n, .int .i64 b, .int .i64 e.W, .int .i64 e.H, .int .i64 e.A, .int .i64 e.B, .int .i64 e.Z, .int .i64 pw] _ (fun _ h => h.1.1) Try.underlying61 rfl (by kernel_rfl)) hHeld ?_
    simp only [Act.put, List.setIfInBounds_toArray, List.set_cons_zero, List.set_cons_succ, List.getElem_toArray, List.getElem_cons_zero, List.getElem_cons_succ]
    refine wpAnyH_take (i := 5) (v := .pointer (some ⟨d9, 0, none⟩)) rfl (by kernel_rfl) (by kernel_rfl) (by kernel_rfl) (fun _ _ _ h => h) (Or.inl ⟨by rfl, fun w hS => by go_simp⟩) hHeld ?_
    simp only [Act.put, List.setIfInBounds_toArray, List.set_cons_zero, List.set_cons_succ, List.getElem_toArray, List.getElem_cons_zero, List.getElem_cons_succ]
    refine wpAnyH_take (i := 6) (v := .bool cur) rfl (by kernel_rfl) (by kernel_rfl) (by kernel_rfl) (fun _ _ _ h => h) (Or.inl ⟨by rfl, fun w hS => by (have hc : w.cell? ⟨d9, 0, none⟩ = some (.bool cur) := hS.2.1 0 _ rfl); go_simp⟩) hHeld ?_
    simp only [Act.put, List.setIfInBounds_toArray, List.set_cons_zero, List.set_cons_succ, List.getElem_toArray, List.getElem_cons_zero, List.getElem_cons_succ]
    refine wpAnyH_take (i := 7) (v := .pointer (some ⟨d9, 1, none⟩)) rfl (by kernel_rfl) (by kernel_rfl) (by kernel_rfl) (fun _ _ _ h => h) (Or.inl ⟨by rfl, fun w hS => by go_simp⟩) hHeld ?_
    simp only [Act.put, List.setIfInBounds_toArray, List.set_cons_zero, List.set_cons_succ, List.getElem_toArray, List.getElem_cons_zero, List.getElem_cons_succ]
    refine wpAnyH_take (i := 8) (v := .int .i64 n) rfl (by kernel_rfl) (by kernel_rfl) (by kernel_rfl) (fun _ _ _ h => h) (Or.inl ⟨by rfl, fun w hS => by (have hc : w.cell? ⟨d9, 1, none⟩ = some (.int .i64 n) := hS.2.1 1 _ rfl); go_simp⟩) hHeld ?_
    simp only [Act.put, List.setIfInBounds_toArray, List.set_cons_zero, List.set_cons_succ, List.getElem_toArray, List.getElem_cons_zero, List.getElem_cons_succ]
    refine wpAnyH_take (i := 9) (v := .pointer (some ⟨d9, 2, none⟩)) rfl (by kernel_rfl) (by kernel_rfl) (by kernel_rfl) (fun _ _ _ h => h) (Or.inl ⟨by rfl, fun w hS => by go_simp⟩) hHeld ?_
    simp only [Act.put, List.setIfInBounds_toArray, List.set_cons_zero, List.set_cons_succ, List.getElem_toArray, List.getElem_cons_zero, List.getElem_cons_succ]
    refine wpAnyH_take (i := 10) (v := .int .i64 b) rfl (by kernel_rfl) (by kernel_rfl) (by kernel_rfl) (fun _ _ _ h => h) (Or.inl ⟨by rfl, fun w hS => by (have hc : w.cell? ⟨d9, 2, none⟩ = some (.int .i64 b) := hS.2.1 2 _ rfl); go_simp⟩) hHeld ?_
    simp only [Act.put, List.setIfInBounds_toArray, List.set_cons_zero, List.set_cons_succ, List.getElem_toArray, List.getElem_cons_zero, List.getElem_cons_succ]
    refine wpAnyH_take (i := 11) rfl (by kernel_rfl) (by kernel_rfl) (by kernel_rfl) (fun _ _ _ h => h) (yieldsIf_load_mid (by rfl) 59 _ rfl (d11) 0 rfl [.int .i64 e.W, .int .i64 e.H, .int .i64 e.A, .int .i64 e.B, .int .i64 e.Z, .int .i64 pw] _ (fun _ h => h.2.2) Try.underlying59 rfl (by kernel_rfl)) hHeld ?_
    simp only [Act.put, List.setIfInBounds_toArray, List.set_cons_zero, List.set_cons_succ, List.getElem_toArray, List.getElem_cons_zero, List.getElem_cons_succ]
    refine wpAnyH_take (i := 12) (v := .agg #[.bool cur, .int .i64 n, .int .i64 b, .int .i64 e.W, .int .i64 e.H, .int .i64 e.A, .int .i64 e.B, .int .i64 e.Z, .int .i64 pw]) rfl (by kernel_rfl) (by kernel_rfl) (by kernel_rfl) (fun _ _ _ h => h) (Or.inl ⟨by rfl, fun w hS => by go_simp⟩) hHeld ?_
    simp only [Act.put, List.setIfInBounds_toArray, List.set_cons_zero, List.set_cons_succ, List.getElem_toArray, List.getElem_cons_zero, List.getElem_cons_succ]
    refine wpAnyH_take (i := 13) (v := .bool true) rfl (by kernel_rfl) (by kernel_rfl) (by kernel_rfl) (fun _ _ _ h => h) (Or.inl ⟨by rfl, fun w hS => by go_simp⟩) hHeld ?_
    simp only [Act.put, List.setIfInBounds_toArray, List.set_cons_zero, List.set_cons_succ, List.getElem_toArray, List.getElem_cons_zero, List.getElem_cons_succ]
    refine wpAnyH_take (i := 14) (v := .bool true) rfl (by kernel_rfl) (by kernel_rfl) (by kernel_rfl) (fun _ _ _ h => h) (Or.inl ⟨by rfl, fun w hS => by go_simp⟩) hHeld ?_
    simp only [Act.put, List.setIfInBounds_toArray, List.set_cons_zero, List.set_cons_succ, List.getElem_toArray, List.getElem_cons_zero, List.getElem_cons_succ]
    refine wpAnyH_take (i := 15) (v := .bool true) rfl (by kernel_rfl) (by kernel_rfl) (by kernel_rfl) (fun _ _ _ h => h) (Or.inl ⟨by rfl, fun w hS => by go_simp⟩) hHeld ?_
    simp only [Act.put, List.setIfInBounds_toArray, List.set_cons_zero, List.set_cons_succ, List.getElem_toArray, List.getElem_cons_zero, List.getElem_cons_succ]
    refine wpAnyH_take (i := 16) (v := .pointer (some ⟨X, 0, none⟩)) rfl (by kernel_rfl) (by kernel_rfl) (by kernel_rfl) (fun _ _ _ h => h) (Or.inl ⟨by rfl, fun w hS => by go_simp⟩) hHeld ?_
    simp only [Act.put, List.setIfInBounds_toArray, List.set_cons_zero, List.set_cons_succ, List.getElem_toArray, List.getElem_cons_zero, List.getElem_cons_succ]
    refine wpAnyH_take (i := 18) (v := .int .i64 a.size) rfl (by kernel_rfl) (by kernel_rfl) (by kernel_rfl) (fun _ _ _ h => h) (Or.inl ⟨by rfl, fun w hS => by go_simp⟩) hHeld ?_
    simp only [Act.put, List.setIfInBounds_toArray, List.set_cons_zero, List.set_cons_succ, List.getElem_toArray, List.getElem_cons_zero, List.getElem_cons_succ]
    refine wpAnyH_take (i := 19) (v := .int .i64 ((a.size : Int) + 6)) rfl (by kernel_rfl) (by kernel_rfl) (by kernel_rfl) (fun _ _ _ h => h) (Or.inl ⟨by rfl, fun w hS => by (go_simp) <;> first | rfl | (exact i64_wraps _ (by omega) (by omega)) | assumption⟩) hHeld ?_
    simp only [Act.put, List.setIfInBounds_toArray, List.set_cons_zero, List.set_cons_succ, List.getElem_toArray, List.getElem_cons_zero, List.getElem_cons_succ]
    refine wpAnyH_take (i := 20) (v := .pointer (some ⟨d9, 1, none⟩)) rfl (by kernel_rfl) (by kernel_rfl) (by kernel_rfl) (fun _ _ _ h => h) (Or.inl ⟨by rfl, fun w hS => by go_simp⟩) hHeld ?_
    simp only [Act.put, List.setIfInBounds_toArray, List.set_cons_zero, List.set_cons_succ, List.getElem_toArray, List.getElem_cons_zero, List.getElem_cons_succ]
    refine wpAnyH_take (i := 21) (v := .int .i64 n) rfl (by kernel_rfl) (by kernel_rfl) (by kernel_rfl) (fun _ _ _ h => h) (Or.inl ⟨by rfl, fun w hS => by (have hc : w.cell? ⟨d9, 1, none⟩ = some (.int .i64 n) := hS.2.1 1 _ rfl); go_simp⟩) hHeld ?_
    simp only [Act.put, List.setIfInBounds_toArray, List.set_cons_zero, List.set_cons_succ, List.getElem_toArray, List.getElem_cons_zero, List.getElem_cons_succ]
    refine wpAnyH_take (i := 22) (v := .int .i64 (16 * (n : Int))) rfl (by kernel_rfl) (by kernel_rfl) (by kernel_rfl) (fun _ _ _ h => h) (Or.inl ⟨by rfl, fun w hS => by (go_simp) <;> first | rfl | (exact i64_wraps _ (by omega) (by omega)) | assumption⟩) hHeld ?_
    simp only [Act.put, List.setIfInBounds_toArray, List.set_cons_zero, List.set_cons_succ, List.getElem_toArray, List.getElem_cons_zero, List.getElem_cons_succ]
    refine wpAnyH_take (i := 23) (v := .int .i64 ((a.size : Int) + 6 + 16 * (n : Int))) rfl (by kernel_rfl) (by kernel_rfl) (by kernel_rfl) (fun _ _ _ h => h) (Or.inl ⟨by rfl, fun w hS => by (go_simp) <;> first | rfl | (exact i64_wraps _ (by omega) (by omega)) | assumption⟩) hHeld ?_
    simp only [Act.put, List.setIfInBounds_toArray, List.set_cons_zero, List.set_cons_succ, List.getElem_toArray, List.getElem_cons_zero, List.getElem_cons_succ]
    have O7 := Lib.hid (O7.out.drew)
    have O8 := Lib.hid (O8.out.drew)
    have O9 := Lib.hid (O9.out.drew)
    have O11 := Lib.hid (O11.out.drew)
    have PX := Lib.hid (PX.out.drew1)
    have HB := Lib.hid HB.out.drew
    generalize World.drew _ = wk at O7 O8 O9 O11 PX HB ⊢
    refine wpAnyH_ready (rs := [17]) (by kernel_rfl) (by simp) ?_
    refine AllReadyH.cons (o := _) rfl (fun K' hK => ?_) AllReadyH.nil
    go_simp
    refine (HAT.out _ PX.out.src).mono ?_
    rintro x w14 ⟨rfl, rfl⟩
    go_wp2_with fail
    refine hK _ _ ⟨⟨O7.out.range0, O8.out.range0⟩, ⟨O9.out.range0, O11.out.range0⟩⟩ (fun hC1 => ?_)
    clear hK K'
    try simp only [Act.put, List.setIfInBounds_toArray, List.set_cons_zero, List.set_cons_succ, List.getElem_toArray, List.getElem_cons_zero, List.getElem_cons_succ]
    refine wpAnyH_take (i := 24) (v := .bool true) rfl (by kernel_rfl) (by kernel_rfl) (by kernel_rfl) (fun _ _ _ h => h) (Or.inl ⟨by rfl, fun w hS => by go_simp⟩) hC1 ?_
    simp only [Act.put, List.setIfInBounds_toArray, List.set_cons_zero, List.set_cons_succ, List.getElem_toArray, List.getElem_cons_zero, List.getElem_cons_succ]
    refine wpAnyH_take (i := 25) (v := .bool true) rfl (by kernel_rfl) (by kernel_rfl) (by kernel_rfl) (fun _ _ _ h => h) (Or.inl ⟨by rfl, fun w hS => by go_simp⟩) hC1 ?_
    simp only [Act.put, List.setIfInBounds_toArray, List.set_cons_zero, List.set_cons_succ, List.getElem_toArray, List.getElem_cons_zero, List.getElem_cons_succ]
    refine wpAnyH_take (i := 26) (v := .bool true) rfl (by kernel_rfl) (by kernel_rfl) (by kernel_rfl) (fun _ _ _ h => h) (Or.inl ⟨by rfl, fun w hS => by go_simp⟩) hC1 ?_
    simp only [Act.put, List.setIfInBounds_toArray, List.set_cons_zero, List.set_cons_succ, List.getElem_toArray, List.getElem_cons_zero, List.getElem_cons_succ]
    refine wpAnyH_ready (rs := [27]) (by kernel_rfl) (by simp) ?_
    refine AllReadyH.cons (o := _) rfl (fun K' hK => ?_) AllReadyH.nil
    go_simp
    refine (awake24 _).mono ?_
    rintro x w15 ⟨rfl, hb⟩
    have O7 := Lib.hid (O7.out.below hb O7.out.lt)
    have O8 := Lib.hid (O8.out.below hb O8.out.lt)
    have O9 := Lib.hid (O9.out.below hb O9.out.lt)
    have O11 := Lib.hid (O11.out.below hb O11.out.lt)
    have PX := Lib.hid (PX.out.upon hb PX.out.src.lt PX.out.led.lt)
    have HB := Lib.hid (bthen hb HB.out HB.out.size)
    clear hb
    go_wp2_with fail
    refine hK _ _ ⟨⟨O7.out.range0, O8.out.range0⟩, ⟨O9.out.range0, O11.out.range0⟩⟩ (fun hC2 => ?_)
    clear hK K'
    try simp only [Act.put, List.setIfInBounds_toArray, List.set_cons_zero, List.set_cons_succ, List.getElem_toArray, List.getElem_cons_zero, List.getElem_cons_succ]
    refine wpAnyH_take (i := 28) (v := .bool true) rfl (by kernel_rfl) (by kernel_rfl) (by kernel_rfl) (fun _ _ _ h => h) (Or.inl ⟨by rfl, fun w hS => by go_simp⟩) hC2 ?_
    simp only [Act.put, List.setIfInBounds_toArray, List.set_cons_zero, List.set_cons_succ, List.getElem_toArray, List.getElem_cons_zero, List.getElem_cons_succ]
    refine wpAnyH_take (i := 29) (v := .bool true) rfl (by kernel_rfl) (by kernel_rfl) (by kernel_rfl) (fun _ _ _ h => h) (Or.inl ⟨by rfl, fun w hS => by go_simp⟩) hC2 ?_
    simp only [Act.put, List.setIfInBounds_toArray, List.set_cons_zero, List.set_cons_succ, List.getElem_toArray, List.getElem_cons_zero, List.getElem_cons_succ]
    refine wpAnyH_done (by kernel_rfl) ?_ _
    refine NoPanic.normal ?_
    go_wp2_with fail
    go_ret
    exact ⟨rfl, HB.out⟩
end Go.Proofs.Ytomikbecbbjhoaa

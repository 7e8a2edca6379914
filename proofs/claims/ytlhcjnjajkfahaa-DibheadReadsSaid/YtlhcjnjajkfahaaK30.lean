/- DibheadReads, walked. -/
import Derived.Test.YtlhcjnjajkfahaaK25
import Derived.Test.YtlhcjnjajkfahaaK28
import Derived.Test.YtlhcjnjajkfahaaK29
namespace Go.Proofs.Ytlhcjnjajkfahaa
open Go.RowKit
set_option linter.unusedVariables false
set_option linter.unusedSimpArgs false
theorem seek0d (L : Nat) (s : ByteArray) (n : Nat) (h : n ≤ s.size) : Sr.seek ⟨L, s, 0, s.size, 0⟩ n = (⟨L, s, 0, s.size, n⟩, true) := by
  unfold Sr.seek; rw [if_neg (by simp only; omega)]; simp
set_option maxRecDepth 100000 in
set_option maxHeartbeats 16000000 in
theorem hreads_law (a s : ByteArray) (f : Int) (ha : a.size ≤ maxLen) (hs : s.size ≤ maxLen) (hf : (Lit.int .i64 f).wf = true) (w : World) : Calls Try.prog 8 #[.string a, .string s, .int .i64 f] w (Yes20 w) := by
  unfold maxLen at ha hs
  clear hf
  by_cases h1 : 300 < s.size
  · have D1 : decide ((s.size : Int) > 300) = true := by rw [decide_eq_true_iff]; omega
    go_enter Try.func8, Try.ntmps8
    go_wp2_with (first
      | ((with_reducible refine skip_g rfl ?_ ?_); rfl; intro _)
      | (go_at_call 30; (with_reducible refine (awake20 _).mono ?_); rintro e w1 ⟨rfl, hb⟩))
    go_ret
    exact ⟨rfl, hb⟩
  have D1 : decide ((s.size : Int) > 300) = false := by rw [decide_eq_false_iff_not]; omega
  by_cases h2 : 100 < a.size
  · have D2 : decide ((a.size : Int) > 100) = true := by rw [decide_eq_true_iff]; omega
    go_enter Try.func8, Try.ntmps8
    go_wp2_with (go_at_call 30; (with_reducible refine (awake20 _).mono ?_); rintro e w1 ⟨rfl, hb⟩)
    go_ret
    exact ⟨rfl, hb⟩
  have D2 : decide ((a.size : Int) > 100) = false := by rw [decide_eq_false_iff_not]; omega
  have hsz : (a ++ s).size = a.size + s.size := ByteArray.size_append
  have eW : IntKind.i64.wrap ((a.size : Int) + s.size) = ((a ++ s).size : Int) := by rw [hsz, i64_wraps _ (by omega) (by omega)]; omega
  have eW' : IntKind.i64.wrap ((a.size : Int) + s.size) = (a.size : Int) + s.size := i64_wraps _ (by omega) (by omega)
  have HRR := Lib.hid (fun w0 => (show Calls Try.prog 16 #[.string (a ++ s), .int .i64 a.size, .int .i64 ((a.size : Int) + s.size)] w0 (RA w0 (rRead20 (a ++ s) a.size)) by have h := rread20_any (a ++ s) a.size w0 (by omega) (by omega); rw [← eW, eW'] at h; exact h))
  clear eW
  go_enter Try.func8, Try.ntmps8
  go_wp2_with fail
  refine (fresh20_any (a ++ s) _ (by omega)).mono ?_
  rintro e w2 ⟨X, L, rfl, hP2, hX, hL, hB2⟩
  have HB := Lib.hid hB2
  have PX := Lib.hid hP2
  have HCS := Lib.hid (dib_eq ⟨L, a ++ s, 0, (a ++ s).size, a.size⟩ (Led.new 0 0 0 1000) f ⟨by simp only; omega, by simp only; omega, Nat.le_refl _, by simp only; omega⟩ rfl (by simp only; omega) rfl (by decide))
  clear hP2 hB2
  go_wp2_with fail
  refine (seek_any X _ _ _ _ PX.out).mono ?_
  rintro e w3 hbp
  obtain ⟨rfl, hP3, hC3⟩ := seek_at hbp (seek0d L (a ++ s) a.size (by omega))
  have HB := Lib.hid (chg_two HB.out hC3 hX hL)
  have PX := Lib.hid hP3
  clear hbp hP3 hC3
  go_wp2_with fail
  refine (hread_any X _ _ f _ PX.out).mono ?_
  rintro e w6 ⟨rfl, hP6, hC6⟩
  have HB := Lib.hid (chg_two HB.out hC6 hX hL)
  have lL6 := hP6.led.lt
  have lX6 := hP6.src.lt
  have O7 := Lib.hid ((obj1_new w6 #[.int .i64 0, .int .i64 0, .int .i64 0, .bool false, .int .i64 0, .int .i64 0, .int .i64 0, .int .i64 0, .int .i64 0, .int .i64 0, .int .i64 0, .int .i64 0, .int .i64 0, .int .i64 0, .int .i64 0, .int .i64 0] 61).alloc (.cells #[.int .i64 0, .int .i64 0, .int .i64 0] 63))
  have O8 := Lib.hid (obj1_new (w6.alloc (.cells #[.int .i64 0, .int .i64 0, .int .i64 0, .bool false, .int .i64 0, .int .i64 0, .int .i64 0, .int .i64 0, .int .i64 0, .int .i64 0, .int .i64 0, .int .i64 0, .int .i64 0, .int .i64 0, .int .i64 0, .int .i64 0] 61)) #[.int .i64 0, .int .i64 0, .int .i64 0] 63)
  rw [show (w6.alloc (.cells #[.int .i64 0, .int .i64 0, .int .i64 0, .bool false, .int .i64 0, .int .i64 0, .int .i64 0, .int .i64 0, .int .i64 0, .int .i64 0, .int .i64 0, .int .i64 0, .int .i64 0, .int .i64 0, .int .i64 0, .int .i64 0] 61)).heap.size = w6.heap.size + 1 by simp] at O8
  have z6 := HB.out.size
  have HB := Lib.hid ((HB.out.alloc HB.out.size (.cells #[.int .i64 0, .int .i64 0, .int .i64 0, .bool false, .int .i64 0, .int .i64 0, .int .i64 0, .int .i64 0, .int .i64 0, .int .i64 0, .int .i64 0, .int .i64 0, .int .i64 0, .int .i64 0, .int .i64 0, .int .i64 0] 61)).alloc (Nat.le_trans HB.out.size (by simp)) (.cells #[.int .i64 0, .int .i64 0, .int .i64 0] 63))
  clear hC6
  rcases HCS.out with ⟨k, at0, hk, hR, hD⟩ | ⟨⟨sz, W, H, top, dp, mt, co, m0, fr0⟩, m, r, g, b, q, en, hfine, hR, hD, hM, hen, hsz4, henE⟩
  · rw [hD]
    rw [show rRead20 (a ++ s) a.size = [.int .i64 0, .int .i64 0, .int .i64 0, .bool false, .int .i64 0, .int .i64 0, .int .i64 0, .int .i64 0, .int .i64 0, .int .i64 0, .int .i64 0, .int .i64 0, .int .i64 0, .int .i64 k, .int .i64 at0] from hR] at HRR
    have hk0 : (k != 0) = true := by simpa using hk
    clear HCS hD hR hP6 PX hk
    rw [show zero16 = [.int .i64 0, .int .i64 0, .int .i64 0, .bool false, .int .i64 0, .int .i64 0, .int .i64 0, .int .i64 0, .int .i64 0, .int .i64 0, .int .i64 0, .int .i64 0, .int .i64 0, .int .i64 0, .int .i64 0, .int .i64 0] from rfl]
    go_upto_region 8 with (first
      | (refine store_o rfl 61 16 _ _ rfl w6.heap.size [.int .i64 0, .int .i64 0, .int .i64 0, .bool false, .int .i64 0, .int .i64 0, .int .i64 0, .int .i64 0, .int .i64 0, .int .i64 0, .int .i64 0, .int .i64 0, .int .i64 0, .int .i64 0, .int .i64 0, .int .i64 0] rfl rfl (by kernel_rfl) (by kernel_rfl) (by kernel_rfl) O7.out (by first | rfl | simp) ?_; intro ws hst hO; have O7 := Lib.hid hO; have O8 := Lib.hid (hst.oth O8.out (by omega)); have HB := Lib.hid (hst.below HB.out (by omega)); clear hst hO)
      | (refine store_o rfl 63 3 _ _ rfl (w6.heap.size + 1) [.int .i64 k, .int .i64 f, .int .i64 at0] rfl rfl (by kernel_rfl) (by kernel_rfl) (by kernel_rfl) O8.out (by first | rfl | simp) ?_; intro ws hst hO; have O8 := Lib.hid hO; have O7 := Lib.hid (hst.oth O7.out (by omega)); have HB := Lib.hid (hst.below HB.out (by omega)); clear hst hO)
      | ((go_at_call 16; (with_reducible refine (HRR.out _).mono ?_); rintro x w9 ⟨rfl, hb⟩); have l9 := hb.size; have O9 := Lib.hid (obj1_new w9 #[.int .i64 0, .int .i64 0, .int .i64 0, .bool false, .int .i64 0, .int .i64 0, .int .i64 0, .int .i64 0, .int .i64 0, .int .i64 0, .int .i64 0, .int .i64 0, .int .i64 0, .int .i64 0, .int .i64 0] 31); have O7 := Lib.hid (O7.out.below hb O7.out.lt); have O8 := Lib.hid (O8.out.below hb O8.out.lt); have HB := Lib.hid (bthen hb HB.out HB.out.size); have lO9 := O8.out.lt; have z9 := HB.out.size; have O7 := Lib.hid (O7.out.alloc (.cells #[.int .i64 0, .int .i64 0, .int .i64 0, .bool false, .int .i64 0, .int .i64 0, .int .i64 0, .int .i64 0, .int .i64 0, .int .i64 0, .int .i64 0, .int .i64 0, .int .i64 0, .int .i64 0, .int .i64 0] 31)); have O8 := Lib.hid (O8.out.alloc (.cells #[.int .i64 0, .int .i64 0, .int .i64 0, .bool false, .int .i64 0, .int .i64 0, .int .i64 0, .int .i64 0, .int .i64 0, .int .i64 0, .int .i64 0, .int .i64 0, .int .i64 0, .int .i64 0, .int .i64 0] 31)); have HB := Lib.hid (HB.out.alloc HB.out.size (.cells #[.int .i64 0, .int .i64 0, .int .i64 0, .bool false, .int .i64 0, .int .i64 0, .int .i64 0, .int .i64 0, .int .i64 0, .int .i64 0, .int .i64 0, .int .i64 0, .int .i64 0, .int .i64 0, .int .i64 0] 31)); clear hb)
      | (refine store_o rfl 31 15 _ _ rfl w9.heap.size [.int .i64 0, .int .i64 0, .int .i64 0, .bool false, .int .i64 0, .int .i64 0, .int .i64 0, .int .i64 0, .int .i64 0, .int .i64 0, .int .i64 0, .int .i64 0, .int .i64 0, .int .i64 k, .int .i64 at0] rfl rfl (by kernel_rfl) (by kernel_rfl) (by kernel_rfl) O9.out (by first | rfl | simp) ?_; intro wt hst hO; have O9 := Lib.hid hO; have O7 := Lib.hid (hst.oth O7.out (by omega)); have O8 := Lib.hid (hst.oth O8.out (by omega)); have HB := Lib.hid (hst.below HB.out (by omega)); clear hst hO))
    have c13 : wt.cell? ⟨w9.heap.size, 13, none⟩ = some (.int .i64 k) := (O9.out.cell 13).trans rfl
    have c14 : wt.cell? ⟨w9.heap.size, 14, none⟩ = some (.int .i64 at0) := (O9.out.cell 14).trans rfl
    go_wp2_with (first
      | ((with_reducible refine skip_g rfl ?_ ?_); rfl; intro _)
      | (refine load_u (by kernel_rfl) 61 16 _ rfl w6.heap.size [.int .i64 0, .int .i64 0, .int .i64 0, .bool false, .int .i64 0, .int .i64 0, .int .i64 0, .int .i64 0, .int .i64 0, .int .i64 0, .int .i64 0, .int .i64 0, .int .i64 0, .int .i64 0, .int .i64 0, .int .i64 0] rfl rfl O7.out Try.underlying61 rfl (by kernel_rfl) ?_; intro _)
      | (refine load_u (by kernel_rfl) 63 3 _ rfl (w6.heap.size + 1) [.int .i64 k, .int .i64 f, .int .i64 at0] rfl rfl O8.out Try.underlying63 rfl (by kernel_rfl) ?_; intro _)
      | ((go_at_call 30; (with_reducible refine (awake20 _).mono ?_); rintro x w11 ⟨rfl, hb11⟩); have HBE := Lib.hid (bthen hb11 HB.out HB.out.size); clear hb11))
    go_ret
    exact ⟨rfl, HBE.out⟩
  · obtain ⟨fh, fw1, fw2, fdp⟩ := hfine
    simp only at fh fw1 fw2 fdp
    obtain ⟨W, rfl⟩ := Int.eq_ofNat_of_zero_le (show 0 ≤ W by omega)
    obtain ⟨dp, rfl⟩ := Int.eq_ofNat_of_zero_le (show 0 ≤ dp by omega)
    obtain ⟨k0, k1, k2, k3, k4, k5, k6, k7, rfl, m0w, m1w, m2w, m3w⟩ := hM
    rw [hD]
    rw [show rRead20 (a ++ s) a.size = [.int .i64 sz, .int .i64 (W : Nat), .int .i64 H, .bool top, .int .i64 (dp : Nat), .int .i64 mt, .int .i64 co, .int .i64 r, .int .i64 g, .int .i64 b, .int .i64 q, .int .i64 (a.size : Int), .int .i64 en, .int .i64 0, .int .i64 0] from hR] at HRR
    obtain ⟨y, hy⟩ : ∃ y, (hRead ⟨L, a ++ s, 0, (a ++ s).size, a.size⟩ (Led.new 0 0 0 1000) f).2.1 = y := ⟨_, rfl⟩
    obtain ⟨m, hm⟩ : ∃ m, (hRead ⟨L, a ++ s, 0, (a ++ s).size, a.size⟩ (Led.new 0 0 0 1000) f).2.2 = m := ⟨_, rfl⟩
    rw [hy, hm] at hP6
    rw [hy] at hen lL6
    have PX := Lib.hid (hP6.alloc (.cells #[.int .i64 0, .int .i64 0, .int .i64 0, .bool false, .int .i64 0, .int .i64 0, .int .i64 0, .int .i64 0, .int .i64 0, .int .i64 0, .int .i64 0, .int .i64 0, .int .i64 0, .int .i64 0, .int .i64 0, .int .i64 0] 61))
    have PX := Lib.hid (PX.out.alloc (.cells #[.int .i64 0, .int .i64 0, .int .i64 0] 63))
    have lX := hP6.src.lt
    have lL := hP6.led.lt
    obtain ⟨et, het⟩ : ∃ x, (if sz = 12 then (3 : Int) else 4) = x := ⟨_, rfl⟩
    have HAT := Lib.hid (fun w0 hp => (at_any X y w0 hp).mono (R' := fun x w' => x = .returned (.int .i64 en) ∧ w0 = w') fun x w' hh => ⟨hh.1.trans (by rw [hen]), hh.2⟩)
    have HSM := Lib.hid (fun w0 => same20_yes sz W H top dp mt co k0 k1 k2 k3 k4 k5 k6 k7 (a.size : Int) r g b q en m0w m1w m2w m3w w0)
    have HST := Lib.hid (fun w0 => hstride_any sz W H top dp mt co k0 k1 k2 k3 k4 k5 k6 k7 (a.size : Int) w0 (by omega) (by omega) (by omega))
    have HRS := Lib.hid (fun w0 => rstride_any sz W H top dp mt co r g b q (a.size : Int) en w0 (by omega) (by omega))
    have HEN := Lib.hid (fun w0 => het ▸ hentry_any sz W H top dp mt co k0 k1 k2 k3 k4 k5 k6 k7 (a.size : Int) w0)
    have HKN := Lib.hid (fun w0 => (known_any sz w0).mono (R' := fun x w' => x = .returned (.bool true) ∧ w' = w0) fun x w' hh => ⟨hh.1.trans (by unfold knownH; rw [fh]; rfl), hh.2⟩)
    obtain ⟨st, hst0⟩ : ∃ st : Nat, strideN W dp = st := ⟨_, rfl⟩
    rw [hst0] at HST HRS
    have HET := Lib.hid het
    clear HCS hD hR hP6 hen hy hm hst0 het hsz4 henE m0w m1w m2w m3w fdp fw1 fw2 fh
    rw [show Hd.at ⟨sz, (W : Nat), H, top, (dp : Nat), mt, co, m0, fr0⟩ [k0, k1, k2, k3, k4, k5, k6, k7] a.size = [.int .i64 sz, .int .i64 (W : Nat), .int .i64 H, .bool top, .int .i64 (dp : Nat), .int .i64 mt, .int .i64 co, .int .i64 k0, .int .i64 k1, .int .i64 k2, .int .i64 k3, .int .i64 k4, .int .i64 k5, .int .i64 k6, .int .i64 k7, .int .i64 (a.size : Int)] from rfl, show zero3 = [.int .i64 0, .int .i64 0, .int .i64 0] from rfl]
    go_upto_region 8 with (first
      | (refine store_o rfl 61 16 _ _ rfl w6.heap.size [.int .i64 sz, .int .i64 (W : Nat), .int .i64 H, .bool top, .int .i64 (dp : Nat), .int .i64 mt, .int .i64 co, .int .i64 k0, .int .i64 k1, .int .i64 k2, .int .i64 k3, .int .i64 k4, .int .i64 k5, .int .i64 k6, .int .i64 k7, .int .i64 (a.size : Int)] rfl rfl (by kernel_rfl) (by kernel_rfl) (by kernel_rfl) O7.out (by first | rfl | simp) ?_; intro ws hst hO; have O7 := Lib.hid hO; have O8 := Lib.hid (hst.oth O8.out (by omega)); have PX := Lib.hid (PX.out.into hst (by omega) (by omega)); have HB := Lib.hid (hst.below HB.out (by omega)); clear hst hO)
      | (refine store_o rfl 63 3 _ _ rfl (w6.heap.size + 1) [.int .i64 0, .int .i64 0, .int .i64 0] rfl rfl (by kernel_rfl) (by kernel_rfl) (by kernel_rfl) O8.out (by first | rfl | simp) ?_; intro ws hst hO; have O8 := Lib.hid hO; have O7 := Lib.hid (hst.oth O7.out (by omega)); have PX := Lib.hid (PX.out.into hst (by omega) (by omega)); have HB := Lib.hid (hst.below HB.out (by omega)); clear hst hO)
      | ((go_at_call 16; (with_reducible refine (HRR.out _).mono ?_); rintro x w9 ⟨rfl, hb⟩); have l9 := hb.size; have O9 := Lib.hid (obj1_new w9 #[.int .i64 0, .int .i64 0, .int .i64 0, .bool false, .int .i64 0, .int .i64 0, .int .i64 0, .int .i64 0, .int .i64 0, .int .i64 0, .int .i64 0, .int .i64 0, .int .i64 0, .int .i64 0, .int .i64 0] 31); have O7 := Lib.hid (O7.out.below hb O7.out.lt); have O8 := Lib.hid (O8.out.below hb O8.out.lt); have PX := Lib.hid (PX.out.upon hb PX.out.src.lt PX.out.led.lt); have HB := Lib.hid (bthen hb HB.out HB.out.size); have lO9 := O8.out.lt; have lX := PX.out.src.lt; have lL := PX.out.led.lt; have z9 := HB.out.size; have O7 := Lib.hid (O7.out.alloc (.cells #[.int .i64 0, .int .i64 0, .int .i64 0, .bool false, .int .i64 0, .int .i64 0, .int .i64 0, .int .i64 0, .int .i64 0, .int .i64 0, .int .i64 0, .int .i64 0, .int .i64 0, .int .i64 0, .int .i64 0] 31)); have O8 := Lib.hid (O8.out.alloc (.cells #[.int .i64 0, .int .i64 0, .int .i64 0, .bool false, .int .i64 0, .int .i64 0, .int .i64 0, .int .i64 0, .int .i64 0, .int .i64 0, .int .i64 0, .int .i64 0, .int .i64 0, .int .i64 0, .int .i64 0] 31)); have PX := Lib.hid (PX.out.alloc (.cells #[.int .i64 0, .int .i64 0, .int .i64 0, .bool false, .int .i64 0, .int .i64 0, .int .i64 0, .int .i64 0, .int .i64 0, .int .i64 0, .int .i64 0, .int .i64 0, .int .i64 0, .int .i64 0, .int .i64 0] 31)); have HB := Lib.hid (HB.out.alloc HB.out.size (.cells #[.int .i64 0, .int .i64 0, .int .i64 0, .bool false, .int .i64 0, .int .i64 0, .int .i64 0, .int .i64 0, .int .i64 0, .int .i64 0, .int .i64 0, .int .i64 0, .int .i64 0, .int .i64 0, .int .i64 0] 31)); clear hb)
      | (refine store_o rfl 31 15 _ _ rfl w9.heap.size [.int .i64 sz, .int .i64 (W : Nat), .int .i64 H, .bool top, .int .i64 (dp : Nat), .int .i64 mt, .int .i64 co, .int .i64 r, .int .i64 g, .int .i64 b, .int .i64 q, .int .i64 (a.size : Int), .int .i64 en, .int .i64 0, .int .i64 0] rfl rfl (by kernel_rfl) (by kernel_rfl) (by kernel_rfl) O9.out (by first | rfl | simp) ?_; intro wt hst hO; have O9 := Lib.hid hO; have O7 := Lib.hid (hst.oth O7.out (by omega)); have O8 := Lib.hid (hst.oth O8.out (by omega)); have PX := Lib.hid (PX.out.into hst (by omega) (by omega)); have HB := Lib.hid (hst.below HB.out (by omega)); clear hst hO))
    have c13 : wt.cell? ⟨w9.heap.size, 13, none⟩ = some (.int .i64 0) := (O9.out.cell 13).trans rfl
    have c0 : wt.cell? ⟨w9.heap.size, 0, none⟩ = some (.int .i64 sz) := (O9.out.cell 0).trans rfl
    obtain ⟨d9, hd9⟩ : ∃ d, w9.heap.size = d := ⟨_, rfl⟩
    obtain ⟨d7, hd7⟩ : ∃ d, w6.heap.size = d := ⟨_, rfl⟩
    rw [hd9] at O9 c13 c0
    rw [hd7] at O7 O8
    rw [hd9, hd7]
    obtain ⟨b12, hb12⟩ : ∃ x, (sz == 12) = x := ⟨_, rfl⟩
    have HB12 := Lib.hid hb12
    go_upto_if 72 with (fail)
    clear hb12
    go_cut [11] from 73 to 73 (fun c wx => c = .int .i64 et ∧ wx = wt)
    case first =>
      cases b12
      · have e : et = 4 := by
          rw [← HET.out, if_neg]; intro e; have h1 := HB12.out; rw [e] at h1; cases h1
        subst e
        go_wp2_with fail
        go_meet
        exact ⟨rfl, rfl⟩
      · have e : et = 3 := by rw [← HET.out, if_pos (eq_of_beq HB12.out)]
        subst e
        go_wp2_with fail
        go_meet
        exact ⟨rfl, rfl⟩
    case rest =>
    obtain ⟨rfl, rfl⟩ := hcut
    obtain ⟨wt, rfl⟩ : ∃ x, x = wc := ⟨_, rfl⟩
    clear HB12 HET c13 c0
    go_upto_region 13 with (fail)
    refine wp_region_noPanic ?_
    refine wp_region_held_drew (S := fun w' => w'.rangeAt d7 0 [.int .i64 sz, .int .i64 (W : Nat), .int .i64 H, .bool top, .int .i64 (dp : Nat), .int .i64 mt, .int .i64 co, .int .i64 k0, .int .i64 k1, .int .i64 k2, .int .i64 k3, .int .i64 k4, .int .i64 k5, .int .i64 k6, .int .i64 k7, .int .i64 (a.size : Int)] ∧ w'.rangeAt (d7 + 1) 0 [.int .i64 0, .int .i64 0, .int .i64 0] ∧ w'.rangeAt d9 0 [.int .i64 sz, .int .i64 (W : Nat), .int .i64 H, .bool top, .int .i64 (dp : Nat), .int .i64 mt, .int .i64 co, .int .i64 r, .int .i64 g, .int .i64 b, .int .i64 q, .int .i64 (a.size : Int), .int .i64 en, .int .i64 0, .int .i64 0]) (by kernel_rfl) ⟨O7.out.range0, O8.out.range0, O9.out.range0⟩ (fun hHeld => ?_)
    refine wpAnyH_take (i := 0) rfl (by kernel_rfl) (by kernel_rfl) (by kernel_rfl) (fun _ _ _ h => h) (yieldsIf_load_mid (by rfl) 63 _ rfl (d7 + 1) 0 rfl [.int .i64 0, .int .i64 0, .int .i64 0] _ (fun _ h => h.2.1) Try.underlying63 rfl (by kernel_rfl)) hHeld ?_
    simp only [Act.put, List.setIfInBounds_toArray, List.set_cons_zero, List.set_cons_succ, List.getElem_toArray, List.getElem_cons_zero, List.getElem_cons_succ]
    refine wpAnyH_take (i := 1) (v := .agg #[.int .i64 0, .int .i64 0, .int .i64 0]) rfl (by kernel_rfl) (by kernel_rfl) (by kernel_rfl) (fun _ _ _ h => h) (Or.inl ⟨by rfl, fun w hS => by go_simp⟩) hHeld ?_
    simp only [Act.put, List.setIfInBounds_toArray, List.set_cons_zero, List.set_cons_succ, List.getElem_toArray, List.getElem_cons_zero, List.getElem_cons_succ]
    refine wpAnyH_take (i := 2) (v := .bool true) rfl (by kernel_rfl) (by kernel_rfl) (by kernel_rfl) (fun _ _ _ h => h) (Or.inl ⟨by rfl, fun w hS => by go_simp⟩) hHeld ?_
    simp only [Act.put, List.setIfInBounds_toArray, List.set_cons_zero, List.set_cons_succ, List.getElem_toArray, List.getElem_cons_zero, List.getElem_cons_succ]
    refine wpAnyH_take (i := 3) (v := .bool true) rfl (by kernel_rfl) (by kernel_rfl) (by kernel_rfl) (fun _ _ _ h => h) (Or.inl ⟨by rfl, fun w hS => by go_simp⟩) hHeld ?_
    simp only [Act.put, List.setIfInBounds_toArray, List.set_cons_zero, List.set_cons_succ, List.getElem_toArray, List.getElem_cons_zero, List.getElem_cons_succ]
    refine wpAnyH_take (i := 4) rfl (by kernel_rfl) (by kernel_rfl) (by kernel_rfl) (fun _ _ _ h => h) (yieldsIf_load_mid (by rfl) 61 _ rfl (d7) 0 rfl [.int .i64 sz, .int .i64 (W : Nat), .int .i64 H, .bool top, .int .i64 (dp : Nat), .int .i64 mt, .int .i64 co, .int .i64 k0, .int .i64 k1, .int .i64 k2, .int .i64 k3, .int .i64 k4, .int .i64 k5, .int .i64 k6, .int .i64 k7, .int .i64 (a.size : Int)] _ (fun _ h => h.1) Try.underlying61 rfl (by kernel_rfl)) hHeld ?_
    simp only [Act.put, List.setIfInBounds_toArray, List.set_cons_zero, List.set_cons_succ, List.getElem_toArray, List.getElem_cons_zero, List.getElem_cons_succ]
    refine wpAnyH_take (i := 5) rfl (by kernel_rfl) (by kernel_rfl) (by kernel_rfl) (fun _ _ _ h => h) (yieldsIf_load_mid (by rfl) 31 _ rfl (d9) 0 rfl [.int .i64 sz, .int .i64 (W : Nat), .int .i64 H, .bool top, .int .i64 (dp : Nat), .int .i64 mt, .int .i64 co, .int .i64 r, .int .i64 g, .int .i64 b, .int .i64 q, .int .i64 (a.size : Int), .int .i64 en, .int .i64 0, .int .i64 0] _ (fun _ h => h.2.2) Try.underlying31 rfl (by kernel_rfl)) hHeld ?_
    simp only [Act.put, List.setIfInBounds_toArray, List.set_cons_zero, List.set_cons_succ, List.getElem_toArray, List.getElem_cons_zero, List.getElem_cons_succ]
    have O7 := Lib.hid (O7.out.drew)
    have O8 := Lib.hid (O8.out.drew)
    have O9 := Lib.hid (O9.out.drew)
    have PX := Lib.hid (PX.out.drew1)
    have HB := Lib.hid HB.out.drew
    generalize World.drew _ = wk at O7 O8 O9 PX HB ⊢
    refine wpAnyH_ready (rs := [6]) (by kernel_rfl) (by simp) ?_
    refine AllReadyH.cons (o := _) rfl (fun K' hK => ?_) AllReadyH.nil
    go_simp
    refine (HSM.out _).mono ?_
    rintro x w14 ⟨rfl, hb⟩
    have O7 := Lib.hid (O7.out.below hb O7.out.lt)
    have O8 := Lib.hid (O8.out.below hb O8.out.lt)
    have O9 := Lib.hid (O9.out.below hb O9.out.lt)
    have PX := Lib.hid (PX.out.upon hb PX.out.src.lt PX.out.led.lt)
    have HB := Lib.hid (bthen hb HB.out HB.out.size)
    clear hb
    go_wp2_with fail
    refine hK _ _ ⟨O7.out.range0, O8.out.range0, O9.out.range0⟩ (fun hC1 => ?_)
    clear hK K'
    try simp only [Act.put, List.setIfInBounds_toArray, List.set_cons_zero, List.set_cons_succ, List.getElem_toArray, List.getElem_cons_zero, List.getElem_cons_succ]
    refine wpAnyH_take (i := 7) (v := .bool true) rfl (by kernel_rfl) (by kernel_rfl) (by kernel_rfl) (fun _ _ _ h => h) (Or.inl ⟨by rfl, fun w hS => by go_simp⟩) hC1 ?_
    simp only [Act.put, List.setIfInBounds_toArray, List.set_cons_zero, List.set_cons_succ, List.getElem_toArray, List.getElem_cons_zero, List.getElem_cons_succ]
    refine wpAnyH_take (i := 8) (v := .bool true) rfl (by kernel_rfl) (by kernel_rfl) (by kernel_rfl) (fun _ _ _ h => h) (Or.inl ⟨by rfl, fun w hS => by go_simp⟩) hC1 ?_
    simp only [Act.put, List.setIfInBounds_toArray, List.set_cons_zero, List.set_cons_succ, List.getElem_toArray, List.getElem_cons_zero, List.getElem_cons_succ]
    refine wpAnyH_take (i := 9) (v := .pointer (some ⟨X, 0, none⟩)) rfl (by kernel_rfl) (by kernel_rfl) (by kernel_rfl) (fun _ _ _ h => h) (Or.inl ⟨by rfl, fun w hS => by go_simp⟩) hC1 ?_
    simp only [Act.put, List.setIfInBounds_toArray, List.set_cons_zero, List.set_cons_succ, List.getElem_toArray, List.getElem_cons_zero, List.getElem_cons_succ]
    refine wpAnyH_take (i := 11) (v := .pointer (some ⟨d9, 12, none⟩)) rfl (by kernel_rfl) (by kernel_rfl) (by kernel_rfl) (fun _ _ _ h => h) (Or.inl ⟨by rfl, fun w hS => by go_simp⟩) hC1 ?_
    simp only [Act.put, List.setIfInBounds_toArray, List.set_cons_zero, List.set_cons_succ, List.getElem_toArray, List.getElem_cons_zero, List.getElem_cons_succ]
    refine wpAnyH_take (i := 12) (v := .int .i64 en) rfl (by kernel_rfl) (by kernel_rfl) (by kernel_rfl) (fun _ _ _ h => h) (Or.inl ⟨by rfl, fun w hS => by (have hc : w.cell? ⟨d9, 12, none⟩ = some (.int .i64 en) := hS.2.2 12 _ rfl); go_simp⟩) hC1 ?_
    simp only [Act.put, List.setIfInBounds_toArray, List.set_cons_zero, List.set_cons_succ, List.getElem_toArray, List.getElem_cons_zero, List.getElem_cons_succ]
    refine wpAnyH_ready (rs := [10]) (by kernel_rfl) (by simp) ?_
    refine AllReadyH.cons (o := _) rfl (fun K' hK => ?_) AllReadyH.nil
    go_simp
    refine (HAT.out _ PX.out.src).mono ?_
    rintro x w15 ⟨rfl, rfl⟩
    go_wp2_with fail
    refine hK _ _ ⟨O7.out.range0, O8.out.range0, O9.out.range0⟩ (fun hC2 => ?_)
    clear hK K'
    try simp only [Act.put, List.setIfInBounds_toArray, List.set_cons_zero, List.set_cons_succ, List.getElem_toArray, List.getElem_cons_zero, List.getElem_cons_succ]
    refine wpAnyH_take (i := 13) (v := .bool true) rfl (by kernel_rfl) (by kernel_rfl) (by kernel_rfl) (fun _ _ _ h => h) (Or.inl ⟨by rfl, fun w hS => by go_simp⟩) hC2 ?_
    simp only [Act.put, List.setIfInBounds_toArray, List.set_cons_zero, List.set_cons_succ, List.getElem_toArray, List.getElem_cons_zero, List.getElem_cons_succ]
    refine wpAnyH_take (i := 14) (v := .bool true) rfl (by kernel_rfl) (by kernel_rfl) (by kernel_rfl) (fun _ _ _ h => h) (Or.inl ⟨by rfl, fun w hS => by go_simp⟩) hC2 ?_
    simp only [Act.put, List.setIfInBounds_toArray, List.set_cons_zero, List.set_cons_succ, List.getElem_toArray, List.getElem_cons_zero, List.getElem_cons_succ]
    refine wpAnyH_take (i := 15) (v := .bool true) rfl (by kernel_rfl) (by kernel_rfl) (by kernel_rfl) (fun _ _ _ h => h) (Or.inl ⟨by rfl, fun w hS => by go_simp⟩) hC2 ?_
    simp only [Act.put, List.setIfInBounds_toArray, List.set_cons_zero, List.set_cons_succ, List.getElem_toArray, List.getElem_cons_zero, List.getElem_cons_succ]
    refine wpAnyH_take (i := 16) rfl (by kernel_rfl) (by kernel_rfl) (by kernel_rfl) (fun _ _ _ h => h) (yieldsIf_load_mid (by rfl) 61 _ rfl (d7) 0 rfl [.int .i64 sz, .int .i64 (W : Nat), .int .i64 H, .bool top, .int .i64 (dp : Nat), .int .i64 mt, .int .i64 co, .int .i64 k0, .int .i64 k1, .int .i64 k2, .int .i64 k3, .int .i64 k4, .int .i64 k5, .int .i64 k6, .int .i64 k7, .int .i64 (a.size : Int)] _ (fun _ h => h.1) Try.underlying61 rfl (by kernel_rfl)) hC2 ?_
    simp only [Act.put, List.setIfInBounds_toArray, List.set_cons_zero, List.set_cons_succ, List.getElem_toArray, List.getElem_cons_zero, List.getElem_cons_succ]
    refine wpAnyH_take (i := 18) rfl (by kernel_rfl) (by kernel_rfl) (by kernel_rfl) (fun _ _ _ h => h) (yieldsIf_load_mid (by rfl) 31 _ rfl (d9) 0 rfl [.int .i64 sz, .int .i64 (W : Nat), .int .i64 H, .bool top, .int .i64 (dp : Nat), .int .i64 mt, .int .i64 co, .int .i64 r, .int .i64 g, .int .i64 b, .int .i64 q, .int .i64 (a.size : Int), .int .i64 en, .int .i64 0, .int .i64 0] _ (fun _ h => h.2.2) Try.underlying31 rfl (by kernel_rfl)) hC2 ?_
    simp only [Act.put, List.setIfInBounds_toArray, List.set_cons_zero, List.set_cons_succ, List.getElem_toArray, List.getElem_cons_zero, List.getElem_cons_succ]
    refine wpAnyH_ready (rs := [17]) (by kernel_rfl) (by simp) ?_
    refine AllReadyH.cons (o := _) rfl (fun K' hK => ?_) AllReadyH.nil
    go_simp
    refine (HST.out _).mono ?_
    rintro x w16 ⟨rfl, hb⟩
    have O7 := Lib.hid (O7.out.below hb O7.out.lt)
    have O8 := Lib.hid (O8.out.below hb O8.out.lt)
    have O9 := Lib.hid (O9.out.below hb O9.out.lt)
    have PX := Lib.hid (PX.out.upon hb PX.out.src.lt PX.out.led.lt)
    have HB := Lib.hid (bthen hb HB.out HB.out.size)
    clear hb
    go_wp2_with fail
    refine hK _ _ ⟨O7.out.range0, O8.out.range0, O9.out.range0⟩ (fun hC3 => ?_)
    clear hK K'
    try simp only [Act.put, List.setIfInBounds_toArray, List.set_cons_zero, List.set_cons_succ, List.getElem_toArray, List.getElem_cons_zero, List.getElem_cons_succ]
    refine wpAnyH_ready (rs := [19]) (by kernel_rfl) (by simp) ?_
    refine AllReadyH.cons (o := _) rfl (fun K' hK => ?_) AllReadyH.nil
    go_simp
    refine (HRS.out _).mono ?_
    rintro x w17 ⟨rfl, hb⟩
    have O7 := Lib.hid (O7.out.below hb O7.out.lt)
    have O8 := Lib.hid (O8.out.below hb O8.out.lt)
    have O9 := Lib.hid (O9.out.below hb O9.out.lt)
    have PX := Lib.hid (PX.out.upon hb PX.out.src.lt PX.out.led.lt)
    have HB := Lib.hid (bthen hb HB.out HB.out.size)
    clear hb
    go_wp2_with fail
    refine hK _ _ ⟨O7.out.range0, O8.out.range0, O9.out.range0⟩ (fun hC4 => ?_)
    clear hK K'
    try simp only [Act.put, List.setIfInBounds_toArray, List.set_cons_zero, List.set_cons_succ, List.getElem_toArray, List.getElem_cons_zero, List.getElem_cons_succ]
    refine wpAnyH_take (i := 20) (v := .bool true) rfl (by kernel_rfl) (by kernel_rfl) (by kernel_rfl) (fun _ _ _ h => h) (Or.inl ⟨by rfl, fun w hS => by go_simp⟩) hC4 ?_
    simp only [Act.put, List.setIfInBounds_toArray, List.set_cons_zero, List.set_cons_succ, List.getElem_toArray, List.getElem_cons_zero, List.getElem_cons_succ]
    refine wpAnyH_take (i := 21) (v := .bool true) rfl (by kernel_rfl) (by kernel_rfl) (by kernel_rfl) (fun _ _ _ h => h) (Or.inl ⟨by rfl, fun w hS => by go_simp⟩) hC4 ?_
    simp only [Act.put, List.setIfInBounds_toArray, List.set_cons_zero, List.set_cons_succ, List.getElem_toArray, List.getElem_cons_zero, List.getElem_cons_succ]
    refine wpAnyH_take (i := 22) (v := .bool true) rfl (by kernel_rfl) (by kernel_rfl) (by kernel_rfl) (fun _ _ _ h => h) (Or.inl ⟨by rfl, fun w hS => by go_simp⟩) hC4 ?_
    simp only [Act.put, List.setIfInBounds_toArray, List.set_cons_zero, List.set_cons_succ, List.getElem_toArray, List.getElem_cons_zero, List.getElem_cons_succ]
    refine wpAnyH_take (i := 23) rfl (by kernel_rfl) (by kernel_rfl) (by kernel_rfl) (fun _ _ _ h => h) (yieldsIf_load_mid (by rfl) 61 _ rfl (d7) 0 rfl [.int .i64 sz, .int .i64 (W : Nat), .int .i64 H, .bool top, .int .i64 (dp : Nat), .int .i64 mt, .int .i64 co, .int .i64 k0, .int .i64 k1, .int .i64 k2, .int .i64 k3, .int .i64 k4, .int .i64 k5, .int .i64 k6, .int .i64 k7, .int .i64 (a.size : Int)] _ (fun _ h => h.1) Try.underlying61 rfl (by kernel_rfl)) hC4 ?_
    simp only [Act.put, List.setIfInBounds_toArray, List.set_cons_zero, List.set_cons_succ, List.getElem_toArray, List.getElem_cons_zero, List.getElem_cons_succ]
    refine wpAnyH_take (i := 25) (v := .int .i64 et) rfl (by kernel_rfl) (by kernel_rfl) (by kernel_rfl) (fun _ _ _ h => h) (Or.inl ⟨by rfl, fun w hS => by go_simp⟩) hC4 ?_
    simp only [Act.put, List.setIfInBounds_toArray, List.set_cons_zero, List.set_cons_succ, List.getElem_toArray, List.getElem_cons_zero, List.getElem_cons_succ]
    refine wpAnyH_ready (rs := [24]) (by kernel_rfl) (by simp) ?_
    refine AllReadyH.cons (o := _) rfl (fun K' hK => ?_) AllReadyH.nil
    go_simp
    refine (HEN.out _).mono ?_
    rintro x w18 ⟨rfl, hb⟩
    have O7 := Lib.hid (O7.out.below hb O7.out.lt)
    have O8 := Lib.hid (O8.out.below hb O8.out.lt)
    have O9 := Lib.hid (O9.out.below hb O9.out.lt)
    have PX := Lib.hid (PX.out.upon hb PX.out.src.lt PX.out.led.lt)
    have HB := Lib.hid (bthen hb HB.out HB.out.size)
    clear hb
    go_wp2_with fail
    refine hK _ _ ⟨O7.out.range0, O8.out.range0, O9.out.range0⟩ (fun hC5 => ?_)
    clear hK K'
    try simp only [Act.put, List.setIfInBounds_toArray, List.set_cons_zero, List.set_cons_succ, List.getElem_toArray, List.getElem_cons_zero, List.getElem_cons_succ]
    refine wpAnyH_take (i := 26) (v := .bool true) rfl (by kernel_rfl) (by kernel_rfl) (by kernel_rfl) (fun _ _ _ h => h) (Or.inl ⟨by rfl, fun w hS => by go_simp⟩) hC5 ?_
    simp only [Act.put, List.setIfInBounds_toArray, List.set_cons_zero, List.set_cons_succ, List.getElem_toArray, List.getElem_cons_zero, List.getElem_cons_succ]
    refine wpAnyH_take (i := 27) (v := .bool true) rfl (by kernel_rfl) (by kernel_rfl) (by kernel_rfl) (fun _ _ _ h => h) (Or.inl ⟨by rfl, fun w hS => by go_simp⟩) hC5 ?_
    simp only [Act.put, List.setIfInBounds_toArray, List.set_cons_zero, List.set_cons_succ, List.getElem_toArray, List.getElem_cons_zero, List.getElem_cons_succ]
    refine wpAnyH_take (i := 28) (v := .bool true) rfl (by kernel_rfl) (by kernel_rfl) (by kernel_rfl) (fun _ _ _ h => h) (Or.inl ⟨by rfl, fun w hS => by go_simp⟩) hC5 ?_
    simp only [Act.put, List.setIfInBounds_toArray, List.set_cons_zero, List.set_cons_succ, List.getElem_toArray, List.getElem_cons_zero, List.getElem_cons_succ]
    refine wpAnyH_take (i := 29) (v := .pointer (some ⟨d9, 0, none⟩)) rfl (by kernel_rfl) (by kernel_rfl) (by kernel_rfl) (fun _ _ _ h => h) (Or.inl ⟨by rfl, fun w hS => by go_simp⟩) hC5 ?_
    simp only [Act.put, List.setIfInBounds_toArray, List.set_cons_zero, List.set_cons_succ, List.getElem_toArray, List.getElem_cons_zero, List.getElem_cons_succ]
    refine wpAnyH_take (i := 30) (v := .int .i64 sz) rfl (by kernel_rfl) (by kernel_rfl) (by kernel_rfl) (fun _ _ _ h => h) (Or.inl ⟨by rfl, fun w hS => by (have hc : w.cell? ⟨d9, 0, none⟩ = some (.int .i64 sz) := hS.2.2 0 _ rfl); go_simp⟩) hC5 ?_
    simp only [Act.put, List.setIfInBounds_toArray, List.set_cons_zero, List.set_cons_succ, List.getElem_toArray, List.getElem_cons_zero, List.getElem_cons_succ]
    refine wpAnyH_ready (rs := [31]) (by kernel_rfl) (by simp) ?_
    refine AllReadyH.cons (o := _) rfl (fun K' hK => ?_) AllReadyH.nil
    go_simp
    refine (HKN.out _).mono ?_
    rintro x w19 ⟨rfl, rfl⟩
    go_wp2_with fail
    refine hK _ _ ⟨O7.out.range0, O8.out.range0, O9.out.range0⟩ (fun hC6 => ?_)
    clear hK K'
    try simp only [Act.put, List.setIfInBounds_toArray, List.set_cons_zero, List.set_cons_succ, List.getElem_toArray, List.getElem_cons_zero, List.getElem_cons_succ]
    refine wpAnyH_take (i := 32) (v := .bool true) rfl (by kernel_rfl) (by kernel_rfl) (by kernel_rfl) (fun _ _ _ h => h) (Or.inl ⟨by rfl, fun w hS => by go_simp⟩) hC6 ?_
    simp only [Act.put, List.setIfInBounds_toArray, List.set_cons_zero, List.set_cons_succ, List.getElem_toArray, List.getElem_cons_zero, List.getElem_cons_succ]
    refine wpAnyH_take (i := 33) (v := .bool true) rfl (by kernel_rfl) (by kernel_rfl) (by kernel_rfl) (fun _ _ _ h => h) (Or.inl ⟨by rfl, fun w hS => by go_simp⟩) hC6 ?_
    simp only [Act.put, List.setIfInBounds_toArray, List.set_cons_zero, List.set_cons_succ, List.getElem_toArray, List.getElem_cons_zero, List.getElem_cons_succ]
    refine wpAnyH_ready (rs := [34]) (by kernel_rfl) (by simp) ?_
    refine AllReadyH.cons (o := _) rfl (fun K' hK => ?_) AllReadyH.nil
    go_simp
    refine (awake20 _).mono ?_
    rintro x w20 ⟨rfl, hb⟩
    have O7 := Lib.hid (O7.out.below hb O7.out.lt)
    have O8 := Lib.hid (O8.out.below hb O8.out.lt)
    have O9 := Lib.hid (O9.out.below hb O9.out.lt)
    have PX := Lib.hid (PX.out.upon hb PX.out.src.lt PX.out.led.lt)
    have HB := Lib.hid (bthen hb HB.out HB.out.size)
    clear hb
    go_wp2_with fail
    refine hK _ _ ⟨O7.out.range0, O8.out.range0, O9.out.range0⟩ (fun hC7 => ?_)
    clear hK K'
    try simp only [Act.put, List.setIfInBounds_toArray, List.set_cons_zero, List.set_cons_succ, List.getElem_toArray, List.getElem_cons_zero, List.getElem_cons_succ]
    refine wpAnyH_take (i := 35) (v := .bool true) rfl (by kernel_rfl) (by kernel_rfl) (by kernel_rfl) (fun _ _ _ h => h) (Or.inl ⟨by rfl, fun w hS => by go_simp⟩) hC7 ?_
    simp only [Act.put, List.setIfInBounds_toArray, List.set_cons_zero, List.set_cons_succ, List.getElem_toArray, List.getElem_cons_zero, List.getElem_cons_succ]
    refine wpAnyH_take (i := 36) (v := .bool true) rfl (by kernel_rfl) (by kernel_rfl) (by kernel_rfl) (fun _ _ _ h => h) (Or.inl ⟨by rfl, fun w hS => by go_simp⟩) hC7 ?_
    simp only [Act.put, List.setIfInBounds_toArray, List.set_cons_zero, List.set_cons_succ, List.getElem_toArray, List.getElem_cons_zero, List.getElem_cons_succ]
    refine wpAnyH_done (by kernel_rfl) ?_ _
    refine NoPanic.normal ?_
    go_wp2_with fail
    go_ret
    exact ⟨rfl, HB.out⟩
end Go.Proofs.Ytlhcjnjajkfahaa

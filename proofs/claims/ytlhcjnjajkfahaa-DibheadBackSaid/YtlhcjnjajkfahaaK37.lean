/- DibheadBack, walked. -/
import Derived.Test.YtlhcjnjajkfahaaK34
import Derived.Test.YtlhcjnjajkfahaaK35
import Derived.Test.YtlhcjnjajkfahaaK36
namespace Go.Proofs.Ytlhcjnjajkfahaa
open Go.RowKit
set_option linter.unusedVariables false
set_option linter.unusedSimpArgs false
theorem rRead20_len (s : ByteArray) (p : Nat) : (rRead20 s p).length = 15 ∧ (rRead20 s p).all (·.oneCell') = true := by
  unfold rRead20
  by_cases h1 : s.size < p + 4
  · rw [if_pos h1]; exact rBad20_len _ _
  rw [if_neg h1]
  by_cases h2 : (lowK s p 4 == 16 || lowK s p 4 == 64) = true
  · rw [if_pos h2]; exact rBad20_len _ _
  rw [if_neg h2]
  by_cases h3 : headsB (lowK s p 4) = false
  · rw [if_pos h3]; exact rBad20_len _ _
  rw [if_neg h3]
  by_cases h4 : (s.size : Int) < p + lowK s p 4
  · rw [if_pos h4]; exact rBad20_len _ _
  rw [if_neg h4]
  by_cases h5 : (lowK s p 4 == 12) = true
  · rw [if_pos h5]; exact rShort_len _ _
  rw [if_neg h5]
  by_cases h6 : (firstW (greatF (s.extract p (p + (lowK s p 4).toNat)))).2 = true
  · rw [if_pos h6]; exact rBad20_len _ _
  rw [if_neg h6]; exact rMk_len _ _ _ _
set_option maxRecDepth 100000 in
set_option maxHeartbeats 16000000 in
theorem back20_law (s : ByteArray) (hs : s.size ≤ maxLen) (w : World) : Calls Try.prog 10 #[.string s] w (Yes20 w) := by
  unfold maxLen at hs
  have HR0 := Lib.hid (fun w0 => (show Calls Try.prog 16 #[.string s, .int .i64 0, .int .i64 s.size] w0 (RA w0 (rRead20 s 0)) from rread20_any s 0 w0 (Nat.zero_le _) (Nat.zero_le _) (by omega)))
  by_cases h1 : 300 < s.size
  · have D1 : decide ((s.size : Int) > 300) = true := by rw [decide_eq_true_iff]; omega
    have hlen := rRead20_len s 0
    obtain ⟨YS, hYS⟩ : ∃ Y, rRead20 s 0 = Y := ⟨_, rfl⟩
    rw [hYS] at HR0 hlen
    have HRR := HR0
    obtain ⟨YL, YO⟩ := hlen
    clear hYS HR0
    go_enter Try.func10, Try.ntmps10
    go_upto_region 2 with (first
      | ((go_at_call 16; (with_reducible refine (HRR.out _).mono ?_); rintro x w3 ⟨rfl, hb⟩); have l3 := hb.size; have O3 := Lib.hid (obj1_new w3 #[.int .i64 0, .int .i64 0, .int .i64 0, .bool false, .int .i64 0, .int .i64 0, .int .i64 0, .int .i64 0, .int .i64 0, .int .i64 0, .int .i64 0, .int .i64 0, .int .i64 0, .int .i64 0, .int .i64 0] 31); have HB := Lib.hid (hb.alloc hb.size (.cells #[.int .i64 0, .int .i64 0, .int .i64 0, .bool false, .int .i64 0, .int .i64 0, .int .i64 0, .int .i64 0, .int .i64 0, .int .i64 0, .int .i64 0, .int .i64 0, .int .i64 0, .int .i64 0, .int .i64 0] 31)); clear hb)
      | (refine store_o rfl 31 15 _ _ rfl w3.heap.size YS YL YO (by kernel_rfl) (by kernel_rfl) (by kernel_rfl) O3.out (by first | rfl | simp) ?_; intro wt hst hO; have O3 := Lib.hid hO; have HB := Lib.hid (hst.below HB.out (by omega)); clear hst hO))
    go_wp2_with (first
      | ((with_reducible refine skip_g rfl ?_ ?_); rfl; intro _)
      | ((go_at_call 30; (with_reducible refine (awake20 _).mono ?_); rintro x w11 ⟨rfl, hb11⟩); have HB := Lib.hid (bthen hb11 HB.out HB.out.size); clear hb11))
    go_ret
    exact ⟨rfl, HB.out⟩
  have D1 : decide ((s.size : Int) > 300) = false := by rw [decide_eq_false_iff_not]; omega
  rcases dib_eq ⟨0, s, 0, s.size, 0⟩ (Led.new 0 0 0 1000) 1 ⟨Nat.le_refl _, Nat.zero_le _, Nat.le_refl _, by simp only; omega⟩ rfl (by simp only; omega) rfl (by decide) with ⟨k, at0, hk, hR, -⟩ | ⟨H0, m0, r, g, b, q, en, -, hR, -, -, -, hsz, -⟩
  · rw [show rRead20 s 0 = [.int .i64 0, .int .i64 0, .int .i64 0, .bool false, .int .i64 0, .int .i64 0, .int .i64 0, .int .i64 0, .int .i64 0, .int .i64 0, .int .i64 0, .int .i64 0, .int .i64 0, .int .i64 k, .int .i64 at0] from hR] at HR0
    have HRR := HR0
    have hk0 : (k != 0) = true := by simpa using hk
    clear HR0 hR hk
    go_enter Try.func10, Try.ntmps10
    go_upto_region 2 with (first
      | ((go_at_call 16; (with_reducible refine (HRR.out _).mono ?_); rintro x w3 ⟨rfl, hb⟩); have l3 := hb.size; have O3 := Lib.hid (obj1_new w3 #[.int .i64 0, .int .i64 0, .int .i64 0, .bool false, .int .i64 0, .int .i64 0, .int .i64 0, .int .i64 0, .int .i64 0, .int .i64 0, .int .i64 0, .int .i64 0, .int .i64 0, .int .i64 0, .int .i64 0] 31); have HB := Lib.hid (hb.alloc hb.size (.cells #[.int .i64 0, .int .i64 0, .int .i64 0, .bool false, .int .i64 0, .int .i64 0, .int .i64 0, .int .i64 0, .int .i64 0, .int .i64 0, .int .i64 0, .int .i64 0, .int .i64 0, .int .i64 0, .int .i64 0] 31)); clear hb)
      | (refine store_o rfl 31 15 _ _ rfl w3.heap.size [.int .i64 0, .int .i64 0, .int .i64 0, .bool false, .int .i64 0, .int .i64 0, .int .i64 0, .int .i64 0, .int .i64 0, .int .i64 0, .int .i64 0, .int .i64 0, .int .i64 0, .int .i64 k, .int .i64 at0] rfl rfl (by kernel_rfl) (by kernel_rfl) (by kernel_rfl) O3.out (by first | rfl | simp) ?_; intro wt hst hO; have O3 := Lib.hid hO; have HB := Lib.hid (hst.below HB.out (by omega)); clear hst hO))
    have c13 : wt.cell? ⟨w3.heap.size, 13, none⟩ = some (.int .i64 k) := (O3.out.cell 13).trans rfl
    go_wp2_with (first
      | ((with_reducible refine skip_g rfl ?_ ?_); rfl; intro _)
      | ((go_at_call 30; (with_reducible refine (awake20 _).mono ?_); rintro x w11 ⟨rfl, hb11⟩); have HB := Lib.hid (bthen hb11 HB.out HB.out.size); clear hb11))
    go_ret
    exact ⟨rfl, HB.out⟩
  obtain ⟨sz, W, H, top, dp, mt, co, m1, fr1⟩ := H0
  change rRead20 s 0 = [.int .i64 sz, .int .i64 W, .int .i64 H, .bool top, .int .i64 dp, .int .i64 mt, .int .i64 co, .int .i64 r, .int .i64 g, .int .i64 b, .int .i64 q, .int .i64 0, .int .i64 en, .int .i64 0, .int .i64 0] at hR
  change sz = lowK s 0 4 at hsz
  by_cases h40 : sz = 40
  rotate_left
  · rw [hR] at HR0
    have HRR := HR0
    have hk0 : (sz != 40) = true := by simpa using h40
    clear HR0 hR h40 hsz
    go_enter Try.func10, Try.ntmps10
    go_upto_region 2 with (first
      | ((go_at_call 16; (with_reducible refine (HRR.out _).mono ?_); rintro x w3 ⟨rfl, hb⟩); have l3 := hb.size; have O3 := Lib.hid (obj1_new w3 #[.int .i64 0, .int .i64 0, .int .i64 0, .bool false, .int .i64 0, .int .i64 0, .int .i64 0, .int .i64 0, .int .i64 0, .int .i64 0, .int .i64 0, .int .i64 0, .int .i64 0, .int .i64 0, .int .i64 0] 31); have HB := Lib.hid (hb.alloc hb.size (.cells #[.int .i64 0, .int .i64 0, .int .i64 0, .bool false, .int .i64 0, .int .i64 0, .int .i64 0, .int .i64 0, .int .i64 0, .int .i64 0, .int .i64 0, .int .i64 0, .int .i64 0, .int .i64 0, .int .i64 0] 31)); clear hb)
      | (refine store_o rfl 31 15 _ _ rfl w3.heap.size [.int .i64 sz, .int .i64 W, .int .i64 H, .bool top, .int .i64 dp, .int .i64 mt, .int .i64 co, .int .i64 r, .int .i64 g, .int .i64 b, .int .i64 q, .int .i64 0, .int .i64 en, .int .i64 0, .int .i64 0] rfl rfl (by kernel_rfl) (by kernel_rfl) (by kernel_rfl) O3.out (by first | rfl | simp) ?_; intro wt hst hO; have O3 := Lib.hid hO; have HB := Lib.hid (hst.below HB.out (by omega)); clear hst hO))
    have c13 : wt.cell? ⟨w3.heap.size, 13, none⟩ = some (.int .i64 0) := (O3.out.cell 13).trans rfl
    have c0 : wt.cell? ⟨w3.heap.size, 0, none⟩ = some (.int .i64 sz) := (O3.out.cell 0).trans rfl
    go_wp2_with (first
      | ((with_reducible refine skip_g rfl ?_ ?_); rfl; intro _)
      | ((go_at_call 30; (with_reducible refine (awake20 _).mono ?_); rintro x w11 ⟨rfl, hb11⟩); have HB := Lib.hid (bthen hb11 HB.out HB.out.size); clear hb11))
    go_ret
    exact ⟨rfl, HB.out⟩
  have hl40 : lowK s 0 4 = 40 := by rw [← hsz]; exact h40
  have HK := Lib.hid hR
  rw [hR] at HR0
  have HRR := HR0
  have HL4 := Lib.hid hl40
  have hk0 : (sz != 40) = false := by rw [h40]; rfl
  clear HR0 hR h40 hsz hl40
  go_enter Try.func10, Try.ntmps10
  go_upto_region 2 with (first
    | ((go_at_call 16; (with_reducible refine (HRR.out _).mono ?_); rintro x w3 ⟨rfl, hb⟩); have l3 := hb.size; have O3 := Lib.hid (obj1_new w3 #[.int .i64 0, .int .i64 0, .int .i64 0, .bool false, .int .i64 0, .int .i64 0, .int .i64 0, .int .i64 0, .int .i64 0, .int .i64 0, .int .i64 0, .int .i64 0, .int .i64 0, .int .i64 0, .int .i64 0] 31); have HB := Lib.hid (hb.alloc hb.size (.cells #[.int .i64 0, .int .i64 0, .int .i64 0, .bool false, .int .i64 0, .int .i64 0, .int .i64 0, .int .i64 0, .int .i64 0, .int .i64 0, .int .i64 0, .int .i64 0, .int .i64 0, .int .i64 0, .int .i64 0] 31)); clear hb)
    | (refine store_o rfl 31 15 _ _ rfl w3.heap.size [.int .i64 sz, .int .i64 W, .int .i64 H, .bool top, .int .i64 dp, .int .i64 mt, .int .i64 co, .int .i64 r, .int .i64 g, .int .i64 b, .int .i64 q, .int .i64 0, .int .i64 en, .int .i64 0, .int .i64 0] rfl rfl (by kernel_rfl) (by kernel_rfl) (by kernel_rfl) O3.out (by first | rfl | simp) ?_; intro wt hst hO; have O3 := Lib.hid hO; have HB := Lib.hid (hst.below HB.out (by omega)); clear hst hO))
  have c13 : wt.cell? ⟨w3.heap.size, 13, none⟩ = some (.int .i64 0) := (O3.out.cell 13).trans rfl
  have c0 : wt.cell? ⟨w3.heap.size, 0, none⟩ = some (.int .i64 sz) := (O3.out.cell 0).trans rfl
  go_upto_region 4 with ((with_reducible refine skip_g rfl ?_ ?_); rfl; intro _)
  clear c13 c0 O3 hk0 HRR
  go_wp2_with fail
  refine (fresh20_any s _ (by omega)).mono ?_
  rintro e w2 ⟨X, L, rfl, hP2, hX, hL, hB2⟩
  have hX : w.heap.size ≤ X := Nat.le_trans HB.out.size hX
  have hL : w.heap.size ≤ L := Nat.le_trans HB.out.size hL
  have HB := Lib.hid (bthen hB2 HB.out HB.out.size)
  have PX := Lib.hid hP2
  clear hP2 hB2
  have HCS := Lib.hid (dib_eq ⟨L, s, 0, s.size, 0⟩ (Led.new 0 0 0 1000) 1 ⟨Nat.le_refl _, Nat.zero_le _, Nat.le_refl _, by simp only; omega⟩ rfl (by simp only; omega) rfl (by decide))
  go_wp2_with fail
  refine (hread_any X _ _ 1 _ PX.out).mono ?_
  rintro e w6 ⟨rfl, hP6, hC6⟩
  have HB := Lib.hid (chg_two HB.out hC6 hX hL)
  have O5 := Lib.hid ((obj1_new w6 #[.int .i64 0, .int .i64 0, .int .i64 0, .bool false, .int .i64 0, .int .i64 0, .int .i64 0, .int .i64 0, .int .i64 0, .int .i64 0, .int .i64 0, .int .i64 0, .int .i64 0, .int .i64 0, .int .i64 0, .int .i64 0] 61).alloc (.cells #[.int .i64 0, .int .i64 0, .int .i64 0] 63))
  have O6 := Lib.hid (obj1_new (w6.alloc (.cells #[.int .i64 0, .int .i64 0, .int .i64 0, .bool false, .int .i64 0, .int .i64 0, .int .i64 0, .int .i64 0, .int .i64 0, .int .i64 0, .int .i64 0, .int .i64 0, .int .i64 0, .int .i64 0, .int .i64 0, .int .i64 0] 61)) #[.int .i64 0, .int .i64 0, .int .i64 0] 63)
  rw [show (w6.alloc (.cells #[.int .i64 0, .int .i64 0, .int .i64 0, .bool false, .int .i64 0, .int .i64 0, .int .i64 0, .int .i64 0, .int .i64 0, .int .i64 0, .int .i64 0, .int .i64 0, .int .i64 0, .int .i64 0, .int .i64 0, .int .i64 0] 61)).heap.size = w6.heap.size + 1 by simp] at O6
  have z6 := HB.out.size
  have HB := Lib.hid ((HB.out.alloc HB.out.size (.cells #[.int .i64 0, .int .i64 0, .int .i64 0, .bool false, .int .i64 0, .int .i64 0, .int .i64 0, .int .i64 0, .int .i64 0, .int .i64 0, .int .i64 0, .int .i64 0, .int .i64 0, .int .i64 0, .int .i64 0, .int .i64 0] 61)).alloc (Nat.le_trans HB.out.size (by simp)) (.cells #[.int .i64 0, .int .i64 0, .int .i64 0] 63))
  clear hC6 hP6 PX
  rcases HCS.out with ⟨k, at0, hk, hR, -⟩ | ⟨H2, m2, r3, g3, b3, q3, en3, hfine, hR, hD, hM, -, hsz, -, hHd, hm⟩
  · exact absurd (rBad_ne (hR.symm.trans (show _ = rOk ⟨sz, W, H, top, dp, mt, co, m1, fr1⟩ r g b q 0 en from HK.out))) hk
  clear HCS HK
  obtain ⟨k0, k1, k2, k3, k4, k5, k6, k7, hm8, m0w, m1w, m2w, m3w⟩ := hM
  have hn40 : H2 = hdOf (s.extract 0 40) := by
    obtain ⟨n, hn, hh⟩ := hHd
    have h4 := HL4.out
    obtain rfl : n = 40 := by have hn : lowK s 0 4 = n := hn; omega
    rw [hh]
  have HBK := Lib.hid (back_same s H2 m2 r3 g3 b3 q3 en3 k0 k1 k2 k3 k4 k5 k6 k7 hm8 hfine hR HL4.out hn40 hm m0w m1w m2w)
  obtain ⟨sz, W, H, top, dp, mt, co, m1, fr1⟩ := H2
  subst hm8
  have hD : (hRead ⟨L, s, 0, s.size, 0⟩ (Led.new 0 0 0 1000) 1).1 = ([.int .i64 sz, .int .i64 W, .int .i64 H, .bool top, .int .i64 dp, .int .i64 mt, .int .i64 co, .int .i64 k0, .int .i64 k1, .int .i64 k2, .int .i64 k3, .int .i64 k4, .int .i64 k5, .int .i64 k6, .int .i64 k7, .int .i64 0], [.int .i64 0, .int .i64 0, .int .i64 0]) := hD
  rw [hD]
  clear hD hn40 hHd hm hfine hR hsz m0w m1w m2w m3w HL4
  obtain ⟨t, ht⟩ : ∃ t, outS W H top dp mt co k0 k1 k2 k3 k4 k5 = t := ⟨_, rfl⟩
  have HBT := Lib.hid (HBK.out t ht)
  have HBY := Lib.hid (fun w0 => ht ▸ hbytes_any sz W H top dp mt co k0 k1 k2 k3 k4 k5 k6 k7 0 w0)
  have HOI := Lib.hid (ht ▸ outS_is W H top dp mt co k0 k1 k2 k3 k4 k5)
  have htz : t.size ≤ 52 := by rw [HOI.out.z]; split <;> omega
  clear ht HBK
  go_upto_region 8 with (first
    | (refine store_o rfl 61 16 _ _ rfl w6.heap.size [.int .i64 sz, .int .i64 W, .int .i64 H, .bool top, .int .i64 dp, .int .i64 mt, .int .i64 co, .int .i64 k0, .int .i64 k1, .int .i64 k2, .int .i64 k3, .int .i64 k4, .int .i64 k5, .int .i64 k6, .int .i64 k7, .int .i64 0] rfl rfl (by kernel_rfl) (by kernel_rfl) (by kernel_rfl) O5.out (by first | rfl | simp) ?_; intro ws hst hO; have O5 := Lib.hid hO; have O6 := Lib.hid (hst.oth O6.out (by omega)); have HB := Lib.hid (hst.below HB.out (by omega)); clear hst hO)
    | (refine store_o rfl 63 3 _ _ rfl (w6.heap.size + 1) [.int .i64 0, .int .i64 0, .int .i64 0] rfl rfl (by kernel_rfl) (by kernel_rfl) (by kernel_rfl) O6.out (by first | rfl | simp) ?_; intro wu hst hO; have O6 := Lib.hid hO; have O5 := Lib.hid (hst.oth O5.out (by omega)); have HB := Lib.hid (hst.below HB.out (by omega)); clear hst hO))
  go_wp2_with (refine load_u (by kernel_rfl) 61 16 _ rfl w6.heap.size [.int .i64 sz, .int .i64 W, .int .i64 H, .bool top, .int .i64 dp, .int .i64 mt, .int .i64 co, .int .i64 k0, .int .i64 k1, .int .i64 k2, .int .i64 k3, .int .i64 k4, .int .i64 k5, .int .i64 k6, .int .i64 k7, .int .i64 0] rfl rfl O5.out Try.underlying61 rfl (by kernel_rfl) ?_; intro _)
  refine (HBY.out _).mono ?_
  rintro e w8 ⟨h, hb⟩
  have O5 := Lib.hid (O5.out.below hb O5.out.lt)
  have O6 := Lib.hid (O6.out.below hb O6.out.lt)
  have HB := Lib.hid (bthen hb HB.out HB.out.size)
  clear hb
  rcases h with ⟨HD, m, r2, g2, b2, q2, en2, hG, hE, rfl⟩ | ⟨hbad, rfl⟩
  rotate_left
  · exfalso
    rcases hbad with hbad | ⟨HD, m, r2, g2, b2, q2, en2, hG, hE⟩
    · exact HBT.out.1 hbad
    · exact hE (HBT.out.2 HD m r2 g2 b2 q2 en2 hG)
  obtain ⟨hR, m0, m1, m2, m3, -⟩ := good_is hG HOI.out hE
  have HRT := Lib.hid (fun w0 => (show Calls Try.prog 16 #[.string t, .int .i64 0, .int .i64 t.size] w0 (RA w0 [.int .i64 sz, .int .i64 W, .int .i64 H, .bool top, .int .i64 dp, .int .i64 mt, .int .i64 co, .int .i64 r2, .int .i64 g2, .int .i64 b2, .int .i64 q2, .int .i64 0, .int .i64 (t.size : Int), .int .i64 0, .int .i64 0]) from hR ▸ rread20_any t 0 w0 (Nat.zero_le _) (Nat.zero_le _) (by omega)))
  have HSM := Lib.hid (fun w0 => same20_yes sz W H top dp mt co k0 k1 k2 k3 k4 k5 k6 k7 0 r2 g2 b2 q2 (t.size : Int) m0 m1 m2 m3 w0)
  clear hG hE hR m0 m1 m2 m3 HBY HOI HBT
  obtain ⟨d5, hd5⟩ : ∃ d, w6.heap.size = d := ⟨_, rfl⟩
  rw [hd5] at O5 O6
  rw [hd5]
  go_upto_region 9 with (fail)
  refine wp_region_noPanic ?_
  refine wp_region_held_drew (S := fun w' => w'.rangeAt d5 0 [.int .i64 sz, .int .i64 W, .int .i64 H, .bool top, .int .i64 dp, .int .i64 mt, .int .i64 co, .int .i64 k0, .int .i64 k1, .int .i64 k2, .int .i64 k3, .int .i64 k4, .int .i64 k5, .int .i64 k6, .int .i64 k7, .int .i64 0] ∧ w'.rangeAt (d5 + 1) 0 [.int .i64 0, .int .i64 0, .int .i64 0]) (by kernel_rfl) ⟨O5.out.range0, O6.out.range0⟩ (fun hHeld => ?_)
  refine wpAnyH_take (i := 0) rfl (by kernel_rfl) (by kernel_rfl) (by kernel_rfl) (fun _ _ _ h => h) (yieldsIf_load_mid (by rfl) 63 _ rfl (d5 + 1) 0 rfl [.int .i64 0, .int .i64 0, .int .i64 0] _ (fun _ h => h.2) Try.underlying63 rfl (by kernel_rfl)) hHeld ?_
  simp only [Act.put, List.setIfInBounds_toArray, List.set_cons_zero, List.set_cons_succ, List.getElem_toArray, List.getElem_cons_zero, List.getElem_cons_succ]
  refine wpAnyH_take (i := 1) (v := .agg #[.int .i64 0, .int .i64 0, .int .i64 0]) rfl (by kernel_rfl) (by kernel_rfl) (by kernel_rfl) (fun _ _ _ h => h) (Or.inl ⟨by rfl, fun w hS => by go_simp⟩) hHeld ?_
  simp only [Act.put, List.setIfInBounds_toArray, List.set_cons_zero, List.set_cons_succ, List.getElem_toArray, List.getElem_cons_zero, List.getElem_cons_succ]
  refine wpAnyH_take (i := 2) (v := .bool true) rfl (by kernel_rfl) (by kernel_rfl) (by kernel_rfl) (fun _ _ _ h => h) (Or.inl ⟨by rfl, fun w hS => by go_simp⟩) hHeld ?_
  simp only [Act.put, List.setIfInBounds_toArray, List.set_cons_zero, List.set_cons_succ, List.getElem_toArray, List.getElem_cons_zero, List.getElem_cons_succ]
  refine wpAnyH_take (i := 3) (v := .bool true) rfl (by kernel_rfl) (by kernel_rfl) (by kernel_rfl) (fun _ _ _ h => h) (Or.inl ⟨by rfl, fun w hS => by go_simp⟩) hHeld ?_
  simp only [Act.put, List.setIfInBounds_toArray, List.set_cons_zero, List.set_cons_succ, List.getElem_toArray, List.getElem_cons_zero, List.getElem_cons_succ]
  refine wpAnyH_take (i := 4) (v := .int .i64 0) rfl (by kernel_rfl) (by kernel_rfl) (by kernel_rfl) (fun _ _ _ h => h) (Or.inl ⟨by rfl, fun w hS => by go_simp⟩) hHeld ?_
  simp only [Act.put, List.setIfInBounds_toArray, List.set_cons_zero, List.set_cons_succ, List.getElem_toArray, List.getElem_cons_zero, List.getElem_cons_succ]
  refine wpAnyH_take (i := 5) (v := .bool true) rfl (by kernel_rfl) (by kernel_rfl) (by kernel_rfl) (fun _ _ _ h => h) (Or.inl ⟨by rfl, fun w hS => by go_simp⟩) hHeld ?_
  simp only [Act.put, List.setIfInBounds_toArray, List.set_cons_zero, List.set_cons_succ, List.getElem_toArray, List.getElem_cons_zero, List.getElem_cons_succ]
  refine wpAnyH_take (i := 6) (v := .bool true) rfl (by kernel_rfl) (by kernel_rfl) (by kernel_rfl) (fun _ _ _ h => h) (Or.inl ⟨by rfl, fun w hS => by go_simp⟩) hHeld ?_
  simp only [Act.put, List.setIfInBounds_toArray, List.set_cons_zero, List.set_cons_succ, List.getElem_toArray, List.getElem_cons_zero, List.getElem_cons_succ]
  refine wpAnyH_take (i := 7) (v := .bool true) rfl (by kernel_rfl) (by kernel_rfl) (by kernel_rfl) (fun _ _ _ h => h) (Or.inl ⟨by rfl, fun w hS => by go_simp⟩) hHeld ?_
  simp only [Act.put, List.setIfInBounds_toArray, List.set_cons_zero, List.set_cons_succ, List.getElem_toArray, List.getElem_cons_zero, List.getElem_cons_succ]
  refine wpAnyH_take (i := 8) (v := .string t) rfl (by kernel_rfl) (by kernel_rfl) (by kernel_rfl) (fun _ _ _ h => h) (Or.inl ⟨by rfl, fun w hS => by go_simp⟩) hHeld ?_
  simp only [Act.put, List.setIfInBounds_toArray, List.set_cons_zero, List.set_cons_succ, List.getElem_toArray, List.getElem_cons_zero, List.getElem_cons_succ]
  refine wpAnyH_take (i := 9) (v := .string t) rfl (by kernel_rfl) (by kernel_rfl) (by kernel_rfl) (fun _ _ _ h => h) (Or.inl ⟨by rfl, fun w hS => by go_simp⟩) hHeld ?_
  simp only [Act.put, List.setIfInBounds_toArray, List.set_cons_zero, List.set_cons_succ, List.getElem_toArray, List.getElem_cons_zero, List.getElem_cons_succ]
  refine wpAnyH_take (i := 10) (v := .int .i64 t.size) rfl (by kernel_rfl) (by kernel_rfl) (by kernel_rfl) (fun _ _ _ h => h) (Or.inl ⟨by rfl, fun w hS => by go_simp⟩) hHeld ?_
  simp only [Act.put, List.setIfInBounds_toArray, List.set_cons_zero, List.set_cons_succ, List.getElem_toArray, List.getElem_cons_zero, List.getElem_cons_succ]
  have O5 := Lib.hid (O5.out.drew)
  have O6 := Lib.hid (O6.out.drew)
  have HB := Lib.hid HB.out.drew
  generalize World.drew _ = wk at O5 O6 HB ⊢
  refine wpAnyH_ready (rs := [11]) (by kernel_rfl) (by simp) ?_
  refine AllReadyH.cons (o := _) rfl (fun K' hK => ?_) AllReadyH.nil
  go_simp
  refine (HRT.out _).mono ?_
  rintro x w14 ⟨rfl, hb⟩
  have O5 := Lib.hid (O5.out.below hb O5.out.lt)
  have O6 := Lib.hid (O6.out.below hb O6.out.lt)
  have HB := Lib.hid (bthen hb HB.out HB.out.size)
  clear hb
  go_wp2_with fail
  refine hK _ _ ⟨O5.out.range0, O6.out.range0⟩ (fun hC1 => ?_)
  clear hK K'
  try simp only [Act.put, List.setIfInBounds_toArray, List.set_cons_zero, List.set_cons_succ, List.getElem_toArray, List.getElem_cons_zero, List.getElem_cons_succ]
  refine wpAnyH_take (i := 12) (v := .int .i64 0) rfl (by kernel_rfl) (by kernel_rfl) (by kernel_rfl) (fun _ _ _ h => h) (Or.inl ⟨by rfl, fun w hS => by (go_simp); (first | rfl | (simp [Instr.field, go_sem]))⟩) hC1 ?_
  simp only [Act.put, List.setIfInBounds_toArray, List.set_cons_zero, List.set_cons_succ, List.getElem_toArray, List.getElem_cons_zero, List.getElem_cons_succ]
  refine wpAnyH_take (i := 13) (v := .bool true) rfl (by kernel_rfl) (by kernel_rfl) (by kernel_rfl) (fun _ _ _ h => h) (Or.inl ⟨by rfl, fun w hS => by go_simp⟩) hC1 ?_
  simp only [Act.put, List.setIfInBounds_toArray, List.set_cons_zero, List.set_cons_succ, List.getElem_toArray, List.getElem_cons_zero, List.getElem_cons_succ]
  refine wpAnyH_take (i := 14) (v := .bool true) rfl (by kernel_rfl) (by kernel_rfl) (by kernel_rfl) (fun _ _ _ h => h) (Or.inl ⟨by rfl, fun w hS => by go_simp⟩) hC1 ?_
  simp only [Act.put, List.setIfInBounds_toArray, List.set_cons_zero, List.set_cons_succ, List.getElem_toArray, List.getElem_cons_zero, List.getElem_cons_succ]
  refine wpAnyH_take (i := 15) (v := .bool true) rfl (by kernel_rfl) (by kernel_rfl) (by kernel_rfl) (fun _ _ _ h => h) (Or.inl ⟨by rfl, fun w hS => by go_simp⟩) hC1 ?_
  simp only [Act.put, List.setIfInBounds_toArray, List.set_cons_zero, List.set_cons_succ, List.getElem_toArray, List.getElem_cons_zero, List.getElem_cons_succ]
  refine wpAnyH_take (i := 16) rfl (by kernel_rfl) (by kernel_rfl) (by kernel_rfl) (fun _ _ _ h => h) (yieldsIf_load_mid (by rfl) 61 _ rfl (d5) 0 rfl [.int .i64 sz, .int .i64 W, .int .i64 H, .bool top, .int .i64 dp, .int .i64 mt, .int .i64 co, .int .i64 k0, .int .i64 k1, .int .i64 k2, .int .i64 k3, .int .i64 k4, .int .i64 k5, .int .i64 k6, .int .i64 k7, .int .i64 0] _ (fun _ h => h.1) Try.underlying61 rfl (by kernel_rfl)) hC1 ?_
  simp only [Act.put, List.setIfInBounds_toArray, List.set_cons_zero, List.set_cons_succ, List.getElem_toArray, List.getElem_cons_zero, List.getElem_cons_succ]
  refine wpAnyH_take (i := 17) (v := .string t) rfl (by kernel_rfl) (by kernel_rfl) (by kernel_rfl) (fun _ _ _ h => h) (Or.inl ⟨by rfl, fun w hS => by go_simp⟩) hC1 ?_
  simp only [Act.put, List.setIfInBounds_toArray, List.set_cons_zero, List.set_cons_succ, List.getElem_toArray, List.getElem_cons_zero, List.getElem_cons_succ]
  refine wpAnyH_take (i := 18) (v := .string t) rfl (by kernel_rfl) (by kernel_rfl) (by kernel_rfl) (fun _ _ _ h => h) (Or.inl ⟨by rfl, fun w hS => by go_simp⟩) hC1 ?_
  simp only [Act.put, List.setIfInBounds_toArray, List.set_cons_zero, List.set_cons_succ, List.getElem_toArray, List.getElem_cons_zero, List.getElem_cons_succ]
  refine wpAnyH_take (i := 19) (v := .int .i64 t.size) rfl (by kernel_rfl) (by kernel_rfl) (by kernel_rfl) (fun _ _ _ h => h) (Or.inl ⟨by rfl, fun w hS => by go_simp⟩) hC1 ?_
  simp only [Act.put, List.setIfInBounds_toArray, List.set_cons_zero, List.set_cons_succ, List.getElem_toArray, List.getElem_cons_zero, List.getElem_cons_succ]
  refine wpAnyH_ready (rs := [20]) (by kernel_rfl) (by simp) ?_
  refine AllReadyH.cons (o := _) rfl (fun K' hK => ?_) AllReadyH.nil
  go_simp
  refine (HRT.out _).mono ?_
  rintro x w15 ⟨rfl, hb⟩
  have O5 := Lib.hid (O5.out.below hb O5.out.lt)
  have O6 := Lib.hid (O6.out.below hb O6.out.lt)
  have HB := Lib.hid (bthen hb HB.out HB.out.size)
  clear hb
  go_wp2_with fail
  refine hK _ _ ⟨O5.out.range0, O6.out.range0⟩ (fun hC2 => ?_)
  clear hK K'
  try simp only [Act.put, List.setIfInBounds_toArray, List.set_cons_zero, List.set_cons_succ, List.getElem_toArray, List.getElem_cons_zero, List.getElem_cons_succ]
  refine wpAnyH_ready (rs := [21]) (by kernel_rfl) (by simp) ?_
  refine AllReadyH.cons (o := _) rfl (fun K' hK => ?_) AllReadyH.nil
  go_simp
  refine (HSM.out _).mono ?_
  rintro x w16 ⟨rfl, hb⟩
  have O5 := Lib.hid (O5.out.below hb O5.out.lt)
  have O6 := Lib.hid (O6.out.below hb O6.out.lt)
  have HB := Lib.hid (bthen hb HB.out HB.out.size)
  clear hb
  go_wp2_with fail
  refine hK _ _ ⟨O5.out.range0, O6.out.range0⟩ (fun hC3 => ?_)
  clear hK K'
  try simp only [Act.put, List.setIfInBounds_toArray, List.set_cons_zero, List.set_cons_succ, List.getElem_toArray, List.getElem_cons_zero, List.getElem_cons_succ]
  refine wpAnyH_take (i := 22) (v := .bool true) rfl (by kernel_rfl) (by kernel_rfl) (by kernel_rfl) (fun _ _ _ h => h) (Or.inl ⟨by rfl, fun w hS => by go_simp⟩) hC3 ?_
  simp only [Act.put, List.setIfInBounds_toArray, List.set_cons_zero, List.set_cons_succ, List.getElem_toArray, List.getElem_cons_zero, List.getElem_cons_succ]
  refine wpAnyH_take (i := 23) (v := .bool true) rfl (by kernel_rfl) (by kernel_rfl) (by kernel_rfl) (fun _ _ _ h => h) (Or.inl ⟨by rfl, fun w hS => by go_simp⟩) hC3 ?_
  simp only [Act.put, List.setIfInBounds_toArray, List.set_cons_zero, List.set_cons_succ, List.getElem_toArray, List.getElem_cons_zero, List.getElem_cons_succ]
  refine wpAnyH_ready (rs := [24]) (by kernel_rfl) (by simp) ?_
  refine AllReadyH.cons (o := _) rfl (fun K' hK => ?_) AllReadyH.nil
  go_simp
  refine (awake20 _).mono ?_
  rintro x w17 ⟨rfl, hb⟩
  have O5 := Lib.hid (O5.out.below hb O5.out.lt)
  have O6 := Lib.hid (O6.out.below hb O6.out.lt)
  have HB := Lib.hid (bthen hb HB.out HB.out.size)
  clear hb
  go_wp2_with fail
  refine hK _ _ ⟨O5.out.range0, O6.out.range0⟩ (fun hC4 => ?_)
  clear hK K'
  try simp only [Act.put, List.setIfInBounds_toArray, List.set_cons_zero, List.set_cons_succ, List.getElem_toArray, List.getElem_cons_zero, List.getElem_cons_succ]
  refine wpAnyH_take (i := 25) (v := .bool true) rfl (by kernel_rfl) (by kernel_rfl) (by kernel_rfl) (fun _ _ _ h => h) (Or.inl ⟨by rfl, fun w hS => by go_simp⟩) hC4 ?_
  simp only [Act.put, List.setIfInBounds_toArray, List.set_cons_zero, List.set_cons_succ, List.getElem_toArray, List.getElem_cons_zero, List.getElem_cons_succ]
  refine wpAnyH_take (i := 26) (v := .bool true) rfl (by kernel_rfl) (by kernel_rfl) (by kernel_rfl) (fun _ _ _ h => h) (Or.inl ⟨by rfl, fun w hS => by go_simp⟩) hC4 ?_
  simp only [Act.put, List.setIfInBounds_toArray, List.set_cons_zero, List.set_cons_succ, List.getElem_toArray, List.getElem_cons_zero, List.getElem_cons_succ]
  refine wpAnyH_done (by kernel_rfl) ?_ _
  refine NoPanic.normal ?_
  go_wp2_with fail
  go_ret
  exact ⟨rfl, HB.out⟩
end Go.Proofs.Ytlhcjnjajkfahaa

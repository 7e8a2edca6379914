/- Parts. -/
import Derived.Test.YtfchnibjjokmbaaGreatK30
import Derived.Deep.Slices
import Derived.Deep.Fields
import Derived.ChangeSame
import Derived.Lib.SmallJoins
set_option linter.all false
set_option maxRecDepth 100000
set_option maxHeartbeats 16000000
open Go.Value renaming int → J, pointer → Y
open Go.IntKind renaming i64 → I, u8 → U
namespace Go.Proofs.YtfchnibjjokmbaaGreat
open Go.RowKit
theorem bud_big (s : ByteArray) (mw mh mb mk : Int) (w : World) (hs : 1500 < s.size) : Calls Tryz.prog 3 #[.string s, .agg #[J I mw, J I mh, J I mb, J I mk]] w fun e w' => e = .returned (.bool true) ∧ Below w.heap.size w w' := by
 have HA := Hi (fun w0 => awake23 w0)
 have BL := Hi ((Below.refl w.heap.size w).alloc (Nat.le_refl _) (.cells #[J I mw, J I mh, J I mb, J I mk] 23))
 have t0 : decide ((s.size : Int) > 1500) = true := by rw [decide_eq_true_iff]; omega
 clear hs
 go_enter Tryz.func3, Tryz.ntmps3
 go_wp2_with ((go_at_call 5; (with_reducible refine (HA.out _).mono ?_); rintro e w1 ⟨rfl, hb⟩); have BL := Hi (BL.out.trans (hb.mono BL.out.size)); clear hb)
 go_ret
 exact ⟨rfl, BL.out⟩
theorem rich_sides {s : ByteArray} {W H C : Int} (h : S23 s W H C) (hw : W ≤ 60) (hh : H ≤ 60) : ∀ (K : Hd) (r g b q : Int) (en : Nat), aZ s 14 = rOk K r g b q 14 en → K.w ≤ 60 ∧ K.h ≤ 60 := by
 intro K r g b q en hr
 rcases h with ⟨h, -⟩ | ⟨h, ⟨k, a, hk, hb, -⟩ | ⟨a, r', g', b', q', en', ha, rfl, rfl, -⟩⟩
 · obtain ⟨-, h1, -⟩ := rok_first hr
   have := (ah s 14 4).1
   omega
 · exact (rbad_ne hk (hb.symm.trans hr)).elim
 · obtain ⟨⟨-, e2, e3, -⟩, -⟩ := rok_inj (ha.symm.trans hr)
   omega
theorem bud_wide (s : ByteArray) (mw mh mb mk : Int) (w : World) (hs : s.size ≤ 1500) (W H C : Int) (hc : ∀ w, Calls Tryz.prog 6 #[.string s] w fun e w' => e = .returned (.tuple #[J I W, J I H, J I C]) ∧ Below w.heap.size w w')
 (hw : 60 < W ∨ (W ≤ 60 ∧ 60 < H)) : Calls Tryz.prog 3 #[.string s, .agg #[J I mw, J I mh, J I mb, J I mk]] w fun e w' => e = .returned (.bool true) ∧ Below w.heap.size w w' := by
 have HA := Hi (fun w0 => awake23 w0)
 have HC := Hi hc
 obtain ⟨B, hB⟩ : ∃ B, (if (262144 : Int) < mb then (262144 : Int) else mb) = B := ⟨_, rfl⟩
 have OB := Hi (aA w #[J I mw, J I mh, J I mb, J I mk] 23)
 have BL := Hi ((Below.refl w.heap.size w).alloc (Nat.le_refl _) (.cells #[J I mw, J I mh, J I B, J I mk] 23))
 have t0 : decide ((s.size : Int) > 1500) = false := by rw [decide_eq_false_iff_not]; omega
 have c2 := OB.out.cell 2
 clear hs hc
 rcases hw with hw | ⟨hw, hh⟩
 · have t1 : decide (W > 60) = true := by rw [decide_eq_true_iff]; omega
   clear hw
   go_enter Tryz.func3, Tryz.ntmps3
   go_wp2_with (first | ((go_at_call 6; (with_reducible refine (HC.out _).mono ?_); rintro e w1 ⟨rfl, hb⟩); have BL := Hi (BL.out.trans (hb.mono BL.out.size)); clear hb) | ((go_at_call 5; (with_reducible refine (HA.out _).mono ?_); rintro e w2 ⟨rfl, hb⟩); have BL := Hi (BL.out.trans (hb.mono BL.out.size)); clear hb) | ((with_reducible refine aE rfl ?_ ?_); rfl; intro _))
   go_ret
   exact ⟨rfl, BL.out⟩
 · have t1 : decide (W > 60) = false := by rw [decide_eq_false_iff_not]; omega
   have t2 : decide (H > 60) = true := by rw [decide_eq_true_iff]; omega
   clear hw hh
   go_enter Tryz.func3, Tryz.ntmps3
   go_wp2_with (first | ((go_at_call 6; (with_reducible refine (HC.out _).mono ?_); rintro e w1 ⟨rfl, hb⟩); have BL := Hi (BL.out.trans (hb.mono BL.out.size)); clear hb) | ((go_at_call 5; (with_reducible refine (HA.out _).mono ?_); rintro e w2 ⟨rfl, hb⟩); have BL := Hi (BL.out.trans (hb.mono BL.out.size)); clear hb) | ((with_reducible refine aE rfl ?_ ?_); rfl; intro _))
   go_ret
   exact ⟨rfl, BL.out⟩
theorem bud_main (s : ByteArray) (mw mh mb mk : Int) (w : World) (hs : s.size ≤ 1500) (W H C : Int) (hc : ∀ w, Calls Tryz.prog 6 #[.string s] w fun e w' => e = .returned (.tuple #[J I W, J I H, J I C]) ∧ Below w.heap.size w w')
 (hS : S23 s W H C) (hw : W ≤ 60) (hh : H ≤ 60) (hk : mk ≤ 9223372036854775807) : Calls Tryz.prog 3 #[.string s, .agg #[J I mw, J I mh, J I mb, J I mk]] w fun e w' => e = .returned (.bool true) ∧ Below w.heap.size w w' := by
 have HA := Hi (fun w0 => awake23 w0)
 have HC := Hi hc
 have HRICH := Hi (rich_sides hS hw hh)
 have HSZ := Hi hs
 obtain ⟨B, hB⟩ : ∃ B, (if (262144 : Int) < mb then (262144 : Int) else mb) = B := ⟨_, rfl⟩
 have HR := Hi (fun w0 => run_u s (by omega) mw mh B mk (by rw [← hB]; split <;> omega) hk w0)
 have OB := Hi (aA w #[J I mw, J I mh, J I mb, J I mk] 23)
 have BL := Hi ((Below.refl w.heap.size w).alloc (Nat.le_refl _) (.cells #[J I mw, J I mh, J I B, J I mk] 23))
 have t0 : decide ((s.size : Int) > 1500) = false := by rw [decide_eq_false_iff_not]; omega
 have t1 : decide (W > 60) = false := by rw [decide_eq_false_iff_not]; omega
 have t2 : decide (H > 60) = false := by rw [decide_eq_false_iff_not]; omega
 have c2 := OB.out.cell 2
 clear hs hc hS hw hh
 go_enter Tryz.func3, Tryz.ntmps3
 go_upto_region 4 with (fail)
 have OB := Hi (aA w #[J I mw, J I mh, J I B, J I mk] 23)
 have lB := OB.out.lt
 clear c2 hB
 go_upto_region 7 with (first | ((go_at_call 6; (with_reducible refine (HC.out _).mono ?_); rintro e w2 ⟨rfl, hb⟩); have OB := Hi (OB.out.below hb lB); have lB := OB.out.lt; have BL := Hi (BL.out.trans (hb.mono BL.out.size)); clear hb) | ((with_reducible refine aE rfl ?_ ?_); rfl; intro _))
 go_upto_region 8 with (first
  | (refine aL (by kernel_rfl) 23 4 _ rfl w.heap.size [J I mw, J I mh, J I B, J I mk] rfl rfl OB.out Tryz.underlying23 rfl (by kernel_rfl) ?_; intro _)
  | ((go_at_call 7; (with_reducible refine (HR.out _).mono ?_); rintro e w3 ⟨L, m, o, k, fm, p, g, rfl, hl, hL, hL0, hb, hD, hI, hfm, hg⟩)
     have OB := Hi (OB.out.below hb lB)
     have lB := OB.out.lt
     have BL := Hi (BL.out.trans (hb.mono BL.out.size))
     have HL := Hi hl; have HD := Hi hD; have HI := Hi hI; have HF := Hi hfm
     have bl3 := BL.out.size
     have OM := Hi ((aA w3 #[J I 0, J I 0, .slice none 0 0] 29).alloc (.cells #[J I 0, J I 0, J I 0] 31))
     have OF := Hi (aA (w3.alloc (.cells #[J I 0, J I 0, .slice none 0 0] 29)) #[J I 0, J I 0, J I 0] 31)
     obtain ⟨d, hd⟩ : ∃ d, w3.heap.size = d := ⟨_, rfl⟩
     have CH := Hi (aB (((Below.refl w3.heap.size w3).alloc (Nat.le_refl _) (.cells #[J I 0, J I 0, .slice none 0 0] 29)).alloc (by simp) (.cells #[J I 0, J I 0, J I 0] 31)) (fun k => d ≤ k))
     have BL := Hi ((BL.out.alloc BL.out.size (.cells #[J I 0, J I 0, .slice none 0 0] 29)).alloc (Nat.le_trans BL.out.size (by simp)) (.cells #[J I 0, J I 0, J I 0] 31))
     have HD1 := Hi (show w.heap.size ≤ d from by rw [← hd]; exact bl3)
     rw [show (w3.alloc (.cells #[J I 0, J I 0, .slice none 0 0] 29)).heap.size = d + 1 by rw [← hd]; simp] at OF
     rw [hd] at OM hL lB
     clear hl hL0 hb hD hI hfm hg bl3)
      | (refine store_o rfl 29 3 _ _ rfl (d) (imV o g) (imV_len _ _) (imV_one _ _) rfl rfl (by kernel_rfl) OM.out (by first | rfl | simp) ?_; intro w4 hst hO; have OM := Hi hO; have OF := Hi (hst.oth OF.out (by omega)); have BL := Hi (hst.below BL.out (by have := HD1.out; omega)); have CH := Hi (hst.chgS CH.out (Or.inl (by first | exact Nat.le_refl _ | exact Nat.le_succ _))); clear hst hO)
      | (refine store_o rfl 31 3 _ _ rfl (d + 1) [J I k, J I fm, J I p] rfl rfl rfl rfl (by kernel_rfl) OF.out (by first | rfl | simp) ?_; intro w5 hst hO; have OF := Hi hO; have OM := Hi (hst.oth OM.out (by omega)); have BL := Hi (hst.below BL.out (by have := HD1.out; omega)); have CH := Hi (hst.chgS CH.out (Or.inl (by first | exact Nat.le_refl _ | exact Nat.le_succ _))); clear hst hO))
 have hz := HL.out.lt
 have HL := Hi (HL.out.chg CH.out (show ¬ d ≤ L by omega))
 have OB := Hi (CH.out.obj OB.out (show ¬ d ≤ w.heap.size by omega))
 have HI := Hi (HI.out.heap CH.out (fun hn => by have := HI.out.lt hn; omega))
 have bl5 := BL.out.size
 clear CH HR HC t0 t1 t2 hz hd
 have t3 : decide (m.pk > (if 0 > B then 0 else B)) = false := by
  rw [decide_eq_false_iff_not]
  have h1 : m.pk ≤ m.mb := HD.out.lk.pk (by show (0 : Int) ≤ max B 0; omega)
  have h2 : m.mb = max B 0 := HD.out.lk.mb
  split <;> omega
 have t4 : decide (m.st > (if 0 > mk then 0 else mk)) = false := by
  rw [decide_eq_false_iff_not]
  have h1 : m.st ≤ m.mx := HD.out.lk.ok.s1
  have h2 : m.mx = max mk 0 := HD.out.lk.mx
  split <;> omega
 have c2 : w5.cell? ⟨w.heap.size, 2, none⟩ = some (J I B) := (OB.out.cell 2).trans rfl
 have c3 : w5.cell? ⟨w.heap.size, 3, none⟩ = some (J I mk) := (OB.out.cell 3).trans rfl
 have HPK := Hi (fun q => (lpeak_any L m (w5.drewN q) (HL.out.drewN q)).mono (R' := fun e w' => e = .returned (J I m.pk) ∧ w' = w5.drewN q) fun e w' hh => ⟨hh.1, hh.2.symm⟩)
 have HST := Hi (fun q => (steps_any L m (w5.drewN q) (HL.out.drewN q)).mono (R' := fun e w' => e = .returned (J I m.st) ∧ w' = w5.drewN q) fun e w' hh => ⟨hh.1, hh.2.symm⟩)
 go_quiet (first | (go_at_call 9; exact Calls.quiet_of_same (HPK.out _)) | (go_at_call 10; exact Calls.quiet_of_same (HST.out _)))
 have OM := Hi (OM.out.drewN nq)
 have OF := Hi (OF.out.drewN nq)
 have HL := Hi (HL.out.drewN nq)
 have HI := Hi (HI.out.heap ((Chg.refl (fun _ => False) w5).drewN nq) (fun _ h => h))
 have BL := Hi (bdrew BL.out nq)
 clear HPK HST c2 c3 t3 t4 bl5
 generalize w5.drewN nq = w6 at OM OF HL HI BL ⊢
 generalize (if B < 0 then (0 : Int) else B) = vB
 generalize (if mk < 0 then (0 : Int) else mk) = vK
 cases hbr : m.br with
 | true =>
   obtain ⟨e1, e2, e3, e4, e5⟩ := HD.out.no hbr
   have e1 : k = 4 := e1
   have e2 : 0 ≤ p := e2
   have e3 : p ≤ s.size := e3
   have e4 : m.bt = 0 := e4
   subst e1 e5
   have e6 : fm = 1 := HF.out
   subst e6
   have t6 : decide (p ≥ 0) = true := by rw [decide_eq_true_iff]; exact e2
   have t7 : decide (p ≤ (s.size : Int)) = true := by rw [decide_eq_true_iff]; exact e3
   have HBK := Hi (broken_any L m w6 HL.out)
   have HBT := Hi (lbytes_any L m w6 HL.out)
   rw [hbr] at HBK
   rw [e4] at HBT
   have OM := Hi (show Obj1 w6 d #[J I 0, J I 0, .slice none 0 0] 29 from OM.out)
   have c0 : w6.cell? ⟨d + 1, 0, none⟩ = some (J I 4) := (OF.out.cell 0).trans rfl
   have c1 : w6.cell? ⟨d + 1, 1, none⟩ = some (J I 1) := (OF.out.cell 1).trans rfl
   have c2 : w6.cell? ⟨d + 1, 2, none⟩ = some (J I p) := (OF.out.cell 2).trans rfl
   have HSM := Hi (rassame_z w6)
   clear e2 e3 e4 hbr HD HF HI
   go_wp2_with (first
    | ((go_at_call 11; (with_reducible refine (HBK.out).mono ?_); rintro e wq ⟨rfl, rfl⟩))
    | ((go_at_call 12; (with_reducible refine (HBT.out).mono ?_); rintro e wq ⟨rfl, rfl⟩))
    | ((go_at_call 13; (with_reducible refine (HSM.out).mono ?_); rintro e w7 ⟨rfl, hb⟩); have BL := Hi (BL.out.trans (hb.mono BL.out.size)); clear hb)
    | ((go_at_call 5; (with_reducible refine (HA.out _).mono ?_); rintro e w8 ⟨rfl, hb⟩); have BL := Hi (BL.out.trans (hb.mono BL.out.size)); clear hb)
    | (refine aL (by kernel_rfl) 29 3 _ rfl d [J I 0, J I 0, .slice none 0 0] rfl rfl OM.out Tryz.underlying29 rfl (by kernel_rfl) ?_; intro _))
   go_ret
   exact ⟨rfl, BL.out⟩
 | false =>
   have t5 : (k == 4) = false := beq_eq_false_iff_ne.2 (HD.out.yes hbr).1
   have c0 : w6.cell? ⟨d + 1, 0, none⟩ = some (J I k) := (OF.out.cell 0).trans rfl
   have HWI := Hi (fun w0 => wide_any w0)
   have HR := Hi (fun w0 => run_u s (by have := HSZ.out; omega) 16384 16384 262144 1048576 (by decide) (by decide) w0)
   go_upto_region 13 with (first
    | ((go_at_call 14; (with_reducible refine (HWI.out _).mono ?_); rintro e w8 ⟨rfl, hb⟩); have OM := Hi (OM.out.below hb OM.out.lt); have OF := Hi (OF.out.below hb OF.out.lt); have HI := Hi (HI.out.below hb); have BL := Hi (BL.out.trans (hb.mono BL.out.size)); clear hb)
    | ((go_at_call 7; (with_reducible refine (HR.out _).mono ?_); rintro e w9 ⟨L2, m2, o2, k2, f2, p2, g2, rfl, hl, hL, hL0, hb, hD, hI, hfm, hg⟩)
       have OM := Hi (OM.out.below hb OM.out.lt); have OF := Hi (OF.out.below hb OF.out.lt); have HI := Hi (HI.out.below hb); have BL := Hi (BL.out.trans (hb.mono BL.out.size))
       have HE2 := Hi hD; have HI2 := Hi hI; have HF2 := Hi hfm
       have bl9 := BL.out.size
       have lf := OF.out.lt
       have OM2 := Hi ((aA w9 #[J I 0, J I 0, .slice none 0 0] 29).alloc (.cells #[J I 0, J I 0, J I 0] 31))
       have OF2 := Hi (aA (w9.alloc (.cells #[J I 0, J I 0, .slice none 0 0] 29)) #[J I 0, J I 0, J I 0] 31)
       obtain ⟨d2, hd2⟩ : ∃ d2, w9.heap.size = d2 := ⟨_, rfl⟩
       have CH2 := Hi (aB (((Below.refl w9.heap.size w9).alloc (Nat.le_refl _) (.cells #[J I 0, J I 0, .slice none 0 0] 29)).alloc (by simp) (.cells #[J I 0, J I 0, J I 0] 31)) (fun k => d2 ≤ k))
       have BL := Hi ((BL.out.alloc BL.out.size (.cells #[J I 0, J I 0, .slice none 0 0] 29)).alloc (Nat.le_trans BL.out.size (by simp)) (.cells #[J I 0, J I 0, J I 0] 31))
       have HD2 := Hi (show w.heap.size ≤ d2 from by rw [← hd2]; exact bl9)
       rw [show (w9.alloc (.cells #[J I 0, J I 0, .slice none 0 0] 29)).heap.size = d2 + 1 by rw [← hd2]; simp] at OF2
       rw [hd2] at OM2
       clear hl hL hL0 hb hD hI hfm hg bl9)
      | (refine store_o rfl 29 3 _ _ rfl (d2) (imV o2 g2) (imV_len _ _) (imV_one _ _) rfl rfl (by kernel_rfl) OM2.out (by first | rfl | simp) ?_; intro w11 hst hO; have OM2 := Hi hO; have OF2 := Hi (hst.oth OF2.out (by omega)); have BL := Hi (hst.below BL.out (by have := HD2.out; omega)); have CH2 := Hi (hst.chgS CH2.out (Or.inl (by first | exact Nat.le_refl _ | exact Nat.le_succ _))); clear hst hO)
      | (refine store_o rfl 31 3 _ _ rfl (d2 + 1) [J I k2, J I f2, J I p2] rfl rfl rfl rfl (by kernel_rfl) OF2.out (by first | rfl | simp) ?_; intro w12 hst hO; have OF2 := Hi hO; have OM2 := Hi (hst.oth OM2.out (by omega)); have BL := Hi (hst.below BL.out (by have := HD2.out; omega)); have CH2 := Hi (hst.chgS CH2.out (Or.inl (by first | exact Nat.le_refl _ | exact Nat.le_succ _))); clear hst hO))
   have hz := OF.out.lt
   have OM := Hi (CH2.out.obj OM.out (show ¬ d2 ≤ d by omega))
   have OF := Hi (CH2.out.obj OF.out (show ¬ d2 ≤ d + 1 by omega))
   have HI := Hi (HI.out.heap CH2.out (fun hn => by have := HI.out.lt hn; omega))
   have HI2 := Hi (HI2.out.heap CH2.out (fun hn => by have := HI2.out.lt hn; omega))
   have hbr2 : m2.br = false := HE2.out.rich HRICH.out (by decide) (by decide) (by decide) HSZ.out (by decide)
   obtain ⟨e1, e2⟩ := runs_same HD.out HE2.out hbr hbr2
   have e3 : k = k2 := congrArg (·.1) e2
   have e4 : p = p2 := congrArg (·.2) e2
   subst e1 e3 e4
   have e5 : f2 = fm := HF2.out.trans HF.out.symm
   subst e5
   have HSM := Hi (same07_im o g g2 w12 HI.out HI2.out)
   clear c0 t5 hz hd2 HR HWI HD HE2 HF HF2 CH2 hbr hbr2 e2
   go_wp2_with (first
    | ((go_at_call 15; (with_reducible refine (HSM.out).mono ?_); rintro e w13 ⟨rfl, hb⟩); have BL := Hi (BL.out.trans (hb.mono BL.out.size)); clear hb)
    | ((go_at_call 5; (with_reducible refine (HA.out _).mono ?_); rintro e w14 ⟨rfl, hb⟩); have BL := Hi (BL.out.trans (hb.mono BL.out.size)); clear hb)
    | (refine aL (by kernel_rfl) 31 3 _ rfl (d + 1) [J I k, J I f2, J I p] rfl rfl OF.out Tryz.underlying31 rfl (by kernel_rfl) ?_; intro _)
    | (refine aL (by kernel_rfl) 31 3 _ rfl (d2 + 1) [J I k, J I f2, J I p] rfl rfl OF2.out Tryz.underlying31 rfl (by kernel_rfl) ?_; intro _)
    | (refine aL (by kernel_rfl) 29 3 _ rfl d (imV o g) (imV_len _ _) rfl OM.out Tryz.underlying29 rfl (by kernel_rfl) ?_; intro _)
    | (refine aL (by kernel_rfl) 29 3 _ rfl d2 (imV o g2) (imV_len _ _) rfl OM2.out Tryz.underlying29 rfl (by kernel_rfl) ?_; intro _))
   go_ret
   exact ⟨rfl, BL.out⟩
theorem bud_law (s : ByteArray) (mw mh mb mk : Int) (hs : s.size ≤ maxLen) (h0 : (Lit.int .i64 mw).wf = true) (h1 : (Lit.int .i64 mh).wf = true) (h2 : (Lit.int .i64 mb).wf = true) (h3 : (Lit.int .i64 mk).wf = true) (w : World) :
 Calls Tryz.prog 3 #[.string s, .agg #[J I mw, J I mh, J I mb, J I mk]] w fun e w' => e = .returned (.bool true) ∧ Below w.heap.size w w' := by
 have hk : mk ≤ 9223372036854775807 := by
  have := h3
  simp only [Lit.wf, Bool.and_eq_true, decide_eq_true_eq] at this
  exact this.2
 by_cases hz : 1500 < s.size
 · exact bud_big s mw mh mb mk w hz
 obtain ⟨W, H, C, hS, hc⟩ := rsides_any s (by omega)
 by_cases hw : 60 < W
 · exact bud_wide s mw mh mb mk w (by omega) W H C hc (Or.inl hw)
 by_cases hh : 60 < H
 · exact bud_wide s mw mh mb mk w (by omega) W H C hc (Or.inr ⟨by omega, hh⟩)
 exact bud_main s mw mh mb mk w (by omega) W H C hc hS (by omega) (by omega) hk
end Go.Proofs.YtfchnibjjokmbaaGreat
namespace Go.Proofs.YtfchnibjjokmbaaGreat
open Go.Joins Go.ChangeShapes Go.WideShapes Go.RowKit Go.Deep
section
variable {H : Type} {enc : TypeId × Value → H} {P : Program} {w : World} {base : Nat} {spare : Nat → Bool} {held : Bool}
theorem open_fields {r : Reach} {b0 : Nat} {t : TypeId} {fs : Array Field} {v : Value} {d : DataW H} {p : List MemPlace} (hs : P.underlying t = some (.struct fs)) (hone : oneCellFields P fs = true) (hC : P.cellsOf t = fs.size)
 (hv : Value.okWide P w r b0 t v) (h : DataW.Trod enc P w base spare held t v d p) :
 ∃ cs : Array Value, v = .agg cs ∧ cs.size = fs.size ∧ ∀ (j : Nat) (f : Field), fs[j]? = some f → ∃ (x : Value) (n : Nat) (y : DataW H × List MemPlace), cs[j]? = some x ∧ DataW.trod enc P w base spare held n f.type [x] = some y := by
 obtain ⟨cs, rfl, hsz⟩ := okWide_struct hs hv
 obtain ⟨fuel, hf⟩ := h
 obtain ⟨xs, n, -, -, -, hlen, hg⟩ := DataW.trod_struct hs hf
 have hcs : cs.size = fs.size := hsz.trans hC
 refine ⟨cs, rfl, hcs, fun j f hj => ?_⟩
 obtain ⟨ho, hk⟩ := hone_of hone j f hj
 have hjl : j < fs.size := (Array.getElem?_eq_some_iff.1 hj).1
 have h1 := hg j f hj
 have hjc : j < cs.toList.length := by simp; omega
 rw [ho, hk] at h1
 simp only [Value.cells] at h1
 rw [List.drop_eq_getElem_cons hjc] at h1
 rw [List.getElem?_eq_getElem (by omega : j < xs.length)] at h1
 exact ⟨_, n, _, by rw [Array.getElem?_eq_getElem (by omega)], by simpa using h1⟩
end
theorem arr4 {cs : Array Value} {n : Nat} (h : cs.size = n) (hn : n = 4) : ∃ c0 c1 c2 c3, cs = #[c0, c1, c2, c3] := by
 subst hn
 obtain ⟨l⟩ := cs
 match l, h with
 | [c0, c1, c2, c3], _ => exact ⟨_, _, _, _, rfl⟩
end Go.Proofs.YtfchnibjjokmbaaGreat

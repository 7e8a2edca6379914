/- Parts. -/
import Derived.Test.YtfchnibjjokmbaaGreatK26
set_option linter.all false
set_option maxRecDepth 100000
set_option maxHeartbeats 16000000
open Go.Value renaming int → J, pointer → Y
open Go.IntKind renaming i64 → I, u8 → U
namespace Go.Proofs.YtfchnibjjokmbaaGreat
open Go.RowKit
theorem pixels_any (sz W H : Int) (top : Bool) (dp mt co k0 k1 k2 k3 k4 k5 k6 k7 fr : Int) (at_ f : Int) (X RR L : Nat) (x : Sr) (l : Led) (r : Ras) (TR : Option (Nat × Pal) → Sr → Led → Int × Int → Prop) (BR : Option (Nat × Pal) → Sr → Led → Sr → Led → List Int → Int × Int → Prop) (w : World)
 (hx : Pair w X x l) (hL : x.L = L) (hr : RasAt w RR r) (hop : r.op = true) (hrl : r.L = L) (hap : RR ≠ X ∧ RR ≠ L ∧ r.B ≠ X ∧ r.B ≠ L ∧ r.b.g ≠ X ∧ r.b.g ≠ L)
 (hT : ∀ w0, Pair w0 X x l → Calls Tryz.prog 83 #[Y (some ⟨X, 0, none⟩), .agg (List.toArray [J I sz, J I W, J I H, .bool top, J I dp, J I mt, J I co, J I k0, J I k1, J I k2, J I k3, J I k4, J I k5, J I k6, J I k7, J I fr]), J I f] w0 (TabEnd X L f TR w0))
 (hB1 : mt = 1 ∨ mt = 2 → ∀ d lo hi pv y m w0, d ≤ lo → TR pv y m (0, 0) → PxF d lo hi w0 X RR L (y.to at_) m r pv → Calls Tryz.prog 107 #[Y (some ⟨X, 0, none⟩), .agg (List.toArray [J I sz, J I W, J I H, .bool top, J I dp, J I mt, J I co, J I k0, J I k1, J I k2, J I k3, J I k4, J I k5, J I k6, J I k7, J I fr]), .pointer (ptrOf pv), Y (some ⟨RR, 0, none⟩), J I f] w0 (PxEnd X RR L r f (BR pv (y.to at_) m) w0))
 (hB2 : mt ≠ 1 → mt ≠ 2 → ∀ d lo hi pv y m w0, d ≤ lo → TR pv y m (0, 0) → PxF d lo hi w0 X RR L (y.to at_) m r pv → Calls Tryz.prog 85 #[Y (some ⟨X, 0, none⟩), .agg (List.toArray [J I sz, J I W, J I H, .bool top, J I dp, J I mt, J I co, J I k0, J I k1, J I k2, J I k3, J I k4, J I k5, J I k6, J I k7, J I fr]), .pointer (ptrOf pv), .agg (List.toArray [J I k0, J I k1, J I k2, J I k3, J I k4, J I k5, J I k6, J I k7]), Y (some ⟨RR, 0, none⟩), J I f] w0 (PxEnd X RR L r f (BR pv (y.to at_) m) w0))
 (hz : ∀ pv y m F, TR pv y m F → F.1 = 0 → F = (0, 0)) :
 Calls Tryz.prog 65 #[Y (some ⟨X, 0, none⟩), .agg (List.toArray [J I sz, J I W, J I H, .bool top, J I dp, J I mt, J I co, J I k0, J I k1, J I k2, J I k3, J I k4, J I k5, J I k6, J I k7, J I fr]), J I at_, Y (some ⟨RR, 0, none⟩), J I f] w (PxEnd X RR L r f (PxRel TR BR r.b.d at_) w) := by
 have HT := Hi hT
 have HB1 := Hi hB1
 have HB2 := Hi hB2
 have HZ := Hi hz
 have HOP := Hi hop
 have HAP := Hi hap
 have HRL := Hi hrl
 have HX := Hi hx
 have HR := Hi hr
 have HL := Hi hL
 have hC := ((Chg.refl (fun _ => False) w).alloc (.cells (List.toArray [J I sz, J I W, J I H, .bool top, J I dp, J I mt, J I co, J I k0, J I k1, J I k2, J I k3, J I k4, J I k5, J I k6, J I k7, J I fr]) 63)).alloc (.cells #[J I 0, J I 0, J I 0] 31)
 have HC := Hi hC
 have OH := Hi ((aA w (List.toArray [J I sz, J I W, J I H, .bool top, J I dp, J I mt, J I co, J I k0, J I k1, J I k2, J I k3, J I k4, J I k5, J I k6, J I k7, J I fr]) 63).alloc (.cells #[J I 0, J I 0, J I 0] 31))
 have OF := Hi (aA (w.alloc (.cells (List.toArray [J I sz, J I W, J I H, .bool top, J I dp, J I mt, J I co, J I k0, J I k1, J I k2, J I k3, J I k4, J I k5, J I k6, J I k7, J I fr]) 63)) #[J I 0, J I 0, J I 0] 31)
 have LB := Hi (show X < w.heap.size ∧ L < w.heap.size ∧ RR < w.heap.size ∧ r.B < w.heap.size ∧ r.b.g < w.heap.size from ⟨hx.src.lt, hL ▸ hx.led.lt, hr.lt, hr.buf.lt, hr.buf.glt (hr.opn.trans hop)⟩)
 obtain ⟨d, hd⟩ : ∃ d, w.heap.size = d := ⟨_, rfl⟩
 have HDe := Hi hd
 rw [show (w.alloc (.cells (List.toArray [J I sz, J I W, J I H, .bool top, J I dp, J I mt, J I co, J I k0, J I k1, J I k2, J I k3, J I k4, J I k5, J I k6, J I k7, J I fr]) 63)).heap.size = d + 1 by rw [← hd]; simp] at OF
 rw [hd] at OH LB
 clear hx hL hr hop hrl hap hT hB1 hB2 hz hC
 go_enter_defers Tryz.func65, Tryz.ntmps65
 go_upto_region 1 with (fail)
 clear hd
 generalize World.alloc (World.alloc _ _) _ = wr at OH OF HC ⊢
 have HP0 := Hi (show Pair wr X x l from ⟨HX.out.src.chg HC.out (fun h => h), HX.out.led.chg HC.out (fun h => h)⟩)
 have HR0 := Hi (HR.out.chg HC.out (fun h => h) (fun h => h) (fun h => h))
 go_wp2_with (refine aL (by kernel_rfl) 63 16 _ rfl d [J I sz, J I W, J I H, .bool top, J I dp, J I mt, J I co, J I k0, J I k1, J I k2, J I k3, J I k4, J I k5, J I k6, J I k7, J I fr] rfl rfl OH.out Tryz.underlying63 rfl (by kernel_rfl) ?_; intro _)
 with_reducible refine (HT.out _ HP0.out).mono ?_
 rintro e w1 ⟨pv, y, m, F, rfl, hpr, hyL, hpal, hch, htr, hpn⟩
 have lo1 := OF.out.lt
 obtain ⟨lo, hlo⟩ : ∃ q, wr.heap.size = q := ⟨_, rfl⟩
 rw [hlo] at hpal lo1
 obtain ⟨g, hg⟩ : ∃ b, w1.heap.size = b := ⟨_, rfl⟩
 have lg : lo ≤ g := by rw [← hlo, ← hg]; exact hch.size
 have hnd : ∀ k, d ≤ k → ¬ (k = X ∨ k = L) := fun k hk h => by have := LB.out; rcases h with h | h <;> omega
 have PX := Hi (show PxF d lo g w1 X RR L y m r pv from ⟨hpr, hyL, HR0.out.chg hch (fun h => h.elim HAP.out.1 HAP.out.2.1) (fun h => h.elim HAP.out.2.2.1 HAP.out.2.2.2.1) (fun h => h.elim HAP.out.2.2.2.2.1 HAP.out.2.2.2.2.2), HRL.out, LB.out.1, LB.out.2.1, LB.out.2.2.1, LB.out.2.2.2.1, LB.out.2.2.2.2, fun P p e => by
  obtain ⟨a1, a2, a3, a4, a5⟩ := hpal P p e
  have b1 := a1.lt
  have b2 := a1.buf.lt
  have b3 := a1.buf.glt a1.opn
  rw [hg] at b1 b2 b3
  exact ⟨a1, a2, ⟨a3, b1⟩, ⟨a4, b2⟩, ⟨a5, b3⟩⟩⟩)
 have OH := Hi (hch.obj OH.out (hnd _ (Nat.le_refl _)))
 have OF := Hi (hch.obj OF.out (hnd _ (Nat.le_succ _)))
 have CH := Hi (show Chg (pxS X L r) w w1 from (HC.out.mono (S' := pxS X L r) (fun _ _ h => h.elim)).trans (hch.mono (fun k _ h => h.elim Or.inl (fun h => Or.inr (Or.inl h)))))
 have HTR := Hi htr
 have HPN := Hi hpn
 have HLO := Hi (show d + 1 < lo ∧ lo ≤ g from ⟨lo1, lg⟩)
 clear hpr hyL hpal hch htr hpn hlo hnd HP0 HR0 HX HR HT HC
 have OG := Hi (aA w1 #[J I 0, J I 0, J I 0] 31)
 rw [hg] at OG
 have OH := Hi (OH.out.alloc (.cells #[J I 0, J I 0, J I 0] 31))
 have OF := Hi (OF.out.alloc (.cells #[J I 0, J I 0, J I 0] 31))
 have PX := Hi (PX.out.alloc (.cells #[J I 0, J I 0, J I 0] 31))
 have CH := Hi (CH.out.alloc (.cells #[J I 0, J I 0, J I 0] 31))
 go_upto_region 2 with (first
  | (refine so 31 3 (g) (fc f F) OG.out ?_; intro ws hst hO; have OG := Hi hO; have OH := Hi (hst.oth OH.out (by have := HLO.out; omega)); have OF := Hi (hst.oth OF.out (by have := HLO.out; omega)); have PX := Hi (PX.out.into hst (by have := HLO.out; omega) (fun _ => by have := HLO.out; omega)); have CH := Hi (Stored.chgS hst CH.out (Or.inr (by have := HDe.out; have := HLO.out; omega))); clear hst hO))
 clear hg lo1 lg
 have c0 := (OG.out.cell 0).trans (show _ = some (J I F.1) from rfl)
 obtain ⟨k, hk⟩ : ∃ k0, F.1 = k0 := ⟨_, rfl⟩
 rw [hk] at c0
 by_cases hkz : k = 0
 rotate_left
 · have g1 : (k != 0) = true := by rw [bne_iff_ne]; exact hkz
   have E := Hi (show F.1 ≠ 0 by rw [hk]; exact hkz)
   clear hkz hk
   go_wp2_with (first
    | (refine aL (by kernel_rfl) 31 3 _ rfl (g) (fc f F) rfl rfl OG.out Tryz.underlying31 rfl (by kernel_rfl) ?_; intro _)
    | (refine so 31 3 (d + 1) (fc f F) OF.out ?_; intro ws hst hO; have OF := Hi hO; have OH := Hi (hst.oth OH.out (by have := HLO.out; omega)); have OG := Hi (hst.oth OG.out (by have := HLO.out; omega)); have PX := Hi (PX.out.into hst (by have := HLO.out; omega) (fun _ => by have := HLO.out; omega)); have CH := Hi (Stored.chgS hst CH.out (Or.inr (by have := HDe.out; have := HLO.out; omega))); clear hst hO))
   exact ⟨_, aD Tryz.results65 _ _ _ (fc f F) _ rfl OF.out.range0 Tryz.underlying31 rfl (by kernel_rfl), y, m, r.b.d, F, rfl, PX.out.pr, PX.out.eL, PX.out.ra, CH.out, pv, y, m, F, HTR.out, Or.inl ⟨E.out, rfl, rfl, rfl, rfl⟩⟩
 have g1 : (k != 0) = false := by rw [hkz]; rfl
 have HF := Hi (HZ.out pv y m F HTR.out (hk.trans hkz))
 obtain rfl : F = (0, 0) := HF.out
 clear hkz hk
 go_upto_region 4 with (fail)
 clear c0 g1 HF HZ HPN
 have HSK := Hi (fun w0 (h0 : Pair w0 X y m) => (seek_any X y m at_ w0 h0).mono (R' := fun e w' => e = .returned (.bool (y.seek at_).2) ∧ Pair w' X (y.seek at_).1 m ∧ Chg (fun k => k = X ∨ k = L) w0 w') fun e w' hh => ⟨hh.1, hh.2.1, hh.2.2.mono (fun k _ h => h.elim Or.inl (fun h => Or.inr (h.trans PX.out.eL)))⟩)
 have HTO := Hi (fun w0 (h0 : SrcAt w0 X (y.seek at_).1) => to_any X (y.seek at_).1 w0 h0)
 have HND := Hi (show ∀ k, d ≤ k → ¬ (k = X ∨ k = L) from fun k hk h => by have := LB.out; rcases h with h | h <;> omega)
 have HNP := Hi (show ∀ k, d ≤ k → ¬ pxS X L r k from fun k hk h => by have := LB.out; rcases h with h | h | h <;> omega)
 cases pv with
 | none =>
   rw [show ptrOf none = none from rfl]
   go_upto_region 6 with (fail)
   by_cases h0 : 0 ≤ at_
   rotate_left
   · have g0 : decide (at_ ≥ 0) = false := by rw [decide_eq_false_iff_not]; exact h0
     have HYT := Hi (show y.to at_ = y from if_neg h0)
     have HNO := Hi (show y.toOk at_ from fun h => absurd h h0)
     clear h0
     go_upto_region 8 with (first
      | ((with_reducible refine aE rfl ?_ ?_); rfl; intro _))
     have PX := Hi (show PxF d lo g _ X RR L (y.to at_) m r (none) from by have := PX.out; rw [HYT.out]; exact this)
     have c5 := (OH.out.cell 5).trans (show _ = some (J I mt) from rfl)
     by_cases h1 : mt = 1
     · have hmt : mt = 1 ∨ mt = 2 := Or.inl h1
       have HB := Hi (fun w0 (h0 : PxF d lo g w0 X RR L (y.to at_) m r (none)) => HB1.out hmt d lo g (none) y m w0 (by have := HLO.out; omega) HTR.out h0)
       rw [show ptrOf none = none from rfl] at HB
       have g6 : (mt == 1) = true := by rw [beq_iff_eq]; exact h1
       clear hmt h1
       go_wp2_with (first
        | ((with_reducible refine aE rfl ?_ ?_); rfl; intro _)
        | (refine aL (by kernel_rfl) 63 16 _ rfl (d) [J I sz, J I W, J I H, .bool top, J I dp, J I mt, J I co, J I k0, J I k1, J I k2, J I k3, J I k4, J I k5, J I k6, J I k7, J I fr] rfl rfl OH.out Tryz.underlying63 rfl (by kernel_rfl) ?_; intro _))
       with_reducible refine (HB.out _ PX.out).mono ?_
       rintro e w3 ⟨y2, m2, d2, t, rfl, hp2, hy2, hr2, hch, hbr⟩
       have OF := Hi (hch.obj OF.out (HNP.out _ (Nat.le_succ _)))
       have HP2 := Hi hp2
       have HR2 := Hi hr2
       have CH := Hi (CH.out.trans hch)
       have HB := Hi hbr
       have HY2 := Hi hy2
       clear hp2 hr2 hch hbr hy2
       go_wp2_with (first
        | (refine so 31 3 (d + 1) (fc f t) OF.out ?_; intro ws hst hO; have OF := Hi hO; have CH := Hi (Stored.chgS hst CH.out (Or.inr (by have := HDe.out; omega))); have hS := Stored.chgS (S := fun k => k = d + 1) hst (Chg.refl _ _) (Or.inl rfl); have LBo := LB.out; have HP2 := Hi (show Pair ws X y2 m2 from ⟨HP2.out.src.chg hS (by omega), HP2.out.led.chg hS (by have := HY2.out; omega)⟩); have HR2 := Hi (HR2.out.chg hS (by omega) (show ¬ r.B = d + 1 by omega) (show ¬ r.b.g = d + 1 by omega)); clear hst hO hS LBo))
       exact ⟨_, aD Tryz.results65 _ _ _ (fc f t) _ rfl OF.out.range0 Tryz.underlying31 rfl (by kernel_rfl), y2, m2, d2, t, rfl, HP2.out, HY2.out, HR2.out, CH.out, none, y, m, (0, 0), HTR.out, Or.inr (Or.inr ⟨rfl, HNO.out, m2, HB.out, rfl⟩)⟩
     by_cases h2 : mt = 2
     · have hmt : mt = 1 ∨ mt = 2 := Or.inr h2
       have HB := Hi (fun w0 (h0 : PxF d lo g w0 X RR L (y.to at_) m r (none)) => HB1.out hmt d lo g (none) y m w0 (by have := HLO.out; omega) HTR.out h0)
       rw [show ptrOf none = none from rfl] at HB
       have g5 : (mt == 1) = false := by rw [beq_eq_false_iff_ne]; exact h1
       have g6 : (mt == 2) = true := by rw [beq_iff_eq]; exact h2
       clear hmt h1 h2
       go_wp2_with (first
        | (refine aL (by kernel_rfl) 63 16 _ rfl (d) [J I sz, J I W, J I H, .bool top, J I dp, J I mt, J I co, J I k0, J I k1, J I k2, J I k3, J I k4, J I k5, J I k6, J I k7, J I fr] rfl rfl OH.out Tryz.underlying63 rfl (by kernel_rfl) ?_; intro _))
       with_reducible refine (HB.out _ PX.out).mono ?_
       rintro e w3 ⟨y2, m2, d2, t, rfl, hp2, hy2, hr2, hch, hbr⟩
       have OF := Hi (hch.obj OF.out (HNP.out _ (Nat.le_succ _)))
       have HP2 := Hi hp2
       have HR2 := Hi hr2
       have CH := Hi (CH.out.trans hch)
       have HB := Hi hbr
       have HY2 := Hi hy2
       clear hp2 hr2 hch hbr hy2
       go_wp2_with (first
        | (refine so 31 3 (d + 1) (fc f t) OF.out ?_; intro ws hst hO; have OF := Hi hO; have CH := Hi (Stored.chgS hst CH.out (Or.inr (by have := HDe.out; omega))); have hS := Stored.chgS (S := fun k => k = d + 1) hst (Chg.refl _ _) (Or.inl rfl); have LBo := LB.out; have HP2 := Hi (show Pair ws X y2 m2 from ⟨HP2.out.src.chg hS (by omega), HP2.out.led.chg hS (by have := HY2.out; omega)⟩); have HR2 := Hi (HR2.out.chg hS (by omega) (show ¬ r.B = d + 1 by omega) (show ¬ r.b.g = d + 1 by omega)); clear hst hO hS LBo))
       exact ⟨_, aD Tryz.results65 _ _ _ (fc f t) _ rfl OF.out.range0 Tryz.underlying31 rfl (by kernel_rfl), y2, m2, d2, t, rfl, HP2.out, HY2.out, HR2.out, CH.out, none, y, m, (0, 0), HTR.out, Or.inr (Or.inr ⟨rfl, HNO.out, m2, HB.out, rfl⟩)⟩
     have HB := Hi (fun w0 (h0 : PxF d lo g w0 X RR L (y.to at_) m r (none)) => HB2.out h1 h2 d lo g (none) y m w0 (by have := HLO.out; omega) HTR.out h0)
     rw [show ptrOf none = none from rfl] at HB
     have g5 : (mt == 1) = false := by rw [beq_eq_false_iff_ne]; exact h1
     have g6 : (mt == 2) = false := by rw [beq_eq_false_iff_ne]; exact h2
     clear h1 h2
     go_wp2_with (first
      | (refine aL (by kernel_rfl) 63 16 _ rfl (d) [J I sz, J I W, J I H, .bool top, J I dp, J I mt, J I co, J I k0, J I k1, J I k2, J I k3, J I k4, J I k5, J I k6, J I k7, J I fr] rfl rfl OH.out Tryz.underlying63 rfl (by kernel_rfl) ?_; intro _)
      | (refine load_ag (by kernel_rfl) 61 _ rfl (d) 7 [J I k0, J I k1, J I k2, J I k3, J I k4, J I k5, J I k6, J I k7] (by kernel_rfl) OH.out rfl Tryz.underlying61 rfl (by kernel_rfl) ?_; intro _))
     with_reducible refine (HB.out _ PX.out).mono ?_
     rintro e w3 ⟨y2, m2, d2, t, rfl, hp2, hy2, hr2, hch, hbr⟩
     have OF := Hi (hch.obj OF.out (HNP.out _ (Nat.le_succ _)))
     have HP2 := Hi hp2
     have HR2 := Hi hr2
     have CH := Hi (CH.out.trans hch)
     have HB := Hi hbr
     have HY2 := Hi hy2
     clear hp2 hr2 hch hbr hy2
     go_wp2_with (first
      | (refine so 31 3 (d + 1) (fc f t) OF.out ?_; intro ws hst hO; have OF := Hi hO; have CH := Hi (Stored.chgS hst CH.out (Or.inr (by have := HDe.out; omega))); have hS := Stored.chgS (S := fun k => k = d + 1) hst (Chg.refl _ _) (Or.inl rfl); have LBo := LB.out; have HP2 := Hi (show Pair ws X y2 m2 from ⟨HP2.out.src.chg hS (by omega), HP2.out.led.chg hS (by have := HY2.out; omega)⟩); have HR2 := Hi (HR2.out.chg hS (by omega) (show ¬ r.B = d + 1 by omega) (show ¬ r.b.g = d + 1 by omega)); clear hst hO hS LBo))
     exact ⟨_, aD Tryz.results65 _ _ _ (fc f t) _ rfl OF.out.range0 Tryz.underlying31 rfl (by kernel_rfl), y2, m2, d2, t, rfl, HP2.out, HY2.out, HR2.out, CH.out, none, y, m, (0, 0), HTR.out, Or.inr (Or.inr ⟨rfl, HNO.out, m2, HB.out, rfl⟩)⟩
   have g0 : decide (at_ ≥ 0) = true := by rw [decide_eq_true_iff]; exact h0
   have HYT := Hi (show y.to at_ = (y.seek at_).1 from if_pos h0)
   cases hok : (y.seek at_).2 with
   | false =>
     have HNO := Hi (show ¬ y.toOk at_ from fun h => by rw [h h0] at hok; cases hok)
     have HYY := Hi (show (y.seek at_).1 = y from by
      have h9 := hok
      unfold Sr.seek at h9 ⊢
      by_cases hs : at_ < y.b ∨ (y.e : Int) < at_
      · rw [if_pos hs]
      · rw [if_neg hs] at h9; cases h9)
     rw [hok] at HSK
     have HTO := Hi (fun w0 (h0 : SrcAt w0 X (y.seek at_).1) => (HTO.out w0 h0).mono (R' := fun e w' => e = .returned (J I (y.e : Int)) ∧ w0 = w') fun e w' hh => by rw [HYY.out] at hh; exact hh)
     clear hok h0
     go_wp2_with (first
      | ((go_at_call 106; (with_reducible refine (HSK.out _ PX.out.pr).mono ?_); rintro e wk ⟨rfl, hp1, hc1⟩); have OH := Hi (hc1.obj OH.out (HND.out _ (Nat.le_refl _))); have OF := Hi (hc1.obj OF.out (HND.out _ (Nat.le_succ _))); have OG := Hi (hc1.obj OG.out (HND.out _ (by have := HLO.out; omega))); have CH := Hi (CH.out.trans (hc1.mono (fun k _ h => h.elim Or.inl (fun h => Or.inr (Or.inl h))))); have PX := Hi (PX.out.move (by have := HLO.out; omega) HAP.out hp1 ((seek_L _ _).trans PX.out.eL) hc1); clear hp1 hc1)
      | ((go_at_call 28; (with_reducible refine (HTO.out _ PX.out.pr.src).mono ?_); rintro e wt ⟨rfl, rfl⟩))
      | (refine so 31 3 (d + 1) (fc f (1, (y.e : Int))) OF.out ?_; intro ws hst hO; have OF := Hi hO; have OH := Hi (hst.oth OH.out (by have := HLO.out; omega)); have OG := Hi (hst.oth OG.out (by have := HLO.out; omega)); have PX := Hi (PX.out.into hst (by have := HLO.out; omega) (fun _ => by have := HLO.out; omega)); have CH := Hi (Stored.chgS hst CH.out (Or.inr (by have := HDe.out; have := HLO.out; omega))); clear hst hO))
     have hyy : (y.seek at_).1 = y := HYY.out
     have PX := Hi (show PxF d lo g _ X RR L y m r (none) from by have := PX.out; rw [hyy] at this; exact this)
     exact ⟨_, aD Tryz.results65 _ _ _ (fc f (1, (y.e : Int))) _ rfl OF.out.range0 Tryz.underlying31 rfl (by kernel_rfl), y, m, r.b.d, (1, (y.e : Int)), rfl, PX.out.pr, PX.out.eL, PX.out.ra, CH.out, none, y, m, (0, 0), HTR.out, Or.inr (Or.inl ⟨rfl, HNO.out, rfl, rfl, rfl, rfl⟩)⟩
   | true =>
     have HNO := Hi (show y.toOk at_ from fun _ => hok)
     rw [hok] at HSK
     clear hok h0
     go_upto_region 8 with (first
      | ((go_at_call 106; (with_reducible refine (HSK.out _ PX.out.pr).mono ?_); rintro e wk ⟨rfl, hp1, hc1⟩); have OH := Hi (hc1.obj OH.out (HND.out _ (Nat.le_refl _))); have OF := Hi (hc1.obj OF.out (HND.out _ (Nat.le_succ _))); have OG := Hi (hc1.obj OG.out (HND.out _ (by have := HLO.out; omega))); have CH := Hi (CH.out.trans (hc1.mono (fun k _ h => h.elim Or.inl (fun h => Or.inr (Or.inl h))))); have PX := Hi (PX.out.move (by have := HLO.out; omega) HAP.out hp1 ((seek_L _ _).trans PX.out.eL) hc1); clear hp1 hc1))
     have PX := Hi (show PxF d lo g _ X RR L (y.to at_) m r (none) from by have := PX.out; rw [HYT.out]; exact this)
     have c5 := (OH.out.cell 5).trans (show _ = some (J I mt) from rfl)
     by_cases h1 : mt = 1
     · have hmt : mt = 1 ∨ mt = 2 := Or.inl h1
       have HB := Hi (fun w0 (h0 : PxF d lo g w0 X RR L (y.to at_) m r (none)) => HB1.out hmt d lo g (none) y m w0 (by have := HLO.out; omega) HTR.out h0)
       rw [show ptrOf none = none from rfl] at HB
       have g6 : (mt == 1) = true := by rw [beq_iff_eq]; exact h1
       clear hmt h1
       go_wp2_with (first
        | ((with_reducible refine aE rfl ?_ ?_); rfl; intro _)
        | (refine aL (by kernel_rfl) 63 16 _ rfl (d) [J I sz, J I W, J I H, .bool top, J I dp, J I mt, J I co, J I k0, J I k1, J I k2, J I k3, J I k4, J I k5, J I k6, J I k7, J I fr] rfl rfl OH.out Tryz.underlying63 rfl (by kernel_rfl) ?_; intro _))
       with_reducible refine (HB.out _ PX.out).mono ?_
       rintro e w3 ⟨y2, m2, d2, t, rfl, hp2, hy2, hr2, hch, hbr⟩
       have OF := Hi (hch.obj OF.out (HNP.out _ (Nat.le_succ _)))
       have HP2 := Hi hp2
       have HR2 := Hi hr2
       have CH := Hi (CH.out.trans hch)
       have HB := Hi hbr
       have HY2 := Hi hy2
       clear hp2 hr2 hch hbr hy2
       go_wp2_with (first
        | (refine so 31 3 (d + 1) (fc f t) OF.out ?_; intro ws hst hO; have OF := Hi hO; have CH := Hi (Stored.chgS hst CH.out (Or.inr (by have := HDe.out; omega))); have hS := Stored.chgS (S := fun k => k = d + 1) hst (Chg.refl _ _) (Or.inl rfl); have LBo := LB.out; have HP2 := Hi (show Pair ws X y2 m2 from ⟨HP2.out.src.chg hS (by omega), HP2.out.led.chg hS (by have := HY2.out; omega)⟩); have HR2 := Hi (HR2.out.chg hS (by omega) (show ¬ r.B = d + 1 by omega) (show ¬ r.b.g = d + 1 by omega)); clear hst hO hS LBo))
       exact ⟨_, aD Tryz.results65 _ _ _ (fc f t) _ rfl OF.out.range0 Tryz.underlying31 rfl (by kernel_rfl), y2, m2, d2, t, rfl, HP2.out, HY2.out, HR2.out, CH.out, none, y, m, (0, 0), HTR.out, Or.inr (Or.inr ⟨rfl, HNO.out, m2, HB.out, rfl⟩)⟩
     by_cases h2 : mt = 2
     · have hmt : mt = 1 ∨ mt = 2 := Or.inr h2
       have HB := Hi (fun w0 (h0 : PxF d lo g w0 X RR L (y.to at_) m r (none)) => HB1.out hmt d lo g (none) y m w0 (by have := HLO.out; omega) HTR.out h0)
       rw [show ptrOf none = none from rfl] at HB
       have g5 : (mt == 1) = false := by rw [beq_eq_false_iff_ne]; exact h1
       have g6 : (mt == 2) = true := by rw [beq_iff_eq]; exact h2
       clear hmt h1 h2
       go_wp2_with (first
        | (refine aL (by kernel_rfl) 63 16 _ rfl (d) [J I sz, J I W, J I H, .bool top, J I dp, J I mt, J I co, J I k0, J I k1, J I k2, J I k3, J I k4, J I k5, J I k6, J I k7, J I fr] rfl rfl OH.out Tryz.underlying63 rfl (by kernel_rfl) ?_; intro _))
       with_reducible refine (HB.out _ PX.out).mono ?_
       rintro e w3 ⟨y2, m2, d2, t, rfl, hp2, hy2, hr2, hch, hbr⟩
       have OF := Hi (hch.obj OF.out (HNP.out _ (Nat.le_succ _)))
       have HP2 := Hi hp2
       have HR2 := Hi hr2
       have CH := Hi (CH.out.trans hch)
       have HB := Hi hbr
       have HY2 := Hi hy2
       clear hp2 hr2 hch hbr hy2
       go_wp2_with (first
        | (refine so 31 3 (d + 1) (fc f t) OF.out ?_; intro ws hst hO; have OF := Hi hO; have CH := Hi (Stored.chgS hst CH.out (Or.inr (by have := HDe.out; omega))); have hS := Stored.chgS (S := fun k => k = d + 1) hst (Chg.refl _ _) (Or.inl rfl); have LBo := LB.out; have HP2 := Hi (show Pair ws X y2 m2 from ⟨HP2.out.src.chg hS (by omega), HP2.out.led.chg hS (by have := HY2.out; omega)⟩); have HR2 := Hi (HR2.out.chg hS (by omega) (show ¬ r.B = d + 1 by omega) (show ¬ r.b.g = d + 1 by omega)); clear hst hO hS LBo))
       exact ⟨_, aD Tryz.results65 _ _ _ (fc f t) _ rfl OF.out.range0 Tryz.underlying31 rfl (by kernel_rfl), y2, m2, d2, t, rfl, HP2.out, HY2.out, HR2.out, CH.out, none, y, m, (0, 0), HTR.out, Or.inr (Or.inr ⟨rfl, HNO.out, m2, HB.out, rfl⟩)⟩
     have HB := Hi (fun w0 (h0 : PxF d lo g w0 X RR L (y.to at_) m r (none)) => HB2.out h1 h2 d lo g (none) y m w0 (by have := HLO.out; omega) HTR.out h0)
     rw [show ptrOf none = none from rfl] at HB
     have g5 : (mt == 1) = false := by rw [beq_eq_false_iff_ne]; exact h1
     have g6 : (mt == 2) = false := by rw [beq_eq_false_iff_ne]; exact h2
     clear h1 h2
     go_wp2_with (first
      | (refine aL (by kernel_rfl) 63 16 _ rfl (d) [J I sz, J I W, J I H, .bool top, J I dp, J I mt, J I co, J I k0, J I k1, J I k2, J I k3, J I k4, J I k5, J I k6, J I k7, J I fr] rfl rfl OH.out Tryz.underlying63 rfl (by kernel_rfl) ?_; intro _)
      | (refine load_ag (by kernel_rfl) 61 _ rfl (d) 7 [J I k0, J I k1, J I k2, J I k3, J I k4, J I k5, J I k6, J I k7] (by kernel_rfl) OH.out rfl Tryz.underlying61 rfl (by kernel_rfl) ?_; intro _))
     with_reducible refine (HB.out _ PX.out).mono ?_
     rintro e w3 ⟨y2, m2, d2, t, rfl, hp2, hy2, hr2, hch, hbr⟩
     have OF := Hi (hch.obj OF.out (HNP.out _ (Nat.le_succ _)))
     have HP2 := Hi hp2
     have HR2 := Hi hr2
     have CH := Hi (CH.out.trans hch)
     have HB := Hi hbr
     have HY2 := Hi hy2
     clear hp2 hr2 hch hbr hy2
     go_wp2_with (first
      | (refine so 31 3 (d + 1) (fc f t) OF.out ?_; intro ws hst hO; have OF := Hi hO; have CH := Hi (Stored.chgS hst CH.out (Or.inr (by have := HDe.out; omega))); have hS := Stored.chgS (S := fun k => k = d + 1) hst (Chg.refl _ _) (Or.inl rfl); have LBo := LB.out; have HP2 := Hi (show Pair ws X y2 m2 from ⟨HP2.out.src.chg hS (by omega), HP2.out.led.chg hS (by have := HY2.out; omega)⟩); have HR2 := Hi (HR2.out.chg hS (by omega) (show ¬ r.B = d + 1 by omega) (show ¬ r.b.g = d + 1 by omega)); clear hst hO hS LBo))
     exact ⟨_, aD Tryz.results65 _ _ _ (fc f t) _ rfl OF.out.range0 Tryz.underlying31 rfl (by kernel_rfl), y2, m2, d2, t, rfl, HP2.out, HY2.out, HR2.out, CH.out, none, y, m, (0, 0), HTR.out, Or.inr (Or.inr ⟨rfl, HNO.out, m2, HB.out, rfl⟩)⟩
 | some q =>
   obtain ⟨P, p⟩ := q
   rw [show ptrOf (some (P, p)) = some ⟨P, 0, none⟩ from rfl]
   go_upto_region 6 with (fail)
   by_cases h0 : 0 ≤ at_
   rotate_left
   · have g0 : decide (at_ ≥ 0) = false := by rw [decide_eq_false_iff_not]; exact h0
     have HYT := Hi (show y.to at_ = y from if_neg h0)
     have HNO := Hi (show y.toOk at_ from fun h => absurd h h0)
     clear h0
     go_upto_region 8 with (first
      | ((with_reducible refine aE rfl ?_ ?_); rfl; intro _))
     have PX := Hi (show PxF d lo g _ X RR L (y.to at_) m r (some (P, p)) from by have := PX.out; rw [HYT.out]; exact this)
     have c5 := (OH.out.cell 5).trans (show _ = some (J I mt) from rfl)
     by_cases h1 : mt = 1
     · have hmt : mt = 1 ∨ mt = 2 := Or.inl h1
       have HB := Hi (fun w0 (h0 : PxF d lo g w0 X RR L (y.to at_) m r (some (P, p))) => HB1.out hmt d lo g (some (P, p)) y m w0 (by have := HLO.out; omega) HTR.out h0)
       rw [show ptrOf (some (P, p)) = some ⟨P, 0, none⟩ from rfl] at HB
       have g6 : (mt == 1) = true := by rw [beq_iff_eq]; exact h1
       clear hmt h1
       go_wp2_with (first
        | ((with_reducible refine aE rfl ?_ ?_); rfl; intro _)
        | (refine aL (by kernel_rfl) 63 16 _ rfl (d) [J I sz, J I W, J I H, .bool top, J I dp, J I mt, J I co, J I k0, J I k1, J I k2, J I k3, J I k4, J I k5, J I k6, J I k7, J I fr] rfl rfl OH.out Tryz.underlying63 rfl (by kernel_rfl) ?_; intro _))
       with_reducible refine (HB.out _ PX.out).mono ?_
       rintro e w3 ⟨y2, m2, d2, t, rfl, hp2, hy2, hr2, hch, hbr⟩
       have OF := Hi (hch.obj OF.out (HNP.out _ (Nat.le_succ _)))
       obtain ⟨q1, q2, q3⟩ := PX.out.pal (by have := HLO.out; omega) hch
       have HP2 := Hi hp2
       have HR2 := Hi hr2
       have CH := Hi (CH.out.trans hch)
       have HB := Hi hbr
       have HY2 := Hi hy2
       have HPL := Hi q1
       have HQ := Hi (show p.b.L = L ∧ d ≤ P ∧ d ≤ p.B from ⟨q2, q3⟩)
       clear hp2 hr2 hch hbr hy2 q1 q2 q3
       go_wp2_with (first
        | (refine so 31 3 (d + 1) (fc f t) OF.out ?_; intro ws hst hO; have OF := Hi hO; have CH := Hi (Stored.chgS hst CH.out (Or.inr (by have := HDe.out; omega))); have hS := Stored.chgS (S := fun k => k = d + 1) hst (Chg.refl _ _) (Or.inl rfl); have LBo := LB.out; have HP2 := Hi (show Pair ws X y2 m2 from ⟨HP2.out.src.chg hS (by omega), HP2.out.led.chg hS (by have := HY2.out; omega)⟩); have HR2 := Hi (HR2.out.chg hS (by omega) (show ¬ r.B = d + 1 by omega) (show ¬ r.b.g = d + 1 by omega)); have HPL := Hi (HPL.out.chg hS (by have := PX.out.pl P p rfl; have := HLO.out; omega) (by have := PX.out.pl P p rfl; have := HLO.out; omega) (by have := PX.out.pl P p rfl; have := HLO.out; omega)); clear hst hO hS LBo))
       refine leaves_cons (f := 84) (args := #[Y (some ⟨P, 0, none⟩)]) (by simp) (by simp [go_sem]) ?_
       refine (pfree_d P p m2 .returning _ HPL.out (by rw [HQ.out.1, ← HY2.out]; exact HP2.out.led)).mono ?_
       rintro e u' wB ⟨rfl, ⟨bb, rfl⟩, hl1, hc1⟩
       obtain ⟨z1, z2, z3⟩ := px_free HP2.out HY2.out HR2.out ⟨HAP.out.2.1, HAP.out.2.2.2.1, HAP.out.2.2.2.2.2⟩ ⟨PX.out.lX, PX.out.lR, PX.out.lB, PX.out.lg⟩ HQ.out.1 HQ.out.2 HDe.out CH.out hl1 hc1
       have OF := Hi (hc1.obj OF.out (fun h => by have := PX.out.pl P p rfl; have := HQ.out; have := PX.out.lL; have := HLO.out; rcases h with h | h | h <;> omega))
       exact ⟨_, aD Tryz.results65 _ _ _ (fc f t) _ rfl OF.out.range0 Tryz.underlying31 rfl (by kernel_rfl), y2, _, d2, t, rfl, z1, HY2.out, z2, z3, some (P, p), y, m, (0, 0), HTR.out, Or.inr (Or.inr ⟨rfl, HNO.out, m2, HB.out, rfl⟩)⟩
     by_cases h2 : mt = 2
     · have hmt : mt = 1 ∨ mt = 2 := Or.inr h2
       have HB := Hi (fun w0 (h0 : PxF d lo g w0 X RR L (y.to at_) m r (some (P, p))) => HB1.out hmt d lo g (some (P, p)) y m w0 (by have := HLO.out; omega) HTR.out h0)
       rw [show ptrOf (some (P, p)) = some ⟨P, 0, none⟩ from rfl] at HB
       have g5 : (mt == 1) = false := by rw [beq_eq_false_iff_ne]; exact h1
       have g6 : (mt == 2) = true := by rw [beq_iff_eq]; exact h2
       clear hmt h1 h2
       go_wp2_with (first
        | (refine aL (by kernel_rfl) 63 16 _ rfl (d) [J I sz, J I W, J I H, .bool top, J I dp, J I mt, J I co, J I k0, J I k1, J I k2, J I k3, J I k4, J I k5, J I k6, J I k7, J I fr] rfl rfl OH.out Tryz.underlying63 rfl (by kernel_rfl) ?_; intro _))
       with_reducible refine (HB.out _ PX.out).mono ?_
       rintro e w3 ⟨y2, m2, d2, t, rfl, hp2, hy2, hr2, hch, hbr⟩
       have OF := Hi (hch.obj OF.out (HNP.out _ (Nat.le_succ _)))
       obtain ⟨q1, q2, q3⟩ := PX.out.pal (by have := HLO.out; omega) hch
       have HP2 := Hi hp2
       have HR2 := Hi hr2
       have CH := Hi (CH.out.trans hch)
       have HB := Hi hbr
       have HY2 := Hi hy2
       have HPL := Hi q1
       have HQ := Hi (show p.b.L = L ∧ d ≤ P ∧ d ≤ p.B from ⟨q2, q3⟩)
       clear hp2 hr2 hch hbr hy2 q1 q2 q3
       go_wp2_with (first
        | (refine so 31 3 (d + 1) (fc f t) OF.out ?_; intro ws hst hO; have OF := Hi hO; have CH := Hi (Stored.chgS hst CH.out (Or.inr (by have := HDe.out; omega))); have hS := Stored.chgS (S := fun k => k = d + 1) hst (Chg.refl _ _) (Or.inl rfl); have LBo := LB.out; have HP2 := Hi (show Pair ws X y2 m2 from ⟨HP2.out.src.chg hS (by omega), HP2.out.led.chg hS (by have := HY2.out; omega)⟩); have HR2 := Hi (HR2.out.chg hS (by omega) (show ¬ r.B = d + 1 by omega) (show ¬ r.b.g = d + 1 by omega)); have HPL := Hi (HPL.out.chg hS (by have := PX.out.pl P p rfl; have := HLO.out; omega) (by have := PX.out.pl P p rfl; have := HLO.out; omega) (by have := PX.out.pl P p rfl; have := HLO.out; omega)); clear hst hO hS LBo))
       refine leaves_cons (f := 84) (args := #[Y (some ⟨P, 0, none⟩)]) (by simp) (by simp [go_sem]) ?_
       refine (pfree_d P p m2 .returning _ HPL.out (by rw [HQ.out.1, ← HY2.out]; exact HP2.out.led)).mono ?_
       rintro e u' wB ⟨rfl, ⟨bb, rfl⟩, hl1, hc1⟩
       obtain ⟨z1, z2, z3⟩ := px_free HP2.out HY2.out HR2.out ⟨HAP.out.2.1, HAP.out.2.2.2.1, HAP.out.2.2.2.2.2⟩ ⟨PX.out.lX, PX.out.lR, PX.out.lB, PX.out.lg⟩ HQ.out.1 HQ.out.2 HDe.out CH.out hl1 hc1
       have OF := Hi (hc1.obj OF.out (fun h => by have := PX.out.pl P p rfl; have := HQ.out; have := PX.out.lL; have := HLO.out; rcases h with h | h | h <;> omega))
       exact ⟨_, aD Tryz.results65 _ _ _ (fc f t) _ rfl OF.out.range0 Tryz.underlying31 rfl (by kernel_rfl), y2, _, d2, t, rfl, z1, HY2.out, z2, z3, some (P, p), y, m, (0, 0), HTR.out, Or.inr (Or.inr ⟨rfl, HNO.out, m2, HB.out, rfl⟩)⟩
     have HB := Hi (fun w0 (h0 : PxF d lo g w0 X RR L (y.to at_) m r (some (P, p))) => HB2.out h1 h2 d lo g (some (P, p)) y m w0 (by have := HLO.out; omega) HTR.out h0)
     rw [show ptrOf (some (P, p)) = some ⟨P, 0, none⟩ from rfl] at HB
     have g5 : (mt == 1) = false := by rw [beq_eq_false_iff_ne]; exact h1
     have g6 : (mt == 2) = false := by rw [beq_eq_false_iff_ne]; exact h2
     clear h1 h2
     go_wp2_with (first
      | (refine aL (by kernel_rfl) 63 16 _ rfl (d) [J I sz, J I W, J I H, .bool top, J I dp, J I mt, J I co, J I k0, J I k1, J I k2, J I k3, J I k4, J I k5, J I k6, J I k7, J I fr] rfl rfl OH.out Tryz.underlying63 rfl (by kernel_rfl) ?_; intro _)
      | (refine load_ag (by kernel_rfl) 61 _ rfl (d) 7 [J I k0, J I k1, J I k2, J I k3, J I k4, J I k5, J I k6, J I k7] (by kernel_rfl) OH.out rfl Tryz.underlying61 rfl (by kernel_rfl) ?_; intro _))
     with_reducible refine (HB.out _ PX.out).mono ?_
     rintro e w3 ⟨y2, m2, d2, t, rfl, hp2, hy2, hr2, hch, hbr⟩
     have OF := Hi (hch.obj OF.out (HNP.out _ (Nat.le_succ _)))
     obtain ⟨q1, q2, q3⟩ := PX.out.pal (by have := HLO.out; omega) hch
     have HP2 := Hi hp2
     have HR2 := Hi hr2
     have CH := Hi (CH.out.trans hch)
     have HB := Hi hbr
     have HY2 := Hi hy2
     have HPL := Hi q1
     have HQ := Hi (show p.b.L = L ∧ d ≤ P ∧ d ≤ p.B from ⟨q2, q3⟩)
     clear hp2 hr2 hch hbr hy2 q1 q2 q3
     go_wp2_with (first
      | (refine so 31 3 (d + 1) (fc f t) OF.out ?_; intro ws hst hO; have OF := Hi hO; have CH := Hi (Stored.chgS hst CH.out (Or.inr (by have := HDe.out; omega))); have hS := Stored.chgS (S := fun k => k = d + 1) hst (Chg.refl _ _) (Or.inl rfl); have LBo := LB.out; have HP2 := Hi (show Pair ws X y2 m2 from ⟨HP2.out.src.chg hS (by omega), HP2.out.led.chg hS (by have := HY2.out; omega)⟩); have HR2 := Hi (HR2.out.chg hS (by omega) (show ¬ r.B = d + 1 by omega) (show ¬ r.b.g = d + 1 by omega)); have HPL := Hi (HPL.out.chg hS (by have := PX.out.pl P p rfl; have := HLO.out; omega) (by have := PX.out.pl P p rfl; have := HLO.out; omega) (by have := PX.out.pl P p rfl; have := HLO.out; omega)); clear hst hO hS LBo))
     refine leaves_cons (f := 84) (args := #[Y (some ⟨P, 0, none⟩)]) (by simp) (by simp [go_sem]) ?_
     refine (pfree_d P p m2 .returning _ HPL.out (by rw [HQ.out.1, ← HY2.out]; exact HP2.out.led)).mono ?_
     rintro e u' wB ⟨rfl, ⟨bb, rfl⟩, hl1, hc1⟩
     obtain ⟨z1, z2, z3⟩ := px_free HP2.out HY2.out HR2.out ⟨HAP.out.2.1, HAP.out.2.2.2.1, HAP.out.2.2.2.2.2⟩ ⟨PX.out.lX, PX.out.lR, PX.out.lB, PX.out.lg⟩ HQ.out.1 HQ.out.2 HDe.out CH.out hl1 hc1
     have OF := Hi (hc1.obj OF.out (fun h => by have := PX.out.pl P p rfl; have := HQ.out; have := PX.out.lL; have := HLO.out; rcases h with h | h | h <;> omega))
     exact ⟨_, aD Tryz.results65 _ _ _ (fc f t) _ rfl OF.out.range0 Tryz.underlying31 rfl (by kernel_rfl), y2, _, d2, t, rfl, z1, HY2.out, z2, z3, some (P, p), y, m, (0, 0), HTR.out, Or.inr (Or.inr ⟨rfl, HNO.out, m2, HB.out, rfl⟩)⟩
   have g0 : decide (at_ ≥ 0) = true := by rw [decide_eq_true_iff]; exact h0
   have HYT := Hi (show y.to at_ = (y.seek at_).1 from if_pos h0)
   cases hok : (y.seek at_).2 with
   | false =>
     have HNO := Hi (show ¬ y.toOk at_ from fun h => by rw [h h0] at hok; cases hok)
     have HYY := Hi (show (y.seek at_).1 = y from by
      have h9 := hok
      unfold Sr.seek at h9 ⊢
      by_cases hs : at_ < y.b ∨ (y.e : Int) < at_
      · rw [if_pos hs]
      · rw [if_neg hs] at h9; cases h9)
     rw [hok] at HSK
     have HTO := Hi (fun w0 (h0 : SrcAt w0 X (y.seek at_).1) => (HTO.out w0 h0).mono (R' := fun e w' => e = .returned (J I (y.e : Int)) ∧ w0 = w') fun e w' hh => by rw [HYY.out] at hh; exact hh)
     clear hok h0
     go_wp2_with (first
      | ((go_at_call 106; (with_reducible refine (HSK.out _ PX.out.pr).mono ?_); rintro e wk ⟨rfl, hp1, hc1⟩); have OH := Hi (hc1.obj OH.out (HND.out _ (Nat.le_refl _))); have OF := Hi (hc1.obj OF.out (HND.out _ (Nat.le_succ _))); have OG := Hi (hc1.obj OG.out (HND.out _ (by have := HLO.out; omega))); have CH := Hi (CH.out.trans (hc1.mono (fun k _ h => h.elim Or.inl (fun h => Or.inr (Or.inl h))))); have PX := Hi (PX.out.move (by have := HLO.out; omega) HAP.out hp1 ((seek_L _ _).trans PX.out.eL) hc1); clear hp1 hc1)
      | ((go_at_call 28; (with_reducible refine (HTO.out _ PX.out.pr.src).mono ?_); rintro e wt ⟨rfl, rfl⟩))
      | (refine so 31 3 (d + 1) (fc f (1, (y.e : Int))) OF.out ?_; intro ws hst hO; have OF := Hi hO; have OH := Hi (hst.oth OH.out (by have := HLO.out; omega)); have OG := Hi (hst.oth OG.out (by have := HLO.out; omega)); have PX := Hi (PX.out.into hst (by have := HLO.out; omega) (fun _ => by have := HLO.out; omega)); have CH := Hi (Stored.chgS hst CH.out (Or.inr (by have := HDe.out; have := HLO.out; omega))); clear hst hO))
     have hyy : (y.seek at_).1 = y := HYY.out
     have PX := Hi (show PxF d lo g _ X RR L y m r (some (P, p)) from by have := PX.out; rw [hyy] at this; exact this)
     obtain ⟨q1, q2, q3⟩ := PX.out.pal (by have := HLO.out; omega) (Chg.refl _ _)
     refine leaves_cons (f := 84) (args := #[Y (some ⟨P, 0, none⟩)]) (by simp) (by simp [go_sem]) ?_
     refine (pfree_d P p m .returning _ q1 (by rw [q2, ← PX.out.eL]; exact PX.out.pr.led)).mono ?_
     rintro e u' wB ⟨rfl, ⟨bb, rfl⟩, hl1, hc1⟩
     obtain ⟨z1, z2, z3⟩ := px_free PX.out.pr PX.out.eL PX.out.ra ⟨HAP.out.2.1, HAP.out.2.2.2.1, HAP.out.2.2.2.2.2⟩ ⟨PX.out.lX, PX.out.lR, PX.out.lB, PX.out.lg⟩ q2 q3 HDe.out CH.out hl1 hc1
     have OF := Hi (hc1.obj OF.out (fun h => by have := PX.out.pl P p rfl; have := PX.out.lL; have := HLO.out; rcases h with h | h | h <;> omega))
     exact ⟨_, aD Tryz.results65 _ _ _ (fc f (1, (y.e : Int))) _ rfl OF.out.range0 Tryz.underlying31 rfl (by kernel_rfl), y, _, r.b.d, (1, (y.e : Int)), rfl, z1, PX.out.eL, z2, z3, some (P, p), y, m, (0, 0), HTR.out, Or.inr (Or.inl ⟨rfl, HNO.out, rfl, rfl, rfl, rfl⟩)⟩
   | true =>
     have HNO := Hi (show y.toOk at_ from fun _ => hok)
     rw [hok] at HSK
     clear hok h0
     go_upto_region 8 with (first
      | ((go_at_call 106; (with_reducible refine (HSK.out _ PX.out.pr).mono ?_); rintro e wk ⟨rfl, hp1, hc1⟩); have OH := Hi (hc1.obj OH.out (HND.out _ (Nat.le_refl _))); have OF := Hi (hc1.obj OF.out (HND.out _ (Nat.le_succ _))); have OG := Hi (hc1.obj OG.out (HND.out _ (by have := HLO.out; omega))); have CH := Hi (CH.out.trans (hc1.mono (fun k _ h => h.elim Or.inl (fun h => Or.inr (Or.inl h))))); have PX := Hi (PX.out.move (by have := HLO.out; omega) HAP.out hp1 ((seek_L _ _).trans PX.out.eL) hc1); clear hp1 hc1))
     have PX := Hi (show PxF d lo g _ X RR L (y.to at_) m r (some (P, p)) from by have := PX.out; rw [HYT.out]; exact this)
     have c5 := (OH.out.cell 5).trans (show _ = some (J I mt) from rfl)
     by_cases h1 : mt = 1
     · have hmt : mt = 1 ∨ mt = 2 := Or.inl h1
       have HB := Hi (fun w0 (h0 : PxF d lo g w0 X RR L (y.to at_) m r (some (P, p))) => HB1.out hmt d lo g (some (P, p)) y m w0 (by have := HLO.out; omega) HTR.out h0)
       rw [show ptrOf (some (P, p)) = some ⟨P, 0, none⟩ from rfl] at HB
       have g6 : (mt == 1) = true := by rw [beq_iff_eq]; exact h1
       clear hmt h1
       go_wp2_with (first
        | ((with_reducible refine aE rfl ?_ ?_); rfl; intro _)
        | (refine aL (by kernel_rfl) 63 16 _ rfl (d) [J I sz, J I W, J I H, .bool top, J I dp, J I mt, J I co, J I k0, J I k1, J I k2, J I k3, J I k4, J I k5, J I k6, J I k7, J I fr] rfl rfl OH.out Tryz.underlying63 rfl (by kernel_rfl) ?_; intro _))
       with_reducible refine (HB.out _ PX.out).mono ?_
       rintro e w3 ⟨y2, m2, d2, t, rfl, hp2, hy2, hr2, hch, hbr⟩
       have OF := Hi (hch.obj OF.out (HNP.out _ (Nat.le_succ _)))
       obtain ⟨q1, q2, q3⟩ := PX.out.pal (by have := HLO.out; omega) hch
       have HP2 := Hi hp2
       have HR2 := Hi hr2
       have CH := Hi (CH.out.trans hch)
       have HB := Hi hbr
       have HY2 := Hi hy2
       have HPL := Hi q1
       have HQ := Hi (show p.b.L = L ∧ d ≤ P ∧ d ≤ p.B from ⟨q2, q3⟩)
       clear hp2 hr2 hch hbr hy2 q1 q2 q3
       go_wp2_with (first
        | (refine so 31 3 (d + 1) (fc f t) OF.out ?_; intro ws hst hO; have OF := Hi hO; have CH := Hi (Stored.chgS hst CH.out (Or.inr (by have := HDe.out; omega))); have hS := Stored.chgS (S := fun k => k = d + 1) hst (Chg.refl _ _) (Or.inl rfl); have LBo := LB.out; have HP2 := Hi (show Pair ws X y2 m2 from ⟨HP2.out.src.chg hS (by omega), HP2.out.led.chg hS (by have := HY2.out; omega)⟩); have HR2 := Hi (HR2.out.chg hS (by omega) (show ¬ r.B = d + 1 by omega) (show ¬ r.b.g = d + 1 by omega)); have HPL := Hi (HPL.out.chg hS (by have := PX.out.pl P p rfl; have := HLO.out; omega) (by have := PX.out.pl P p rfl; have := HLO.out; omega) (by have := PX.out.pl P p rfl; have := HLO.out; omega)); clear hst hO hS LBo))
       refine leaves_cons (f := 84) (args := #[Y (some ⟨P, 0, none⟩)]) (by simp) (by simp [go_sem]) ?_
       refine (pfree_d P p m2 .returning _ HPL.out (by rw [HQ.out.1, ← HY2.out]; exact HP2.out.led)).mono ?_
       rintro e u' wB ⟨rfl, ⟨bb, rfl⟩, hl1, hc1⟩
       obtain ⟨z1, z2, z3⟩ := px_free HP2.out HY2.out HR2.out ⟨HAP.out.2.1, HAP.out.2.2.2.1, HAP.out.2.2.2.2.2⟩ ⟨PX.out.lX, PX.out.lR, PX.out.lB, PX.out.lg⟩ HQ.out.1 HQ.out.2 HDe.out CH.out hl1 hc1
       have OF := Hi (hc1.obj OF.out (fun h => by have := PX.out.pl P p rfl; have := HQ.out; have := PX.out.lL; have := HLO.out; rcases h with h | h | h <;> omega))
       exact ⟨_, aD Tryz.results65 _ _ _ (fc f t) _ rfl OF.out.range0 Tryz.underlying31 rfl (by kernel_rfl), y2, _, d2, t, rfl, z1, HY2.out, z2, z3, some (P, p), y, m, (0, 0), HTR.out, Or.inr (Or.inr ⟨rfl, HNO.out, m2, HB.out, rfl⟩)⟩
     by_cases h2 : mt = 2
     · have hmt : mt = 1 ∨ mt = 2 := Or.inr h2
       have HB := Hi (fun w0 (h0 : PxF d lo g w0 X RR L (y.to at_) m r (some (P, p))) => HB1.out hmt d lo g (some (P, p)) y m w0 (by have := HLO.out; omega) HTR.out h0)
       rw [show ptrOf (some (P, p)) = some ⟨P, 0, none⟩ from rfl] at HB
       have g5 : (mt == 1) = false := by rw [beq_eq_false_iff_ne]; exact h1
       have g6 : (mt == 2) = true := by rw [beq_iff_eq]; exact h2
       clear hmt h1 h2
       go_wp2_with (first
        | (refine aL (by kernel_rfl) 63 16 _ rfl (d) [J I sz, J I W, J I H, .bool top, J I dp, J I mt, J I co, J I k0, J I k1, J I k2, J I k3, J I k4, J I k5, J I k6, J I k7, J I fr] rfl rfl OH.out Tryz.underlying63 rfl (by kernel_rfl) ?_; intro _))
       with_reducible refine (HB.out _ PX.out).mono ?_
       rintro e w3 ⟨y2, m2, d2, t, rfl, hp2, hy2, hr2, hch, hbr⟩
       have OF := Hi (hch.obj OF.out (HNP.out _ (Nat.le_succ _)))
       obtain ⟨q1, q2, q3⟩ := PX.out.pal (by have := HLO.out; omega) hch
       have HP2 := Hi hp2
       have HR2 := Hi hr2
       have CH := Hi (CH.out.trans hch)
       have HB := Hi hbr
       have HY2 := Hi hy2
       have HPL := Hi q1
       have HQ := Hi (show p.b.L = L ∧ d ≤ P ∧ d ≤ p.B from ⟨q2, q3⟩)
       clear hp2 hr2 hch hbr hy2 q1 q2 q3
       go_wp2_with (first
        | (refine so 31 3 (d + 1) (fc f t) OF.out ?_; intro ws hst hO; have OF := Hi hO; have CH := Hi (Stored.chgS hst CH.out (Or.inr (by have := HDe.out; omega))); have hS := Stored.chgS (S := fun k => k = d + 1) hst (Chg.refl _ _) (Or.inl rfl); have LBo := LB.out; have HP2 := Hi (show Pair ws X y2 m2 from ⟨HP2.out.src.chg hS (by omega), HP2.out.led.chg hS (by have := HY2.out; omega)⟩); have HR2 := Hi (HR2.out.chg hS (by omega) (show ¬ r.B = d + 1 by omega) (show ¬ r.b.g = d + 1 by omega)); have HPL := Hi (HPL.out.chg hS (by have := PX.out.pl P p rfl; have := HLO.out; omega) (by have := PX.out.pl P p rfl; have := HLO.out; omega) (by have := PX.out.pl P p rfl; have := HLO.out; omega)); clear hst hO hS LBo))
       refine leaves_cons (f := 84) (args := #[Y (some ⟨P, 0, none⟩)]) (by simp) (by simp [go_sem]) ?_
       refine (pfree_d P p m2 .returning _ HPL.out (by rw [HQ.out.1, ← HY2.out]; exact HP2.out.led)).mono ?_
       rintro e u' wB ⟨rfl, ⟨bb, rfl⟩, hl1, hc1⟩
       obtain ⟨z1, z2, z3⟩ := px_free HP2.out HY2.out HR2.out ⟨HAP.out.2.1, HAP.out.2.2.2.1, HAP.out.2.2.2.2.2⟩ ⟨PX.out.lX, PX.out.lR, PX.out.lB, PX.out.lg⟩ HQ.out.1 HQ.out.2 HDe.out CH.out hl1 hc1
       have OF := Hi (hc1.obj OF.out (fun h => by have := PX.out.pl P p rfl; have := HQ.out; have := PX.out.lL; have := HLO.out; rcases h with h | h | h <;> omega))
       exact ⟨_, aD Tryz.results65 _ _ _ (fc f t) _ rfl OF.out.range0 Tryz.underlying31 rfl (by kernel_rfl), y2, _, d2, t, rfl, z1, HY2.out, z2, z3, some (P, p), y, m, (0, 0), HTR.out, Or.inr (Or.inr ⟨rfl, HNO.out, m2, HB.out, rfl⟩)⟩
     have HB := Hi (fun w0 (h0 : PxF d lo g w0 X RR L (y.to at_) m r (some (P, p))) => HB2.out h1 h2 d lo g (some (P, p)) y m w0 (by have := HLO.out; omega) HTR.out h0)
     rw [show ptrOf (some (P, p)) = some ⟨P, 0, none⟩ from rfl] at HB
     have g5 : (mt == 1) = false := by rw [beq_eq_false_iff_ne]; exact h1
     have g6 : (mt == 2) = false := by rw [beq_eq_false_iff_ne]; exact h2
     clear h1 h2
     go_wp2_with (first
      | (refine aL (by kernel_rfl) 63 16 _ rfl (d) [J I sz, J I W, J I H, .bool top, J I dp, J I mt, J I co, J I k0, J I k1, J I k2, J I k3, J I k4, J I k5, J I k6, J I k7, J I fr] rfl rfl OH.out Tryz.underlying63 rfl (by kernel_rfl) ?_; intro _)
      | (refine load_ag (by kernel_rfl) 61 _ rfl (d) 7 [J I k0, J I k1, J I k2, J I k3, J I k4, J I k5, J I k6, J I k7] (by kernel_rfl) OH.out rfl Tryz.underlying61 rfl (by kernel_rfl) ?_; intro _))
     with_reducible refine (HB.out _ PX.out).mono ?_
     rintro e w3 ⟨y2, m2, d2, t, rfl, hp2, hy2, hr2, hch, hbr⟩
     have OF := Hi (hch.obj OF.out (HNP.out _ (Nat.le_succ _)))
     obtain ⟨q1, q2, q3⟩ := PX.out.pal (by have := HLO.out; omega) hch
     have HP2 := Hi hp2
     have HR2 := Hi hr2
     have CH := Hi (CH.out.trans hch)
     have HB := Hi hbr
     have HY2 := Hi hy2
     have HPL := Hi q1
     have HQ := Hi (show p.b.L = L ∧ d ≤ P ∧ d ≤ p.B from ⟨q2, q3⟩)
     clear hp2 hr2 hch hbr hy2 q1 q2 q3
     go_wp2_with (first
      | (refine so 31 3 (d + 1) (fc f t) OF.out ?_; intro ws hst hO; have OF := Hi hO; have CH := Hi (Stored.chgS hst CH.out (Or.inr (by have := HDe.out; omega))); have hS := Stored.chgS (S := fun k => k = d + 1) hst (Chg.refl _ _) (Or.inl rfl); have LBo := LB.out; have HP2 := Hi (show Pair ws X y2 m2 from ⟨HP2.out.src.chg hS (by omega), HP2.out.led.chg hS (by have := HY2.out; omega)⟩); have HR2 := Hi (HR2.out.chg hS (by omega) (show ¬ r.B = d + 1 by omega) (show ¬ r.b.g = d + 1 by omega)); have HPL := Hi (HPL.out.chg hS (by have := PX.out.pl P p rfl; have := HLO.out; omega) (by have := PX.out.pl P p rfl; have := HLO.out; omega) (by have := PX.out.pl P p rfl; have := HLO.out; omega)); clear hst hO hS LBo))
     refine leaves_cons (f := 84) (args := #[Y (some ⟨P, 0, none⟩)]) (by simp) (by simp [go_sem]) ?_
     refine (pfree_d P p m2 .returning _ HPL.out (by rw [HQ.out.1, ← HY2.out]; exact HP2.out.led)).mono ?_
     rintro e u' wB ⟨rfl, ⟨bb, rfl⟩, hl1, hc1⟩
     obtain ⟨z1, z2, z3⟩ := px_free HP2.out HY2.out HR2.out ⟨HAP.out.2.1, HAP.out.2.2.2.1, HAP.out.2.2.2.2.2⟩ ⟨PX.out.lX, PX.out.lR, PX.out.lB, PX.out.lg⟩ HQ.out.1 HQ.out.2 HDe.out CH.out hl1 hc1
     have OF := Hi (hc1.obj OF.out (fun h => by have := PX.out.pl P p rfl; have := HQ.out; have := PX.out.lL; have := HLO.out; rcases h with h | h | h <;> omega))
     exact ⟨_, aD Tryz.results65 _ _ _ (fc f t) _ rfl OF.out.range0 Tryz.underlying31 rfl (by kernel_rfl), y2, _, d2, t, rfl, z1, HY2.out, z2, z3, some (P, p), y, m, (0, 0), HTR.out, Or.inr (Or.inr ⟨rfl, HNO.out, m2, HB.out, rfl⟩)⟩
end Go.Proofs.YtfchnibjjokmbaaGreat

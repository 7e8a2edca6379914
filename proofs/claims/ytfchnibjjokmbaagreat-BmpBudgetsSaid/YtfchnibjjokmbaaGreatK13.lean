/- Parts. -/
import Derived.Test.YtfchnibjjokmbaaGreatK12
set_option linter.all false
set_option maxRecDepth 100000
set_option maxHeartbeats 16000000
open Go.Value renaming int → J, pointer → Y
open Go.IntKind renaming i64 → I, u8 → U
namespace Go.Proofs.YtfchnibjjokmbaaGreat
open Go.RowKit
theorem fault8_any (X : Nat) (x : Sr) (l : Led) (f : Int) (w : World) (h : Pair w X x l) : Calls Tryz.prog 37 #[Y (some ⟨X, 0, none⟩), J I f] w fun e w' => e = .returned (.agg (aK x l f).toArray) ∧ Below w.heap.size w w' :=
 (fault_any X x l f w h).mono fun e w' hh => by
   unfold Sr.fault at hh
   unfold aK
   by_cases hb : l.br = true
   · rw [if_pos hb] at hh ⊢; exact hh
   · rw [if_neg hb] at hh ⊢; exact hh
theorem palR_keep (sz : Int) (p : Pal) (x : Sr) (l : Led) (n : Nat) : (palR sz p x l n).1.1.B = p.B ∧ (palR sz p x l n).1.1.b.g = p.b.g ∧ (palR sz p x l n).1.1.b.L = p.b.L ∧ (palR sz p x l n).1.1.most = p.most ∧ (palR sz p x l n).1.2.1.L = x.L := by
 induction n generalizing p x l with
 | zero => exact ⟨rfl, rfl, rfl, rfl, rfl⟩
 | succ n ih =>
   rw [palR]
   split
   · exact ⟨rfl, rfl, rfl, rfl, nextL_8 _ _ _⟩
   · have := ih (p.add (col3 (x.next l sz).2.1)) (x.next l sz).1.1 (x.next l sz).1.2
     exact ⟨this.1, this.2.1, this.2.2.1, this.2.2.2.1, this.2.2.2.2.trans (nextL_8 _ _ _)⟩
def Table8Post (w : World) (X : Nat) (x : Sr) (l : Led) (kd : Int) (co : Nat) (f : Int) (e : Ending) (w' : World) : Prop :=
 if (l.take (4 * (co : Int))).2 = false then e = .returned (.tuple #[Y none, .agg (aK x (l.take (4 * (co : Int))).1 f).toArray]) ∧ Pair w' X x (l.take (4 * (co : Int))).1 ∧ Chg (two X x) w w' else
 ∃ P B g, w.heap.size ≤ P ∧ w.heap.size ≤ B ∧ w.heap.size ≤ g ∧ Chg (two X x) w w' ∧
  (if (palR kd ⟨B, ⟨x.L, g, aI (4 * co), true⟩, 0, co⟩ x (l.take (4 * (co : Int))).1 co).2 = true then
    e = .returned (.tuple #[Y (some ⟨P, 0, none⟩), .agg #[J I 0, J I 0, J I 0]]) ∧ PalAt w' P (palR kd ⟨B, ⟨x.L, g, aI (4 * co), true⟩, 0, co⟩ x (l.take (4 * (co : Int))).1 co).1.1 ∧
     Pair w' X (palR kd ⟨B, ⟨x.L, g, aI (4 * co), true⟩, 0, co⟩ x (l.take (4 * (co : Int))).1 co).1.2.1 (palR kd ⟨B, ⟨x.L, g, aI (4 * co), true⟩, 0, co⟩ x (l.take (4 * (co : Int))).1 co).1.2.2
   else e = .returned (.tuple #[Y none, .agg (aK (palR kd ⟨B, ⟨x.L, g, aI (4 * co), true⟩, 0, co⟩ x (l.take (4 * (co : Int))).1 co).1.2.1 ((palR kd ⟨B, ⟨x.L, g, aI (4 * co), true⟩, 0, co⟩ x (l.take (4 * (co : Int))).1 co).1.2.2.give (4 * co : Nat)).1 f).toArray]) ∧
    Pair w' X (palR kd ⟨B, ⟨x.L, g, aI (4 * co), true⟩, 0, co⟩ x (l.take (4 * (co : Int))).1 co).1.2.1 ((palR kd ⟨B, ⟨x.L, g, aI (4 * co), true⟩, 0, co⟩ x (l.take (4 * (co : Int))).1 co).1.2.2.give (4 * co : Nat)).1)
theorem table8_any (sz W H : Int) (top : Bool) (dp mt : Int) (co : Nat) (k0 k1 k2 k3 k4 k5 k6 k7 fr : Int) (X : Nat) (x : Sr) (l : Led) (f : Int) (w : World) (h : Pair w X x l) (hdp : dp ≤ 8) (hco1 : 1 ≤ co) (hco2 : co ≤ 65536) :
 Calls Tryz.prog 83 #[Y (some ⟨X, 0, none⟩), .agg (List.toArray [J I sz, J I W, J I H, .bool top, J I dp, J I mt, J I co, J I k0, J I k1, J I k2, J I k3, J I k4, J I k5, J I k6, J I k7, J I fr]), J I f] w (Table8Post w X x l (if sz = 12 then 3 else 4) co f) := by
 obtain ⟨d, hd⟩ : ∃ d, w.heap.size = d := ⟨_, rfl⟩
 have HDe := Hi hd
 have hXd := h.src.lt
 have hLd := h.led.lt
 have hXL := h.src.ne
 rw [hd] at hXd hLd
 have HEN := Hi (fun w0 => hentry_any sz W H top dp mt co k0 k1 k2 k3 k4 k5 k6 k7 fr w0)
 have HLG := Hi (fun w0 (hs : SrcAt w0 X x) => slg_any X x w0 hs)
 have HNW := Hi (fun w0 (hL : LedAt w0 x.L l) => (pnew_any x.L l co w0 hL).mono (R' := fun e w' =>
  (if (l.take (4 * (co : Int))).2 = false then e = .returned (.tuple #[Y none, J I 4]) ∧ LedAt w' x.L (l.take (4 * (co : Int))).1 else
   ∃ P B g, e = .returned (.tuple #[Y (some ⟨P, 0, none⟩), J I 0]) ∧ LedAt w' x.L (l.take (4 * (co : Int))).1 ∧ PalAt w' P ⟨B, ⟨x.L, g, aI (4 * co), true⟩, 0, co⟩ ∧ w0.heap.size ≤ P ∧ w0.heap.size ≤ B ∧ w0.heap.size ≤ g) ∧ Chg (· = x.L) w0 w') fun e w' hh => by
  unfold PNewPost at hh
  rw [if_neg (by omega), show ((co : Int)).toNat = co from rfl] at hh
  exact hh)
 have OH := Hi ((aA w (List.toArray [J I sz, J I W, J I H, .bool top, J I dp, J I mt, J I co, J I k0, J I k1, J I k2, J I k3, J I k4, J I k5, J I k6, J I k7, J I fr]) 63).alloc (.cells #[J I 0, J I 0, J I 0] 31))
 have OF := Hi (aA (w.alloc (.cells (List.toArray [J I sz, J I W, J I H, .bool top, J I dp, J I mt, J I co, J I k0, J I k1, J I k2, J I k3, J I k4, J I k5, J I k6, J I k7, J I fr]) 63)) #[J I 0, J I 0, J I 0] 31)
 rw [show (w.alloc (.cells (List.toArray [J I sz, J I W, J I H, .bool top, J I dp, J I mt, J I co, J I k0, J I k1, J I k2, J I k3, J I k4, J I k5, J I k6, J I k7, J I fr]) 63)).heap.size = d + 1 by rw [← hd]; simp] at OF
 rw [hd] at OH
 have hC := ((Chg.refl (two X x) w).alloc (.cells (List.toArray [J I sz, J I W, J I H, .bool top, J I dp, J I mt, J I co, J I k0, J I k1, J I k2, J I k3, J I k4, J I k5, J I k6, J I k7, J I fr]) 63)).alloc (.cells #[J I 0, J I 0, J I 0] 31)
 have CH := Hi hC
 have HPR := Hi ((h.alloc (.cells (List.toArray [J I sz, J I W, J I H, .bool top, J I dp, J I mt, J I co, J I k0, J I k1, J I k2, J I k3, J I k4, J I k5, J I k6, J I k7, J I fr]) 63)).alloc (.cells #[J I 0, J I 0, J I 0] 31))
 clear h hC
 have hdp2 : ¬ 8 < dp := by omega
 by_cases hs : sz = 12
 · have HEN := Hi (fun w0 => (HEN.out w0).mono (R' := fun e w' => e = .returned (J I 3) ∧ Below w0.heap.size w0 w') fun e w' hh => by rw [if_pos hs] at hh; exact hh)
   rw [if_pos hs]
   clear hs
   go_enter Tryz.func83, Tryz.ntmps83
   go_upto_region 1 with (fail)
   clear hd
   generalize World.alloc _ _ = wr at OH OF CH HPR ⊢
   have c4 := (OH.out.cell 4).trans (show _ = some (J I dp) from rfl)
   go_upto_region 8 with (first
    | (refine aL (by kernel_rfl) 63 16 _ rfl d [J I sz, J I W, J I H, .bool top, J I dp, J I mt, J I co, J I k0, J I k1, J I k2, J I k3, J I k4, J I k5, J I k6, J I k7, J I fr] rfl rfl OH.out Tryz.underlying63 rfl (by kernel_rfl) ?_; intro _)
    | ((go_at_call 26; (with_reducible refine (HEN.out _).mono ?_); rintro e w2 ⟨rfl, hb⟩); have OH := Hi (OH.out.below hb OH.out.lt); have OF := Hi (OF.out.below hb OF.out.lt); have CH := Hi (CH.out.trans (aB hb _)); have HPR := Hi (HPR.out.upon hb HPR.out.src.lt HPR.out.led.lt); have ld := OF.out.lt; clear hb))
   clear c4
   obtain ⟨wr, rfl⟩ : ∃ z, z = w2 := ⟨_, rfl⟩
   have lds := OF.out.lt
   cases ht : (l.take (4 * (co : Int))).2 with
   | false =>
    as_aux_lemma =>
     have HNW := Hi (fun w0 (hL : LedAt w0 x.L l) => (HNW.out w0 hL).mono (R' := fun e w' => e = .returned (.tuple #[Y none, J I 4]) ∧ LedAt w' x.L (l.take (4 * (co : Int))).1 ∧ Chg (· = x.L) w0 w') fun e w' hh => by rw [if_pos ht] at hh; exact ⟨hh.1.1, hh.1.2, hh.2⟩)
     have HT := Hi ht
     clear ht
     refine wp_region_noPanic ?_
     refine wp_region_held_drew (S := fun w' => Chg (fun k => k = x.L) wr w') (by kernel_rfl) (Chg.refl _ _).drew (fun hHeld => ?_)
     refine za 0 (Y (some ⟨X, 0, none⟩)) rfl hHeld ?_
     refine za 2 (Y (some ⟨d, 6, none⟩)) rfl hHeld ?_
     refine zt 3 (J I (co : Int)) rfl hHeld ?_ (hy := fun w hS => by (have hc : w.cell? ⟨d, 6, none⟩ = some (J I (co : Int)) := (hS.cell (b := d) (o := 6) (by omega) (show ¬ d = x.L by omega)).trans ((OH.out.cell 6).trans rfl); go_simp))
     have hS := (Chg.refl (fun k => k = x.L) wr).drew
     have hF := (Chg.refl (fun _ => False) wr).drew
     generalize World.drew _ = wk at hS hF ⊢
     refine wpAnyH_ready (rs := [1]) (by kernel_rfl) (by simp) ?_
     refine AllReadyH.cons (o := _) rfl (fun K' hK => ?_) AllReadyH.nil
     go_simp
     refine (HLG.out _ (HPR.out.src.chg hF (fun h => h))).mono ?_
     rintro e5 w5 ⟨rfl, rfl⟩
     obtain ⟨wk, rfl⟩ : ∃ z, z = w5 := ⟨_, rfl⟩
     go_wp2_with fail
     refine hK _ _ hS (fun hH1 => ?_)
     clear hK K'
     try simp only [Act.put, zq1, zq2, zq3, zq4, zq5, zq6]
     refine wpAnyH_ready (rs := [4]) (by kernel_rfl) (by simp) ?_
     refine AllReadyH.cons (o := _) rfl (fun K' hK => ?_) AllReadyH.nil
     go_simp
     refine (HNW.out _ (HPR.out.led.chg hF (fun h => h))).mono ?_
     rintro e5 w5 ⟨rfl, hL5, hC5⟩
     go_wp2_with fail
     have hS2 := hS.trans hC5
     refine hK _ _ hS2 (fun hH2 => ?_)
     clear hK K'
     try simp only [Act.put, zq1, zq2, zq3, zq4, zq5, zq6]
     refine zt 5 (.tuple #[Y none, J I 4]) rfl hH2 ?_
     refine zt 6 (Y none) rfl hH2 ?_
     refine zt 7 (J I 4) rfl hH2 ?_
     refine zt 8 (Y none) rfl hH2 ?_
     refine zt 9 (J I 4) rfl hH2 ?_
     refine wpAnyH_done (by kernel_rfl) ?_ _
     refine NoPanic.normal ?_
     have HP1 := Hi (show Pair w5 X x (l.take (4 * (co : Int))).1 from ⟨(HPR.out.src.chg hF (fun h => h)).chg hC5 HPR.out.src.ne, hL5⟩)
     have OF := Hi (hS2.obj OF.out (show ¬ d + 1 = x.L by omega))
     have CH := Hi (CH.out.trans (hS2.mono (fun k _ hk => Or.inr hk)))
     clear hS hF hS2 hC5 hL5
     obtain ⟨l1, hl1⟩ : ∃ l1, (l.take (4 * (co : Int))).1 = l1 := ⟨_, rfl⟩
     rw [hl1] at HP1
     have HL1 := Hi hl1
     clear hl1
     have HFT := Hi (fun w0 (h0 : Pair w0 X (x) (l1)) => fault8_any X (x) (l1) f w0 h0)
     go_wp2_with (first
      | ((go_at_call 37; (with_reducible refine (HFT.out _ HP1.out).mono ?_); rintro e w9 ⟨rfl, hb⟩); have OF := Hi (OF.out.below hb OF.out.lt); have CH := Hi (CH.out.trans (aB hb _)); have HP1 := Hi (HP1.out.upon hb HP1.out.src.lt HP1.out.led.lt); clear hb)
      | (refine store_o rfl 31 3 _ _ rfl (d + 1) (aK (x) (l1) f) (aV _ _ _) (faultL_one _ _ _) (by kernel_rfl) (by kernel_rfl) (by kernel_rfl) OF.out (by first | rfl | simp) ?_; intro ws hst hO; have OF := Hi hO; have HP1 := Hi (HP1.out.into hst (by omega) (by omega)); have CH := Hi (Stored.chgS hst CH.out (Or.inr (by have := HDe.out; omega))); clear hst hO))
     refine bodyPost_ret (v := .tuple #[Y none, .agg (aK (x) (l1) f).toArray]) ?_ rfl ?_
     · exact aa Tryz.results83 _ _ _ (aK (x) (l1) f) _ rfl OF.out.range0 Tryz.underlying31 rfl (by rw [aV]; kernel_rfl)
     · unfold Table8Post
       rw [if_pos HT.out, HL1.out]
       exact ⟨rfl, HP1.out, CH.out⟩
   | true =>
    as_aux_lemma =>
     have HNW := Hi (fun w0 (hL : LedAt w0 x.L l) => (HNW.out w0 hL).mono (R' := fun e w' => ∃ P B g, e = .returned (.tuple #[Y (some ⟨P, 0, none⟩), J I 0]) ∧ LedAt w' x.L (l.take (4 * (co : Int))).1 ∧ PalAt w' P ⟨B, ⟨x.L, g, aI (4 * co), true⟩, 0, co⟩ ∧ w0.heap.size ≤ P ∧ w0.heap.size ≤ B ∧ w0.heap.size ≤ g ∧ Chg (· = x.L) w0 w') fun e w' hh => by
      rw [if_neg (by rw [ht]; decide)] at hh
      obtain ⟨⟨P, B, g, h1, h2, h3, h4, h5, h6⟩, h7⟩ := hh
      exact ⟨P, B, g, h1, h2, h3, h4, h5, h6, h7⟩)
     have HT := Hi ht
     clear ht
     refine wp_region_noPanic ?_
     refine wp_region_held_drew (S := fun w' => Chg (fun k => k = x.L) wr w') (by kernel_rfl) (Chg.refl _ _).drew (fun hHeld => ?_)
     refine za 0 (Y (some ⟨X, 0, none⟩)) rfl hHeld ?_
     refine za 2 (Y (some ⟨d, 6, none⟩)) rfl hHeld ?_
     refine zt 3 (J I (co : Int)) rfl hHeld ?_ (hy := fun w hS => by (have hc : w.cell? ⟨d, 6, none⟩ = some (J I (co : Int)) := (hS.cell (b := d) (o := 6) (by omega) (show ¬ d = x.L by omega)).trans ((OH.out.cell 6).trans rfl); go_simp))
     have hS := (Chg.refl (fun k => k = x.L) wr).drew
     have hF := (Chg.refl (fun _ => False) wr).drew
     generalize World.drew _ = wk at hS hF ⊢
     refine wpAnyH_ready (rs := [1]) (by kernel_rfl) (by simp) ?_
     refine AllReadyH.cons (o := _) rfl (fun K' hK => ?_) AllReadyH.nil
     go_simp
     refine (HLG.out _ (HPR.out.src.chg hF (fun h => h))).mono ?_
     rintro e5 w5 ⟨rfl, rfl⟩
     obtain ⟨wk, rfl⟩ : ∃ z, z = w5 := ⟨_, rfl⟩
     go_wp2_with fail
     refine hK _ _ hS (fun hH1 => ?_)
     clear hK K'
     try simp only [Act.put, zq1, zq2, zq3, zq4, zq5, zq6]
     refine wpAnyH_ready (rs := [4]) (by kernel_rfl) (by simp) ?_
     refine AllReadyH.cons (o := _) rfl (fun K' hK => ?_) AllReadyH.nil
     go_simp
     refine (HNW.out _ (HPR.out.led.chg hF (fun h => h))).mono ?_
     rintro e5 w5 ⟨P, B, g, rfl, hL5, hP5, hP1, hB1, hg1, hC5⟩
     go_wp2_with fail
     have hS2 := hS.trans hC5
     refine hK _ _ hS2 (fun hH2 => ?_)
     clear hK K'
     try simp only [Act.put, zq1, zq2, zq3, zq4, zq5, zq6]
     refine zt 5 (.tuple #[Y (some ⟨P, 0, none⟩), J I 0]) rfl hH2 ?_
     refine zt 6 (Y (some ⟨P, 0, none⟩)) rfl hH2 ?_
     refine zt 7 (J I 0) rfl hH2 ?_
     refine zt 8 (Y (some ⟨P, 0, none⟩)) rfl hH2 ?_
     refine zt 9 (J I 0) rfl hH2 ?_
     refine wpAnyH_done (by kernel_rfl) ?_ _
     refine NoPanic.normal ?_
     have HP1 := Hi (show Pair w5 X x (l.take (4 * (co : Int))).1 from ⟨(HPR.out.src.chg hF (fun h => h)).chg hC5 HPR.out.src.ne, hL5⟩)
     have OF := Hi (hS2.obj OF.out (show ¬ d + 1 = x.L by omega))
     have OH := Hi (hS2.obj OH.out (show ¬ d = x.L by omega))
     have CH := Hi (CH.out.trans (hS2.mono (fun k _ hk => Or.inr hk)))
     have hFs := hF.size
     have HPA := Hi hP5
     have lP := hP5.lt
     have lB := hP5.buf.lt
     have lg : g < w5.heap.size := hP5.buf.glt rfl
     clear hS hF hS2 hC5 hL5 hP5
     obtain ⟨l1, hl1⟩ : ∃ l1, (l.take (4 * (co : Int))).1 = l1 := ⟨_, rfl⟩
     rw [hl1] at HP1
     have HL1 := Hi hl1
     clear hl1
     have dP : d + 1 < P := by omega
     have dB : d + 1 < B := by omega
     have dg : d + 1 < g := by omega
     obtain ⟨R, hR⟩ : ∃ R, palR 3 ⟨B, ⟨x.L, g, aI (4 * co), true⟩, 0, co⟩ x l1 co = R := ⟨_, rfl⟩
     have HRE := Hi hR
     have HRD := Hi (fun w0 (hA : PalAt w0 P ⟨B, ⟨x.L, g, aI (4 * co), true⟩, 0, co⟩) (hX : Pair w0 X x l1) => (pread_any P X ⟨B, ⟨x.L, g, aI (4 * co), true⟩, 0, co⟩ x l1 co 3 w0 (by omega) hA hX (by show 0 + co ≤ co; omega) (by omega) (by omega) (by show B ≠ X; omega) (by show B ≠ x.L; omega) (by show g ≠ X; omega) (by show g ≠ x.L; omega)).mono (R' := fun e w' =>
      e = .returned (J I (if R.2 = true then 0 else 5)) ∧ PalAt w' P R.1.1 ∧ Pair w' X R.1.2.1 R.1.2.2 ∧ Chg (fun k => k = P ∨ k = g ∨ k = X ∨ k = x.L) w0 w') fun e w' hh => by rw [hR] at hh; exact hh)
     have c6 := (OH.out.cell 6).trans (show _ = some (J I (co : Int)) from rfl)
     have HRB := Hi (palR_keep 3 ⟨B, ⟨x.L, g, aI (4 * co), true⟩, 0, co⟩ x l1 co)
     rw [hR] at HRB
     clear hR
     cases hok : R.2 with
     | true =>
       have HRD := Hi (fun w0 hA hX => (HRD.out w0 hA hX).mono (R' := fun e w' => e = .returned (J I 0) ∧ PalAt w' P R.1.1 ∧ Pair w' X R.1.2.1 R.1.2.2 ∧ Chg (fun k => k = P ∨ k = g ∨ k = X ∨ k = x.L) w0 w') fun e w' hh => by rw [hok, if_pos rfl] at hh; exact hh)
       have HOK := Hi hok
       clear hok
       go_wp2_with (first
        | ((go_at_call 130; (with_reducible refine (HRD.out _ HPA.out HP1.out).mono ?_); rintro e w6 ⟨rfl, hA6, hX6, hC6⟩); have HPA := Hi hA6; have HP1 := Hi hX6; have OF := Hi (hC6.obj OF.out (show ¬ (d + 1 = P ∨ d + 1 = g ∨ d + 1 = X ∨ d + 1 = x.L) by omega)); have CH := Hi ((CH.out.mono (S' := fun k => two X x k ∨ d + 1 < k) (fun k _ hk => Or.inl hk)).trans (hC6.mono (fun k _ hk => by (have hk2 : k = P ∨ k = g ∨ k = X ∨ k = x.L := hk; show (k = X ∨ k = x.L) ∨ d + 1 < k; omega)))); clear hA6 hX6 hC6)
        | (refine so 31 3 (d + 1) [J I 0, J I 0, J I 0] OF.out ?_; intro ws hst hO; have OF := Hi hO; have HP1 := Hi (HP1.out.into hst (by omega) (by rw [HRB.out.2.2.2.2]; omega)); have hcs := Stored.chgS (S := fun k => k = d + 1) hst (Chg.refl _ w6) (Or.inl rfl); have HPA := Hi (HPA.out.chg hcs (show ¬ P = d + 1 by omega) (by rw [HRB.out.1]; show ¬ B = d + 1; omega) (by rw [HRB.out.2.1]; show ¬ g = d + 1; omega)); have CH := Hi (Stored.chgS hst CH.out (Or.inr (by have := HDe.out; omega))); clear hst hO hcs))
       refine bodyPost_ret (v := .tuple #[Y (some ⟨P, 0, none⟩), .agg (List.toArray [J I 0, J I 0, J I 0])]) ?_ rfl ?_
       · exact aa Tryz.results83 _ _ _ [J I 0, J I 0, J I 0] _ rfl OF.out.range0 Tryz.underlying31 rfl (by kernel_rfl)
       · have hwd := HDe.out
         unfold Table8Post
         rw [if_neg (by rw [HT.out]; decide), HL1.out]
         refine ⟨P, B, g, by omega, by omega, by omega, CH.out.mono (fun k hk hh => ?_), ?_⟩
         · rcases hh with hh | hh
           · exact hh
           · omega
         · rw [HRE.out, if_pos HOK.out]
           exact ⟨rfl, HPA.out, HP1.out⟩
     | false =>
       have HRD := Hi (fun w0 hA hX => (HRD.out w0 hA hX).mono (R' := fun e w' => e = .returned (J I 5) ∧ PalAt w' P R.1.1 ∧ Pair w' X R.1.2.1 R.1.2.2 ∧ Chg (fun k => k = P ∨ k = g ∨ k = X ∨ k = x.L) w0 w') fun e w' hh => by rw [hok, if_neg (by decide)] at hh; exact hh)
       have HOK := Hi hok
       clear hok
       have HFR := Hi (fun w0 (hA : PalAt w0 P R.1.1) (hX : Pair w0 X R.1.2.1 R.1.2.2) => (pfree_any P R.1.1 R.1.2.2 w0 hA (by
        have e1 : R.1.1.b.L = x.L := HRB.out.2.2.1
        have e2 : R.1.2.1.L = x.L := HRB.out.2.2.2.2
        rw [e1, ← e2]; exact hX.led)).mono (R' := fun e w' => (∃ b, e = .returned (.bool b)) ∧ LedAt w' x.L (R.1.2.2.give (4 * co : Nat)).1 ∧ Chg (fun k => k = P ∨ k = B ∨ k = x.L) w0 w') fun e w' hh => by
         have e1 : R.1.1.b.L = x.L := HRB.out.2.2.1
         have e3 : R.1.1.B = B := HRB.out.1
         have e4 : R.1.1.most = co := HRB.out.2.2.2.1
         rw [e1, e3, e4] at hh
         exact hh)
       obtain ⟨y, hy⟩ : ∃ y, R.1.2.1 = y := ⟨_, rfl⟩
       have HYE := Hi hy
       have HYL := Hi (show y.L = x.L by rw [← hy]; exact HRB.out.2.2.2.2)
       rw [hy] at HRD HFR
       clear hy
       go_upto_region 13 with (first
        | ((go_at_call 130; (with_reducible refine (HRD.out _ HPA.out HP1.out).mono ?_); rintro e w6 ⟨rfl, hA6, hX6, hC6⟩); have HPA := Hi hA6; have HP1 := Hi hX6; have OF := Hi (hC6.obj OF.out (show ¬ (d + 1 = P ∨ d + 1 = g ∨ d + 1 = X ∨ d + 1 = x.L) by omega)); have CH := Hi ((CH.out.mono (S' := fun k => two X x k ∨ d + 1 < k) (fun k _ hk => Or.inl hk)).trans (hC6.mono (fun k _ hk => by (have hk2 : k = P ∨ k = g ∨ k = X ∨ k = x.L := hk; show (k = X ∨ k = x.L) ∨ d + 1 < k; omega)))); clear hA6 hX6 hC6)
        | ((go_at_call 84; (with_reducible refine (HFR.out _ HPA.out HP1.out).mono ?_); rintro e w7 ⟨⟨fb, rfl⟩, hL7, hC7⟩); have HP1 := Hi (show Pair w7 X y (R.1.2.2.give (4 * co : Nat)).1 from ⟨HP1.out.src.chg hC7 (show ¬ (X = P ∨ X = B ∨ X = x.L) by omega), by rw [HYL.out]; exact hL7⟩); have OF := Hi (hC7.obj OF.out (show ¬ (d + 1 = P ∨ d + 1 = B ∨ d + 1 = x.L) by omega)); have CH := Hi (CH.out.trans (hC7.mono (fun k _ hk => by (have hk2 : k = P ∨ k = B ∨ k = x.L := hk; show (k = X ∨ k = x.L) ∨ d + 1 < k; omega)))); clear hL7 hC7))
       obtain ⟨l4, hl4⟩ : ∃ l4, (R.1.2.2.give (4 * co : Nat)).1 = l4 := ⟨_, rfl⟩
       rw [hl4] at HP1
       have HL4 := Hi hl4
       clear hl4 HFR HRD
       have hyne : y.L = x.L := HYL.out
       have HFT := Hi (fun w0 (h0 : Pair w0 X (y) (l4)) => fault8_any X (y) (l4) f w0 h0)
       go_wp2_with (first
        | ((go_at_call 37; (with_reducible refine (HFT.out _ HP1.out).mono ?_); rintro e w9 ⟨rfl, hb⟩); have OF := Hi (OF.out.below hb OF.out.lt); have CH := Hi (CH.out.trans (aB hb _)); have HP1 := Hi (HP1.out.upon hb HP1.out.src.lt HP1.out.led.lt); clear hb)
        | (refine store_o rfl 31 3 _ _ rfl (d + 1) (aK (y) (l4) f) (aV _ _ _) (faultL_one _ _ _) (by kernel_rfl) (by kernel_rfl) (by kernel_rfl) OF.out (by first | rfl | simp) ?_; intro ws hst hO; have OF := Hi hO; have HP1 := Hi (HP1.out.into hst (by omega) (by omega)); have CH := Hi (Stored.chgS hst CH.out (Or.inr (by have := HDe.out; omega))); clear hst hO))
       refine bodyPost_ret (v := .tuple #[Y none, .agg (aK (y) (l4) f).toArray]) ?_ rfl ?_
       · exact aa Tryz.results83 _ _ _ (aK (y) (l4) f) _ rfl OF.out.range0 Tryz.underlying31 rfl (by rw [aV]; kernel_rfl)
       · have hwd := HDe.out
         unfold Table8Post
         rw [if_neg (by rw [HT.out]; decide), HL1.out]
         refine ⟨P, B, g, by omega, by omega, by omega, CH.out.mono (fun k hk hh => ?_), ?_⟩
         · rcases hh with hh | hh
           · exact hh
           · omega
         · rw [HRE.out, if_neg (by rw [HOK.out]; decide), HL4.out, show R.1.2.1 = y from HYE.out]
           exact ⟨rfl, HP1.out⟩
 · have HEN := Hi (fun w0 => (HEN.out w0).mono (R' := fun e w' => e = .returned (J I 4) ∧ Below w0.heap.size w0 w') fun e w' hh => by rw [if_neg hs] at hh; exact hh)
   rw [if_neg hs]
   clear hs
   go_enter Tryz.func83, Tryz.ntmps83
   go_upto_region 1 with (fail)
   clear hd
   generalize World.alloc _ _ = wr at OH OF CH HPR ⊢
   have c4 := (OH.out.cell 4).trans (show _ = some (J I dp) from rfl)
   go_upto_region 8 with (first
    | (refine aL (by kernel_rfl) 63 16 _ rfl d [J I sz, J I W, J I H, .bool top, J I dp, J I mt, J I co, J I k0, J I k1, J I k2, J I k3, J I k4, J I k5, J I k6, J I k7, J I fr] rfl rfl OH.out Tryz.underlying63 rfl (by kernel_rfl) ?_; intro _)
    | ((go_at_call 26; (with_reducible refine (HEN.out _).mono ?_); rintro e w2 ⟨rfl, hb⟩); have OH := Hi (OH.out.below hb OH.out.lt); have OF := Hi (OF.out.below hb OF.out.lt); have CH := Hi (CH.out.trans (aB hb _)); have HPR := Hi (HPR.out.upon hb HPR.out.src.lt HPR.out.led.lt); have ld := OF.out.lt; clear hb))
   clear c4
   obtain ⟨wr, rfl⟩ : ∃ z, z = w2 := ⟨_, rfl⟩
   have lds := OF.out.lt
   cases ht : (l.take (4 * (co : Int))).2 with
   | false =>
    as_aux_lemma =>
     have HNW := Hi (fun w0 (hL : LedAt w0 x.L l) => (HNW.out w0 hL).mono (R' := fun e w' => e = .returned (.tuple #[Y none, J I 4]) ∧ LedAt w' x.L (l.take (4 * (co : Int))).1 ∧ Chg (· = x.L) w0 w') fun e w' hh => by rw [if_pos ht] at hh; exact ⟨hh.1.1, hh.1.2, hh.2⟩)
     have HT := Hi ht
     clear ht
     refine wp_region_noPanic ?_
     refine wp_region_held_drew (S := fun w' => Chg (fun k => k = x.L) wr w') (by kernel_rfl) (Chg.refl _ _).drew (fun hHeld => ?_)
     refine za 0 (Y (some ⟨X, 0, none⟩)) rfl hHeld ?_
     refine za 2 (Y (some ⟨d, 6, none⟩)) rfl hHeld ?_
     refine zt 3 (J I (co : Int)) rfl hHeld ?_ (hy := fun w hS => by (have hc : w.cell? ⟨d, 6, none⟩ = some (J I (co : Int)) := (hS.cell (b := d) (o := 6) (by omega) (show ¬ d = x.L by omega)).trans ((OH.out.cell 6).trans rfl); go_simp))
     have hS := (Chg.refl (fun k => k = x.L) wr).drew
     have hF := (Chg.refl (fun _ => False) wr).drew
     generalize World.drew _ = wk at hS hF ⊢
     refine wpAnyH_ready (rs := [1]) (by kernel_rfl) (by simp) ?_
     refine AllReadyH.cons (o := _) rfl (fun K' hK => ?_) AllReadyH.nil
     go_simp
     refine (HLG.out _ (HPR.out.src.chg hF (fun h => h))).mono ?_
     rintro e5 w5 ⟨rfl, rfl⟩
     obtain ⟨wk, rfl⟩ : ∃ z, z = w5 := ⟨_, rfl⟩
     go_wp2_with fail
     refine hK _ _ hS (fun hH1 => ?_)
     clear hK K'
     try simp only [Act.put, zq1, zq2, zq3, zq4, zq5, zq6]
     refine wpAnyH_ready (rs := [4]) (by kernel_rfl) (by simp) ?_
     refine AllReadyH.cons (o := _) rfl (fun K' hK => ?_) AllReadyH.nil
     go_simp
     refine (HNW.out _ (HPR.out.led.chg hF (fun h => h))).mono ?_
     rintro e5 w5 ⟨rfl, hL5, hC5⟩
     go_wp2_with fail
     have hS2 := hS.trans hC5
     refine hK _ _ hS2 (fun hH2 => ?_)
     clear hK K'
     try simp only [Act.put, zq1, zq2, zq3, zq4, zq5, zq6]
     refine zt 5 (.tuple #[Y none, J I 4]) rfl hH2 ?_
     refine zt 6 (Y none) rfl hH2 ?_
     refine zt 7 (J I 4) rfl hH2 ?_
     refine zt 8 (Y none) rfl hH2 ?_
     refine zt 9 (J I 4) rfl hH2 ?_
     refine wpAnyH_done (by kernel_rfl) ?_ _
     refine NoPanic.normal ?_
     have HP1 := Hi (show Pair w5 X x (l.take (4 * (co : Int))).1 from ⟨(HPR.out.src.chg hF (fun h => h)).chg hC5 HPR.out.src.ne, hL5⟩)
     have OF := Hi (hS2.obj OF.out (show ¬ d + 1 = x.L by omega))
     have CH := Hi (CH.out.trans (hS2.mono (fun k _ hk => Or.inr hk)))
     clear hS hF hS2 hC5 hL5
     obtain ⟨l1, hl1⟩ : ∃ l1, (l.take (4 * (co : Int))).1 = l1 := ⟨_, rfl⟩
     rw [hl1] at HP1
     have HL1 := Hi hl1
     clear hl1
     have HFT := Hi (fun w0 (h0 : Pair w0 X (x) (l1)) => fault8_any X (x) (l1) f w0 h0)
     go_wp2_with (first
      | ((go_at_call 37; (with_reducible refine (HFT.out _ HP1.out).mono ?_); rintro e w9 ⟨rfl, hb⟩); have OF := Hi (OF.out.below hb OF.out.lt); have CH := Hi (CH.out.trans (aB hb _)); have HP1 := Hi (HP1.out.upon hb HP1.out.src.lt HP1.out.led.lt); clear hb)
      | (refine store_o rfl 31 3 _ _ rfl (d + 1) (aK (x) (l1) f) (aV _ _ _) (faultL_one _ _ _) (by kernel_rfl) (by kernel_rfl) (by kernel_rfl) OF.out (by first | rfl | simp) ?_; intro ws hst hO; have OF := Hi hO; have HP1 := Hi (HP1.out.into hst (by omega) (by omega)); have CH := Hi (Stored.chgS hst CH.out (Or.inr (by have := HDe.out; omega))); clear hst hO))
     refine bodyPost_ret (v := .tuple #[Y none, .agg (aK (x) (l1) f).toArray]) ?_ rfl ?_
     · exact aa Tryz.results83 _ _ _ (aK (x) (l1) f) _ rfl OF.out.range0 Tryz.underlying31 rfl (by rw [aV]; kernel_rfl)
     · unfold Table8Post
       rw [if_pos HT.out, HL1.out]
       exact ⟨rfl, HP1.out, CH.out⟩
   | true =>
    as_aux_lemma =>
     have HNW := Hi (fun w0 (hL : LedAt w0 x.L l) => (HNW.out w0 hL).mono (R' := fun e w' => ∃ P B g, e = .returned (.tuple #[Y (some ⟨P, 0, none⟩), J I 0]) ∧ LedAt w' x.L (l.take (4 * (co : Int))).1 ∧ PalAt w' P ⟨B, ⟨x.L, g, aI (4 * co), true⟩, 0, co⟩ ∧ w0.heap.size ≤ P ∧ w0.heap.size ≤ B ∧ w0.heap.size ≤ g ∧ Chg (· = x.L) w0 w') fun e w' hh => by
      rw [if_neg (by rw [ht]; decide)] at hh
      obtain ⟨⟨P, B, g, h1, h2, h3, h4, h5, h6⟩, h7⟩ := hh
      exact ⟨P, B, g, h1, h2, h3, h4, h5, h6, h7⟩)
     have HT := Hi ht
     clear ht
     refine wp_region_noPanic ?_
     refine wp_region_held_drew (S := fun w' => Chg (fun k => k = x.L) wr w') (by kernel_rfl) (Chg.refl _ _).drew (fun hHeld => ?_)
     refine za 0 (Y (some ⟨X, 0, none⟩)) rfl hHeld ?_
     refine za 2 (Y (some ⟨d, 6, none⟩)) rfl hHeld ?_
     refine zt 3 (J I (co : Int)) rfl hHeld ?_ (hy := fun w hS => by (have hc : w.cell? ⟨d, 6, none⟩ = some (J I (co : Int)) := (hS.cell (b := d) (o := 6) (by omega) (show ¬ d = x.L by omega)).trans ((OH.out.cell 6).trans rfl); go_simp))
     have hS := (Chg.refl (fun k => k = x.L) wr).drew
     have hF := (Chg.refl (fun _ => False) wr).drew
     generalize World.drew _ = wk at hS hF ⊢
     refine wpAnyH_ready (rs := [1]) (by kernel_rfl) (by simp) ?_
     refine AllReadyH.cons (o := _) rfl (fun K' hK => ?_) AllReadyH.nil
     go_simp
     refine (HLG.out _ (HPR.out.src.chg hF (fun h => h))).mono ?_
     rintro e5 w5 ⟨rfl, rfl⟩
     obtain ⟨wk, rfl⟩ : ∃ z, z = w5 := ⟨_, rfl⟩
     go_wp2_with fail
     refine hK _ _ hS (fun hH1 => ?_)
     clear hK K'
     try simp only [Act.put, zq1, zq2, zq3, zq4, zq5, zq6]
     refine wpAnyH_ready (rs := [4]) (by kernel_rfl) (by simp) ?_
     refine AllReadyH.cons (o := _) rfl (fun K' hK => ?_) AllReadyH.nil
     go_simp
     refine (HNW.out _ (HPR.out.led.chg hF (fun h => h))).mono ?_
     rintro e5 w5 ⟨P, B, g, rfl, hL5, hP5, hP1, hB1, hg1, hC5⟩
     go_wp2_with fail
     have hS2 := hS.trans hC5
     refine hK _ _ hS2 (fun hH2 => ?_)
     clear hK K'
     try simp only [Act.put, zq1, zq2, zq3, zq4, zq5, zq6]
     refine zt 5 (.tuple #[Y (some ⟨P, 0, none⟩), J I 0]) rfl hH2 ?_
     refine zt 6 (Y (some ⟨P, 0, none⟩)) rfl hH2 ?_
     refine zt 7 (J I 0) rfl hH2 ?_
     refine zt 8 (Y (some ⟨P, 0, none⟩)) rfl hH2 ?_
     refine zt 9 (J I 0) rfl hH2 ?_
     refine wpAnyH_done (by kernel_rfl) ?_ _
     refine NoPanic.normal ?_
     have HP1 := Hi (show Pair w5 X x (l.take (4 * (co : Int))).1 from ⟨(HPR.out.src.chg hF (fun h => h)).chg hC5 HPR.out.src.ne, hL5⟩)
     have OF := Hi (hS2.obj OF.out (show ¬ d + 1 = x.L by omega))
     have OH := Hi (hS2.obj OH.out (show ¬ d = x.L by omega))
     have CH := Hi (CH.out.trans (hS2.mono (fun k _ hk => Or.inr hk)))
     have hFs := hF.size
     have HPA := Hi hP5
     have lP := hP5.lt
     have lB := hP5.buf.lt
     have lg : g < w5.heap.size := hP5.buf.glt rfl
     clear hS hF hS2 hC5 hL5 hP5
     obtain ⟨l1, hl1⟩ : ∃ l1, (l.take (4 * (co : Int))).1 = l1 := ⟨_, rfl⟩
     rw [hl1] at HP1
     have HL1 := Hi hl1
     clear hl1
     have dP : d + 1 < P := by omega
     have dB : d + 1 < B := by omega
     have dg : d + 1 < g := by omega
     obtain ⟨R, hR⟩ : ∃ R, palR 4 ⟨B, ⟨x.L, g, aI (4 * co), true⟩, 0, co⟩ x l1 co = R := ⟨_, rfl⟩
     have HRE := Hi hR
     have HRD := Hi (fun w0 (hA : PalAt w0 P ⟨B, ⟨x.L, g, aI (4 * co), true⟩, 0, co⟩) (hX : Pair w0 X x l1) => (pread_any P X ⟨B, ⟨x.L, g, aI (4 * co), true⟩, 0, co⟩ x l1 co 4 w0 (by omega) hA hX (by show 0 + co ≤ co; omega) (by omega) (by omega) (by show B ≠ X; omega) (by show B ≠ x.L; omega) (by show g ≠ X; omega) (by show g ≠ x.L; omega)).mono (R' := fun e w' =>
      e = .returned (J I (if R.2 = true then 0 else 5)) ∧ PalAt w' P R.1.1 ∧ Pair w' X R.1.2.1 R.1.2.2 ∧ Chg (fun k => k = P ∨ k = g ∨ k = X ∨ k = x.L) w0 w') fun e w' hh => by rw [hR] at hh; exact hh)
     have c6 := (OH.out.cell 6).trans (show _ = some (J I (co : Int)) from rfl)
     have HRB := Hi (palR_keep 4 ⟨B, ⟨x.L, g, aI (4 * co), true⟩, 0, co⟩ x l1 co)
     rw [hR] at HRB
     clear hR
     cases hok : R.2 with
     | true =>
       have HRD := Hi (fun w0 hA hX => (HRD.out w0 hA hX).mono (R' := fun e w' => e = .returned (J I 0) ∧ PalAt w' P R.1.1 ∧ Pair w' X R.1.2.1 R.1.2.2 ∧ Chg (fun k => k = P ∨ k = g ∨ k = X ∨ k = x.L) w0 w') fun e w' hh => by rw [hok, if_pos rfl] at hh; exact hh)
       have HOK := Hi hok
       clear hok
       go_wp2_with (first
        | ((go_at_call 130; (with_reducible refine (HRD.out _ HPA.out HP1.out).mono ?_); rintro e w6 ⟨rfl, hA6, hX6, hC6⟩); have HPA := Hi hA6; have HP1 := Hi hX6; have OF := Hi (hC6.obj OF.out (show ¬ (d + 1 = P ∨ d + 1 = g ∨ d + 1 = X ∨ d + 1 = x.L) by omega)); have CH := Hi ((CH.out.mono (S' := fun k => two X x k ∨ d + 1 < k) (fun k _ hk => Or.inl hk)).trans (hC6.mono (fun k _ hk => by (have hk2 : k = P ∨ k = g ∨ k = X ∨ k = x.L := hk; show (k = X ∨ k = x.L) ∨ d + 1 < k; omega)))); clear hA6 hX6 hC6)
        | (refine so 31 3 (d + 1) [J I 0, J I 0, J I 0] OF.out ?_; intro ws hst hO; have OF := Hi hO; have HP1 := Hi (HP1.out.into hst (by omega) (by rw [HRB.out.2.2.2.2]; omega)); have hcs := Stored.chgS (S := fun k => k = d + 1) hst (Chg.refl _ w6) (Or.inl rfl); have HPA := Hi (HPA.out.chg hcs (show ¬ P = d + 1 by omega) (by rw [HRB.out.1]; show ¬ B = d + 1; omega) (by rw [HRB.out.2.1]; show ¬ g = d + 1; omega)); have CH := Hi (Stored.chgS hst CH.out (Or.inr (by have := HDe.out; omega))); clear hst hO hcs))
       refine bodyPost_ret (v := .tuple #[Y (some ⟨P, 0, none⟩), .agg (List.toArray [J I 0, J I 0, J I 0])]) ?_ rfl ?_
       · exact aa Tryz.results83 _ _ _ [J I 0, J I 0, J I 0] _ rfl OF.out.range0 Tryz.underlying31 rfl (by kernel_rfl)
       · have hwd := HDe.out
         unfold Table8Post
         rw [if_neg (by rw [HT.out]; decide), HL1.out]
         refine ⟨P, B, g, by omega, by omega, by omega, CH.out.mono (fun k hk hh => ?_), ?_⟩
         · rcases hh with hh | hh
           · exact hh
           · omega
         · rw [HRE.out, if_pos HOK.out]
           exact ⟨rfl, HPA.out, HP1.out⟩
     | false =>
       have HRD := Hi (fun w0 hA hX => (HRD.out w0 hA hX).mono (R' := fun e w' => e = .returned (J I 5) ∧ PalAt w' P R.1.1 ∧ Pair w' X R.1.2.1 R.1.2.2 ∧ Chg (fun k => k = P ∨ k = g ∨ k = X ∨ k = x.L) w0 w') fun e w' hh => by rw [hok, if_neg (by decide)] at hh; exact hh)
       have HOK := Hi hok
       clear hok
       have HFR := Hi (fun w0 (hA : PalAt w0 P R.1.1) (hX : Pair w0 X R.1.2.1 R.1.2.2) => (pfree_any P R.1.1 R.1.2.2 w0 hA (by
        have e1 : R.1.1.b.L = x.L := HRB.out.2.2.1
        have e2 : R.1.2.1.L = x.L := HRB.out.2.2.2.2
        rw [e1, ← e2]; exact hX.led)).mono (R' := fun e w' => (∃ b, e = .returned (.bool b)) ∧ LedAt w' x.L (R.1.2.2.give (4 * co : Nat)).1 ∧ Chg (fun k => k = P ∨ k = B ∨ k = x.L) w0 w') fun e w' hh => by
         have e1 : R.1.1.b.L = x.L := HRB.out.2.2.1
         have e3 : R.1.1.B = B := HRB.out.1
         have e4 : R.1.1.most = co := HRB.out.2.2.2.1
         rw [e1, e3, e4] at hh
         exact hh)
       obtain ⟨y, hy⟩ : ∃ y, R.1.2.1 = y := ⟨_, rfl⟩
       have HYE := Hi hy
       have HYL := Hi (show y.L = x.L by rw [← hy]; exact HRB.out.2.2.2.2)
       rw [hy] at HRD HFR
       clear hy
       go_upto_region 13 with (first
        | ((go_at_call 130; (with_reducible refine (HRD.out _ HPA.out HP1.out).mono ?_); rintro e w6 ⟨rfl, hA6, hX6, hC6⟩); have HPA := Hi hA6; have HP1 := Hi hX6; have OF := Hi (hC6.obj OF.out (show ¬ (d + 1 = P ∨ d + 1 = g ∨ d + 1 = X ∨ d + 1 = x.L) by omega)); have CH := Hi ((CH.out.mono (S' := fun k => two X x k ∨ d + 1 < k) (fun k _ hk => Or.inl hk)).trans (hC6.mono (fun k _ hk => by (have hk2 : k = P ∨ k = g ∨ k = X ∨ k = x.L := hk; show (k = X ∨ k = x.L) ∨ d + 1 < k; omega)))); clear hA6 hX6 hC6)
        | ((go_at_call 84; (with_reducible refine (HFR.out _ HPA.out HP1.out).mono ?_); rintro e w7 ⟨⟨fb, rfl⟩, hL7, hC7⟩); have HP1 := Hi (show Pair w7 X y (R.1.2.2.give (4 * co : Nat)).1 from ⟨HP1.out.src.chg hC7 (show ¬ (X = P ∨ X = B ∨ X = x.L) by omega), by rw [HYL.out]; exact hL7⟩); have OF := Hi (hC7.obj OF.out (show ¬ (d + 1 = P ∨ d + 1 = B ∨ d + 1 = x.L) by omega)); have CH := Hi (CH.out.trans (hC7.mono (fun k _ hk => by (have hk2 : k = P ∨ k = B ∨ k = x.L := hk; show (k = X ∨ k = x.L) ∨ d + 1 < k; omega)))); clear hL7 hC7))
       obtain ⟨l4, hl4⟩ : ∃ l4, (R.1.2.2.give (4 * co : Nat)).1 = l4 := ⟨_, rfl⟩
       rw [hl4] at HP1
       have HL4 := Hi hl4
       clear hl4 HFR HRD
       have hyne : y.L = x.L := HYL.out
       have HFT := Hi (fun w0 (h0 : Pair w0 X (y) (l4)) => fault8_any X (y) (l4) f w0 h0)
       go_wp2_with (first
        | ((go_at_call 37; (with_reducible refine (HFT.out _ HP1.out).mono ?_); rintro e w9 ⟨rfl, hb⟩); have OF := Hi (OF.out.below hb OF.out.lt); have CH := Hi (CH.out.trans (aB hb _)); have HP1 := Hi (HP1.out.upon hb HP1.out.src.lt HP1.out.led.lt); clear hb)
        | (refine store_o rfl 31 3 _ _ rfl (d + 1) (aK (y) (l4) f) (aV _ _ _) (faultL_one _ _ _) (by kernel_rfl) (by kernel_rfl) (by kernel_rfl) OF.out (by first | rfl | simp) ?_; intro ws hst hO; have OF := Hi hO; have HP1 := Hi (HP1.out.into hst (by omega) (by omega)); have CH := Hi (Stored.chgS hst CH.out (Or.inr (by have := HDe.out; omega))); clear hst hO))
       refine bodyPost_ret (v := .tuple #[Y none, .agg (aK (y) (l4) f).toArray]) ?_ rfl ?_
       · exact aa Tryz.results83 _ _ _ (aK (y) (l4) f) _ rfl OF.out.range0 Tryz.underlying31 rfl (by rw [aV]; kernel_rfl)
       · have hwd := HDe.out
         unfold Table8Post
         rw [if_neg (by rw [HT.out]; decide), HL1.out]
         refine ⟨P, B, g, by omega, by omega, by omega, CH.out.mono (fun k hk hh => ?_), ?_⟩
         · rcases hh with hh | hh
           · exact hh
           · omega
         · rw [HRE.out, if_neg (by rw [HOK.out]; decide), HL4.out, show R.1.2.1 = y from HYE.out]
           exact ⟨rfl, HP1.out⟩
end Go.Proofs.YtfchnibjjokmbaaGreat

/- Parts. -/
import Derived.Test.YtfchnibjjokmbaaGreatK15
set_option linter.all false
set_option maxRecDepth 100000
set_option maxHeartbeats 16000000
open Go.Value renaming int → J, pointer → Y
open Go.IntKind renaming i64 → I, u8 → U
namespace Go.Proofs.YtfchnibjjokmbaaGreat
open Go.RowKit
def QK.wcol (K : QK) (v : Int) : C4 := (chI (K.m 0) (K.m 1) v 0, chI (K.m 2) (K.m 3) v 0, chI (K.m 4) (K.m 5) v 0, chI (K.m 6) (K.m 7) v 255)
def QK.wz (K : QK) : Nat := if K.dp = 32 then 4 else 2
def QK.wordB (K : QK) (τ : QS) (v : Int) (ok : Bool) : QS × (C4 × (Int × Int)) := if ok = true then (τ, (K.wcol v, (0, 0))) else (τ, (c4z, K.ft τ.l τ.a))
def QK.word (K : QK) (σ : QS) : QS × (C4 × (Int × Int)) := K.wordB (K.next σ K.wz).1 (numB (K.next σ K.wz).2.1 true) (K.next σ K.wz).2.2
def c4t (s : ByteArray) : C4 := (aG s 2, aG s 1, aG s 0, 255)
def QK.thrB (K : QK) (τ : QS) (s : ByteArray) (ok : Bool) : QS × (C4 × (Int × Int)) := if ok = true then (τ, (c4t s, (0, 0))) else (τ, (c4z, K.ft τ.l τ.a))
def QK.thr (K : QK) (σ : QS) : QS × (C4 × (Int × Int)) := K.thrB (K.next σ 3).1 (K.next σ 3).2.1 (K.next σ 3).2.2
structure QOk (K : QK) : Prop where
 k0 : okM (K.m 0) (K.m 1)
 k1 : okM (K.m 2) (K.m 3)
 k2 : okM (K.m 4) (K.m 5)
 k3 : okM (K.m 6) (K.m 7)
theorem qcol_any (K : QK) (v : Int) (w : World) (h : QOk K) : Calls Tryz.prog 199 #[.agg (List.toArray K.ml), J I v] w fun e w' => e = .returned (.agg (c4v (K.wcol v)).toArray) ∧ Below w.heap.size w w' :=
 color_any _ _ _ _ _ _ _ _ v w h.k0 h.k1 h.k2 h.k3
theorem qword_any (N : Nat) (K : QK) (σ : QS) (w : World) (h : QAt w N K σ) (hdd : K.dp = 16 ∨ K.dp = 32) (hk : QOk K) : Calls Tryz.prog 173 #[Y (some ⟨N, 0, none⟩)] w fun e w' =>
 e = .returned (pxv K.f (K.word σ).2) ∧ QAt w' N K (K.word σ).1 ∧ Chg (qS K) w w' := by
 have hC := ((Chg.refl (fun _ => False) w).alloc (.cells #[J U 0, J U 0, J U 0, J U 0] 104)).alloc (.cells #[J I 0, J I 0, J I 0] 31)
 have OC := Hi ((aA w #[J U 0, J U 0, J U 0, J U 0] 104).alloc (.cells #[J I 0, J I 0, J I 0] 31))
 have OF := Hi (aA (w.alloc (.cells #[J U 0, J U 0, J U 0, J U 0] 104)) #[J I 0, J I 0, J I 0] 31)
 obtain ⟨d, hd⟩ : ∃ d, w.heap.size = d := ⟨_, rfl⟩
 have HDe := Hi hd
 rw [show (w.alloc (.cells #[J U 0, J U 0, J U 0, J U 0] 104)).heap.size = d + 1 by rw [← hd]; simp] at OF
 rw [hd] at OC
 have JA := Hi (h.keep hC)
 have CH := Hi (hC.mono (S' := qS K) (fun _ _ h => h.elim))
 have JL := Hi h.jlt
 rw [hd] at JL
 have HFA := Hi (fun w0 (τ : QS) (h0 : QAt w0 N K τ) => qfault_any N K τ w0 h0)
 have HCO := Hi (fun w0 v => qcol_any K v w0 hk)
 have HLE := Hi (show (K.dp = 16 → ∀ w0, QAt w0 N K σ → Calls Tryz.prog 197 #[Y (some ⟨K.X, 0, none⟩)] w0 fun e w' => e = .returned (.tuple #[J I (numB (K.next σ K.wz).2.1 true), .bool (K.next σ K.wz).2.2]) ∧ QAt w' N K (K.next σ K.wz).1 ∧ Chg (qS K) w0 w') ∧ (K.dp = 32 → ∀ w0, QAt w0 N K σ → Calls Tryz.prog 198 #[Y (some ⟨K.X, 0, none⟩)] w0 fun e w' => e = .returned (.tuple #[J I (numB (K.next σ K.wz).2.1 true), .bool (K.next σ K.wz).2.2]) ∧ QAt w' N K (K.next σ K.wz).1 ∧ Chg (qS K) w0 w') from
  ⟨fun e w0 h0 => by rw [show K.wz = 2 by unfold QK.wz; rw [e]; rfl]; exact qle16_any N K σ w0 h0, fun e w0 h0 => by rw [show K.wz = 4 by unfold QK.wz; rw [e]; rfl]; exact qle32_any N K σ w0 h0⟩)
 obtain ⟨τ, hτ⟩ : ∃ τ, (K.next σ K.wz).1 = τ := ⟨_, rfl⟩
 obtain ⟨v, hv⟩ : ∃ v, numB (K.next σ K.wz).2.1 true = v := ⟨_, rfl⟩
 obtain ⟨ok, hok⟩ : ∃ b, (K.next σ K.wz).2.2 = b := ⟨_, rfl⟩
 have HR := Hi (show K.word σ = K.wordB τ v ok by unfold QK.word; rw [hτ, hv, hok])
 rw [hτ, hv, hok] at HLE
 clear h hk hC hτ hv hok
 rcases hdd with hdd | hdd
 · have HLE := Hi (HLE.out.1 hdd)
   have HDP := Hi (show (K.dp : Int) = 16 by rw [hdd]; rfl)
   have HDP2 := Hi (show (K.dp == 16) = true by rw [hdd]; rfl)
   clear hdd
   go_enter Tryz.func173, Tryz.ntmps173
   go_upto_region 1 with (fail)
   clear hd
   generalize World.alloc _ _ = wr at OC OF JA CH ⊢
   have k0 := JA.out.cell 0 (Y (some ⟨K.X, 0, none⟩)) rfl
   have k6 := JA.out.cell 6 (J I 16) (by rw [← HDP.out]; rfl)
   cases ok with
   | false =>
     have HR := Hi (show K.word σ = (τ, (c4z, K.ft τ.l τ.a)) by rw [HR.out]; exact if_neg (by decide))
     go_upto_region 6 with (first
      | ((go_at_call 197; (with_reducible refine (HLE.out _ JA.out).mono ?_); rintro e wv ⟨rfl, hj1, hc1⟩); have JA := Hi hj1; have OC := Hi (hc1.obj OC.out (not_qS JL.out (by omega))); have OF := Hi (hc1.obj OF.out (not_qS JL.out (by omega))); have CH := Hi (CH.out.trans hc1); clear hj1 hc1))
     clear k0 k6
     refine wp_region_noPanic ?_
     refine wp_region_held_drew (S := fun w' => Chg (fun k => k = d ∨ k = d + 1) wv w') (by kernel_rfl) (Chg.refl _ _).drew (fun hHeld => ?_)
     refine zt 0 (.agg #[J U 0, J U 0, J U 0, J U 0]) rfl hHeld ?_
     refine za 1 (Y (some ⟨N, 0, none⟩)) rfl hHeld ?_
     refine za 2 (Y (some ⟨N, 0, none⟩)) rfl hHeld ?_
     refine za 3 (Y (some ⟨N, 0, none⟩)) rfl hHeld ?_
     refine zt 4 (Y (some ⟨K.X, 0, none⟩)) rfl hHeld ?_ (hy := fun w hS => by (have hc : w.cell? ⟨N, 0, none⟩ = some (Y (some ⟨K.X, 0, none⟩)) := (hS.cell (b := N) (o := 0) JA.out.rw_.lt (show ¬ (N = d ∨ N = d + 1) by have := JL.out.n; omega)).trans (JA.out.cell 0 (Y (some ⟨K.X, 0, none⟩)) rfl); go_simp))
     refine za 5 (Y (some ⟨N, 0, none⟩)) rfl hHeld ?_
     refine za 6 (Y (some ⟨N, 0, none⟩)) rfl hHeld ?_
     refine za 7 (Y (some ⟨N, 27, none⟩)) rfl hHeld ?_
     refine zt 8 (J I K.f) rfl hHeld ?_ (hy := fun w hS => by (have hc : w.cell? ⟨N, 27, none⟩ = some (J I K.f) := (hS.cell (b := N) (o := 27) JA.out.rw_.lt (show ¬ (N = d ∨ N = d + 1) by have := JL.out.n; omega)).trans (JA.out.cell 27 (J I K.f) rfl); go_simp))
     have hS := (Chg.refl (fun k => k = d ∨ k = d + 1) wv).drew
     have hF := (Chg.refl (fun _ => False) wv).drew
     generalize World.drew _ = wk at hS hF ⊢
     have JA := Hi (JA.out.keep hF)
     have OC := Hi (hF.obj OC.out (fun h => h))
     have OF := Hi (hF.obj OF.out (fun h => h))
     refine wpAnyH_ready (rs := [9]) (by kernel_rfl) (by simp) ?_
     refine AllReadyH.cons (o := _) rfl (fun K' hK => ?_) AllReadyH.nil
     go_simp
     with_reducible refine (HFA.out _ _ JA.out).mono ?_
     rintro e6 w6 ⟨rfl, hb6⟩
     have JA := Hi (JA.out.below hb6)
     have OC := Hi (OC.out.below hb6 OC.out.lt)
     have OF := Hi (OF.out.below hb6 OF.out.lt)
     have hS := hS.trans (aB hb6 _)
     go_wp2_with fail
     refine hK _ _ hS (fun hH2 => ?_)
     clear hK K'
     try simp only [Act.put, zq1, zq2, zq3, zq4, zq5, zq6]
     refine wpAnyH_ready (rs := [10]) (by kernel_rfl) (by simp) ?_
     refine AllReadyH.cons (o := _) rfl (fun K' hK => ?_) AllReadyH.nil
     rw [if_pos (by rfl)]
     refine wp_store_mid 104 _ _ rfl (d) 0 (c4v c4z).toArray rfl rfl (by have := OC.out.there 0 4 (by simp); simpa [c4v_len, fc_len] using this) (by first | kernel_rfl) (by have := c4v_one c4z; simpa using this) ?_
     simp only [Act.put, zq1, zq2, zq3, zq4, zq5, zq6]
     have hst : Stored w6 (d) 0 (c4v c4z) (w6.setCells (d) 0 (c4v c4z)) := rfl
     have OC := Hi (hst.whole OC.out rfl)
     have OF := Hi (hst.oth OF.out (by omega))
     have JA := Hi (JA.out.stored JL.out hst (by omega))
     have hS := Stored.chgS hst hS (Or.inl (by first | exact Or.inl rfl | exact Or.inr rfl))
     generalize World.setCells _ _ _ _ = w7 at JA hS OC OF ⊢
     clear hst
     refine hK _ _ hS (fun hH3 => ?_)
     clear hK K'
     try simp only [Act.put, zq1, zq2, zq3, zq4, zq5, zq6]
     refine wpAnyH_ready (rs := [11]) (by kernel_rfl) (by simp) ?_
     refine AllReadyH.cons (o := _) rfl (fun K' hK => ?_) AllReadyH.nil
     rw [if_pos (by rfl)]
     refine wp_store_mid 31 _ _ rfl (d + 1) 0 (fc K.f (K.ft τ.l τ.a)).toArray rfl rfl (by have := OF.out.there 0 3 (by simp); simpa [c4v_len, fc_len] using this) (by first | kernel_rfl) (by have := fc_one K.f (K.ft τ.l τ.a); simpa using this) ?_
     simp only [Act.put, zq1, zq2, zq3, zq4, zq5, zq6]
     have hst : Stored w7 (d + 1) 0 (fc K.f (K.ft τ.l τ.a)) (w7.setCells (d + 1) 0 (fc K.f (K.ft τ.l τ.a))) := rfl
     have OF := Hi (hst.whole OF.out rfl)
     have OC := Hi (hst.oth OC.out (by omega))
     have JA := Hi (JA.out.stored JL.out hst (by omega))
     have hS := Stored.chgS hst hS (Or.inl (by first | exact Or.inl rfl | exact Or.inr rfl))
     generalize World.setCells _ _ _ _ = w8 at JA hS OC OF ⊢
     clear hst
     refine hK _ _ hS (fun hH4 => ?_)
     clear hK K'
     try simp only [Act.put, zq1, zq2, zq3, zq4, zq5, zq6]
     refine wpAnyH_done (by kernel_rfl) ?_ _
     refine NoPanic.normal ?_
     have CH := Hi (CH.out.after hS (fun k hk hk2 => by have := HDe.out; rcases hk2 with hk2 | hk2 <;> omega))
     go_wp2_with fail
     refine bodyPost_ret (v := .tuple #[.agg (c4v c4z).toArray, .agg (fc K.f (K.ft τ.l τ.a)).toArray]) ?_ rfl ⟨by rw [HR.out]; rfl, by rw [HR.out]; exact JA.out, CH.out⟩
     exact aQ Tryz.results173 _ _ _ _ (c4v c4z) (fc K.f (K.ft τ.l τ.a)) _ _ rfl OC.out.range0 Tryz.underlying104 rfl (by kernel_rfl) rfl OF.out.range0 Tryz.underlying31 rfl (by kernel_rfl)
   | true =>
     have HR := Hi (show K.word σ = (τ, (K.wcol v, (0, 0))) by rw [HR.out]; exact if_pos rfl)
     go_upto_region 7 with (first
      | ((go_at_call 197; (with_reducible refine (HLE.out _ JA.out).mono ?_); rintro e wv ⟨rfl, hj1, hc1⟩); have JA := Hi hj1; have OC := Hi (hc1.obj OC.out (not_qS JL.out (by omega))); have OF := Hi (hc1.obj OF.out (not_qS JL.out (by omega))); have CH := Hi (CH.out.trans hc1); clear hj1 hc1))
     clear k0 k6
     have k0 := JA.out.cell 0 (Y (some ⟨K.X, 0, none⟩)) rfl
     go_wp2_with (refine load_ag (by kernel_rfl) 61 _ rfl N 19 K.ml rfl JA.out.rw_ rfl Tryz.underlying61 rfl (by kernel_rfl) ?_; intro _)
     with_reducible refine (HCO.out _ v).mono ?_
     rintro e w6 ⟨rfl, hb⟩
     have JA := Hi (JA.out.below hb)
     have OC := Hi (OC.out.below hb OC.out.lt)
     have OF := Hi (OF.out.below hb OF.out.lt)
     have CH := Hi (CH.out.trans (aB hb _))
     clear hb
     go_wp2_with (first
      | (refine so 104 4 (d) (c4v (K.wcol v)) OC.out ?_; intro ws hst hO; have OC := Hi hO; have JA := Hi (JA.out.stored JL.out hst (by omega)); have OF := Hi (hst.oth OF.out (by omega)); have CH := Hi (Stored.chgS hst CH.out (Or.inr (by have := HDe.out; omega))); clear hst hO)
      | (refine so 31 3 ((d + 1)) (fc K.f (0, 0)) OF.out ?_; intro ws hst hO; have OF := Hi hO; have JA := Hi (JA.out.stored JL.out hst (by omega)); have OC := Hi (hst.oth OC.out (by omega)); have CH := Hi (Stored.chgS hst CH.out (Or.inr (by have := HDe.out; omega))); clear hst hO))
     refine bodyPost_ret (v := .tuple #[.agg (c4v (K.wcol v)).toArray, .agg (fc K.f (0, 0)).toArray]) ?_ rfl ⟨by rw [HR.out]; rfl, by rw [HR.out]; exact JA.out, CH.out⟩
     exact aQ Tryz.results173 _ _ _ _ (c4v (K.wcol v)) (fc K.f (0, 0)) _ _ rfl OC.out.range0 Tryz.underlying104 rfl (by kernel_rfl) rfl OF.out.range0 Tryz.underlying31 rfl (by kernel_rfl)
 · have HLE := Hi (HLE.out.2 hdd)
   have HDP := Hi (show (K.dp : Int) = 32 by rw [hdd]; rfl)
   have HDP2 := Hi (show (K.dp == 32) = true by rw [hdd]; rfl)
   clear hdd
   go_enter Tryz.func173, Tryz.ntmps173
   go_upto_region 1 with (fail)
   clear hd
   generalize World.alloc _ _ = wr at OC OF JA CH ⊢
   have k0 := JA.out.cell 0 (Y (some ⟨K.X, 0, none⟩)) rfl
   have k6 := JA.out.cell 6 (J I 32) (by rw [← HDP.out]; rfl)
   cases ok with
   | false =>
     have HR := Hi (show K.word σ = (τ, (c4z, K.ft τ.l τ.a)) by rw [HR.out]; exact if_neg (by decide))
     go_upto_region 6 with (first
      | ((go_at_call 198; (with_reducible refine (HLE.out _ JA.out).mono ?_); rintro e wv ⟨rfl, hj1, hc1⟩); have JA := Hi hj1; have OC := Hi (hc1.obj OC.out (not_qS JL.out (by omega))); have OF := Hi (hc1.obj OF.out (not_qS JL.out (by omega))); have CH := Hi (CH.out.trans hc1); clear hj1 hc1))
     clear k0 k6
     refine wp_region_noPanic ?_
     refine wp_region_held_drew (S := fun w' => Chg (fun k => k = d ∨ k = d + 1) wv w') (by kernel_rfl) (Chg.refl _ _).drew (fun hHeld => ?_)
     refine zt 0 (.agg #[J U 0, J U 0, J U 0, J U 0]) rfl hHeld ?_
     refine za 1 (Y (some ⟨N, 0, none⟩)) rfl hHeld ?_
     refine za 2 (Y (some ⟨N, 0, none⟩)) rfl hHeld ?_
     refine za 3 (Y (some ⟨N, 0, none⟩)) rfl hHeld ?_
     refine zt 4 (Y (some ⟨K.X, 0, none⟩)) rfl hHeld ?_ (hy := fun w hS => by (have hc : w.cell? ⟨N, 0, none⟩ = some (Y (some ⟨K.X, 0, none⟩)) := (hS.cell (b := N) (o := 0) JA.out.rw_.lt (show ¬ (N = d ∨ N = d + 1) by have := JL.out.n; omega)).trans (JA.out.cell 0 (Y (some ⟨K.X, 0, none⟩)) rfl); go_simp))
     refine za 5 (Y (some ⟨N, 0, none⟩)) rfl hHeld ?_
     refine za 6 (Y (some ⟨N, 0, none⟩)) rfl hHeld ?_
     refine za 7 (Y (some ⟨N, 27, none⟩)) rfl hHeld ?_
     refine zt 8 (J I K.f) rfl hHeld ?_ (hy := fun w hS => by (have hc : w.cell? ⟨N, 27, none⟩ = some (J I K.f) := (hS.cell (b := N) (o := 27) JA.out.rw_.lt (show ¬ (N = d ∨ N = d + 1) by have := JL.out.n; omega)).trans (JA.out.cell 27 (J I K.f) rfl); go_simp))
     have hS := (Chg.refl (fun k => k = d ∨ k = d + 1) wv).drew
     have hF := (Chg.refl (fun _ => False) wv).drew
     generalize World.drew _ = wk at hS hF ⊢
     have JA := Hi (JA.out.keep hF)
     have OC := Hi (hF.obj OC.out (fun h => h))
     have OF := Hi (hF.obj OF.out (fun h => h))
     refine wpAnyH_ready (rs := [9]) (by kernel_rfl) (by simp) ?_
     refine AllReadyH.cons (o := _) rfl (fun K' hK => ?_) AllReadyH.nil
     go_simp
     with_reducible refine (HFA.out _ _ JA.out).mono ?_
     rintro e6 w6 ⟨rfl, hb6⟩
     have JA := Hi (JA.out.below hb6)
     have OC := Hi (OC.out.below hb6 OC.out.lt)
     have OF := Hi (OF.out.below hb6 OF.out.lt)
     have hS := hS.trans (aB hb6 _)
     go_wp2_with fail
     refine hK _ _ hS (fun hH2 => ?_)
     clear hK K'
     try simp only [Act.put, zq1, zq2, zq3, zq4, zq5, zq6]
     refine wpAnyH_ready (rs := [10]) (by kernel_rfl) (by simp) ?_
     refine AllReadyH.cons (o := _) rfl (fun K' hK => ?_) AllReadyH.nil
     rw [if_pos (by rfl)]
     refine wp_store_mid 104 _ _ rfl (d) 0 (c4v c4z).toArray rfl rfl (by have := OC.out.there 0 4 (by simp); simpa [c4v_len, fc_len] using this) (by first | kernel_rfl) (by have := c4v_one c4z; simpa using this) ?_
     simp only [Act.put, zq1, zq2, zq3, zq4, zq5, zq6]
     have hst : Stored w6 (d) 0 (c4v c4z) (w6.setCells (d) 0 (c4v c4z)) := rfl
     have OC := Hi (hst.whole OC.out rfl)
     have OF := Hi (hst.oth OF.out (by omega))
     have JA := Hi (JA.out.stored JL.out hst (by omega))
     have hS := Stored.chgS hst hS (Or.inl (by first | exact Or.inl rfl | exact Or.inr rfl))
     generalize World.setCells _ _ _ _ = w7 at JA hS OC OF ⊢
     clear hst
     refine hK _ _ hS (fun hH3 => ?_)
     clear hK K'
     try simp only [Act.put, zq1, zq2, zq3, zq4, zq5, zq6]
     refine wpAnyH_ready (rs := [11]) (by kernel_rfl) (by simp) ?_
     refine AllReadyH.cons (o := _) rfl (fun K' hK => ?_) AllReadyH.nil
     rw [if_pos (by rfl)]
     refine wp_store_mid 31 _ _ rfl (d + 1) 0 (fc K.f (K.ft τ.l τ.a)).toArray rfl rfl (by have := OF.out.there 0 3 (by simp); simpa [c4v_len, fc_len] using this) (by first | kernel_rfl) (by have := fc_one K.f (K.ft τ.l τ.a); simpa using this) ?_
     simp only [Act.put, zq1, zq2, zq3, zq4, zq5, zq6]
     have hst : Stored w7 (d + 1) 0 (fc K.f (K.ft τ.l τ.a)) (w7.setCells (d + 1) 0 (fc K.f (K.ft τ.l τ.a))) := rfl
     have OF := Hi (hst.whole OF.out rfl)
     have OC := Hi (hst.oth OC.out (by omega))
     have JA := Hi (JA.out.stored JL.out hst (by omega))
     have hS := Stored.chgS hst hS (Or.inl (by first | exact Or.inl rfl | exact Or.inr rfl))
     generalize World.setCells _ _ _ _ = w8 at JA hS OC OF ⊢
     clear hst
     refine hK _ _ hS (fun hH4 => ?_)
     clear hK K'
     try simp only [Act.put, zq1, zq2, zq3, zq4, zq5, zq6]
     refine wpAnyH_done (by kernel_rfl) ?_ _
     refine NoPanic.normal ?_
     have CH := Hi (CH.out.after hS (fun k hk hk2 => by have := HDe.out; rcases hk2 with hk2 | hk2 <;> omega))
     go_wp2_with fail
     refine bodyPost_ret (v := .tuple #[.agg (c4v c4z).toArray, .agg (fc K.f (K.ft τ.l τ.a)).toArray]) ?_ rfl ⟨by rw [HR.out]; rfl, by rw [HR.out]; exact JA.out, CH.out⟩
     exact aQ Tryz.results173 _ _ _ _ (c4v c4z) (fc K.f (K.ft τ.l τ.a)) _ _ rfl OC.out.range0 Tryz.underlying104 rfl (by kernel_rfl) rfl OF.out.range0 Tryz.underlying31 rfl (by kernel_rfl)
   | true =>
     have HR := Hi (show K.word σ = (τ, (K.wcol v, (0, 0))) by rw [HR.out]; exact if_pos rfl)
     go_upto_region 7 with (first
      | ((go_at_call 198; (with_reducible refine (HLE.out _ JA.out).mono ?_); rintro e wv ⟨rfl, hj1, hc1⟩); have JA := Hi hj1; have OC := Hi (hc1.obj OC.out (not_qS JL.out (by omega))); have OF := Hi (hc1.obj OF.out (not_qS JL.out (by omega))); have CH := Hi (CH.out.trans hc1); clear hj1 hc1))
     clear k0 k6
     have k0 := JA.out.cell 0 (Y (some ⟨K.X, 0, none⟩)) rfl
     go_wp2_with (refine load_ag (by kernel_rfl) 61 _ rfl N 19 K.ml rfl JA.out.rw_ rfl Tryz.underlying61 rfl (by kernel_rfl) ?_; intro _)
     with_reducible refine (HCO.out _ v).mono ?_
     rintro e w6 ⟨rfl, hb⟩
     have JA := Hi (JA.out.below hb)
     have OC := Hi (OC.out.below hb OC.out.lt)
     have OF := Hi (OF.out.below hb OF.out.lt)
     have CH := Hi (CH.out.trans (aB hb _))
     clear hb
     go_wp2_with (first
      | (refine so 104 4 (d) (c4v (K.wcol v)) OC.out ?_; intro ws hst hO; have OC := Hi hO; have JA := Hi (JA.out.stored JL.out hst (by omega)); have OF := Hi (hst.oth OF.out (by omega)); have CH := Hi (Stored.chgS hst CH.out (Or.inr (by have := HDe.out; omega))); clear hst hO)
      | (refine so 31 3 ((d + 1)) (fc K.f (0, 0)) OF.out ?_; intro ws hst hO; have OF := Hi hO; have JA := Hi (JA.out.stored JL.out hst (by omega)); have OC := Hi (hst.oth OC.out (by omega)); have CH := Hi (Stored.chgS hst CH.out (Or.inr (by have := HDe.out; omega))); clear hst hO))
     refine bodyPost_ret (v := .tuple #[.agg (c4v (K.wcol v)).toArray, .agg (fc K.f (0, 0)).toArray]) ?_ rfl ⟨by rw [HR.out]; rfl, by rw [HR.out]; exact JA.out, CH.out⟩
     exact aQ Tryz.results173 _ _ _ _ (c4v (K.wcol v)) (fc K.f (0, 0)) _ _ rfl OC.out.range0 Tryz.underlying104 rfl (by kernel_rfl) rfl OF.out.range0 Tryz.underlying31 rfl (by kernel_rfl)
theorem qnext_size {w : World} {N : Nat} {K : QK} {σ : QS} (h : QAt w N K σ) (n : Nat) (hk : (K.next σ n).2.2 = true) : (K.next σ n).2.1.size = n := by
 have hes : K.x.e ≤ K.x.s.size := h.pr.src.ok.es
 have hpe : σ.a ≤ K.x.e := h.pr.src.ok.pe
 unfold QK.next at hk ⊢
 by_cases hc : (σ.l.work 1).2 = true ∧ n ≤ K.x.e - σ.a
 · rw [if_pos hc]
   have h2 := hc.2
   show (K.x.s.extract σ.a (σ.a + n)).size = n
   rw [ByteArray.size_extract]; omega
 · rw [if_neg hc] at hk; cases hk
theorem qthr_any (N : Nat) (K : QK) (σ : QS) (w : World) (h : QAt w N K σ) : Calls Tryz.prog 174 #[Y (some ⟨N, 0, none⟩)] w fun e w' =>
 e = .returned (pxv K.f (K.thr σ).2) ∧ QAt w' N K (K.thr σ).1 ∧ Chg (qS K) w w' := by
 have hC := ((Chg.refl (fun _ => False) w).alloc (.cells #[J U 0, J U 0, J U 0, J U 0] 104)).alloc (.cells #[J I 0, J I 0, J I 0] 31)
 have OC := Hi ((aA w #[J U 0, J U 0, J U 0, J U 0] 104).alloc (.cells #[J I 0, J I 0, J I 0] 31))
 have OF := Hi (aA (w.alloc (.cells #[J U 0, J U 0, J U 0, J U 0] 104)) #[J I 0, J I 0, J I 0] 31)
 obtain ⟨d, hd⟩ : ∃ d, w.heap.size = d := ⟨_, rfl⟩
 have HDe := Hi hd
 rw [show (w.alloc (.cells #[J U 0, J U 0, J U 0, J U 0] 104)).heap.size = d + 1 by rw [← hd]; simp] at OF
 rw [hd] at OC
 have JA := Hi (h.keep hC)
 have CH := Hi (hC.mono (S' := qS K) (fun _ _ h => h.elim))
 have JL := Hi h.jlt
 rw [hd] at JL
 have HFA := Hi (fun w0 (τ : QS) (h0 : QAt w0 N K τ) => qfault_any N K τ w0 h0)
 have HTK := Hi (fun w0 (h0 : QAt w0 N K σ) => (show Calls Tryz.prog 57 #[Y (some ⟨K.X, 0, none⟩), J I 3] w0 fun e w' => e = .returned (.tuple #[.string (K.next σ 3).2.1, .bool (K.next σ 3).2.2]) ∧ QAt w' N K (K.next σ 3).1 ∧ Chg (qS K) w0 w' from qtake_any N K σ 3 w0 h0))
 have HZ3 := Hi (fun (e : (K.next σ 3).2.2 = true) => (qnext_size h 3 e))
 obtain ⟨τ, hτ⟩ : ∃ τ, (K.next σ 3).1 = τ := ⟨_, rfl⟩
 obtain ⟨v, hv⟩ : ∃ v, (K.next σ 3).2.1 = v := ⟨_, rfl⟩
 obtain ⟨ok, hok⟩ : ∃ b, (K.next σ 3).2.2 = b := ⟨_, rfl⟩
 have HR := Hi (show K.thr σ = K.thrB τ v ok by unfold QK.thr; rw [hτ, hv, hok])
 rw [hτ, hv, hok] at HTK
 rw [hv, hok] at HZ3
 clear h hC hτ hv hok
 go_enter Tryz.func174, Tryz.ntmps174
 go_upto_region 1 with (fail)
 clear hd
 generalize World.alloc _ _ = wr at OC OF JA CH ⊢
 have k0 := JA.out.cell 0 (Y (some ⟨K.X, 0, none⟩)) rfl
 cases ok with
 | false =>
   have HR := Hi (show K.thr σ = (τ, (c4z, K.ft τ.l τ.a)) by rw [HR.out]; exact if_neg (by decide))
   go_upto_region 3 with (first
    | ((go_at_call 57; (with_reducible refine (HTK.out _ JA.out).mono ?_); rintro e wv ⟨rfl, hj1, hc1⟩); have JA := Hi hj1; have OC := Hi (hc1.obj OC.out (not_qS JL.out (by omega))); have OF := Hi (hc1.obj OF.out (not_qS JL.out (by omega))); have CH := Hi (CH.out.trans hc1); clear hj1 hc1))
   clear k0
   refine wp_region_noPanic ?_
   refine wp_region_held_drew (S := fun w' => Chg (fun k => k = d ∨ k = d + 1) wv w') (by kernel_rfl) (Chg.refl _ _).drew (fun hHeld => ?_)
   refine zt 0 (.agg #[J U 0, J U 0, J U 0, J U 0]) rfl hHeld ?_
   refine za 1 (Y (some ⟨N, 0, none⟩)) rfl hHeld ?_
   refine za 2 (Y (some ⟨N, 0, none⟩)) rfl hHeld ?_
   refine za 3 (Y (some ⟨N, 0, none⟩)) rfl hHeld ?_
   refine zt 4 (Y (some ⟨K.X, 0, none⟩)) rfl hHeld ?_ (hy := fun w hS => by (have hc : w.cell? ⟨N, 0, none⟩ = some (Y (some ⟨K.X, 0, none⟩)) := (hS.cell (b := N) (o := 0) JA.out.rw_.lt (show ¬ (N = d ∨ N = d + 1) by have := JL.out.n; omega)).trans (JA.out.cell 0 (Y (some ⟨K.X, 0, none⟩)) rfl); go_simp))
   refine za 5 (Y (some ⟨N, 0, none⟩)) rfl hHeld ?_
   refine za 6 (Y (some ⟨N, 0, none⟩)) rfl hHeld ?_
   refine za 7 (Y (some ⟨N, 27, none⟩)) rfl hHeld ?_
   refine zt 8 (J I K.f) rfl hHeld ?_ (hy := fun w hS => by (have hc : w.cell? ⟨N, 27, none⟩ = some (J I K.f) := (hS.cell (b := N) (o := 27) JA.out.rw_.lt (show ¬ (N = d ∨ N = d + 1) by have := JL.out.n; omega)).trans (JA.out.cell 27 (J I K.f) rfl); go_simp))
   have hS := (Chg.refl (fun k => k = d ∨ k = d + 1) wv).drew
   have hF := (Chg.refl (fun _ => False) wv).drew
   generalize World.drew _ = wk at hS hF ⊢
   have JA := Hi (JA.out.keep hF)
   have OC := Hi (hF.obj OC.out (fun h => h))
   have OF := Hi (hF.obj OF.out (fun h => h))
   refine wpAnyH_ready (rs := [9]) (by kernel_rfl) (by simp) ?_
   refine AllReadyH.cons (o := _) rfl (fun K' hK => ?_) AllReadyH.nil
   go_simp
   with_reducible refine (HFA.out _ _ JA.out).mono ?_
   rintro e6 w6 ⟨rfl, hb6⟩
   have JA := Hi (JA.out.below hb6)
   have OC := Hi (OC.out.below hb6 OC.out.lt)
   have OF := Hi (OF.out.below hb6 OF.out.lt)
   have hS := hS.trans (aB hb6 _)
   go_wp2_with fail
   refine hK _ _ hS (fun hH2 => ?_)
   clear hK K'
   try simp only [Act.put, zq1, zq2, zq3, zq4, zq5, zq6]
   refine wpAnyH_ready (rs := [10]) (by kernel_rfl) (by simp) ?_
   refine AllReadyH.cons (o := _) rfl (fun K' hK => ?_) AllReadyH.nil
   rw [if_pos (by rfl)]
   refine wp_store_mid 104 _ _ rfl (d) 0 (c4v c4z).toArray rfl rfl (by have := OC.out.there 0 4 (by simp); simpa [c4v_len, fc_len] using this) (by first | kernel_rfl) (by have := c4v_one c4z; simpa using this) ?_
   simp only [Act.put, zq1, zq2, zq3, zq4, zq5, zq6]
   have hst : Stored w6 (d) 0 (c4v c4z) (w6.setCells (d) 0 (c4v c4z)) := rfl
   have OC := Hi (hst.whole OC.out rfl)
   have OF := Hi (hst.oth OF.out (by omega))
   have JA := Hi (JA.out.stored JL.out hst (by omega))
   have hS := Stored.chgS hst hS (Or.inl (by first | exact Or.inl rfl | exact Or.inr rfl))
   generalize World.setCells _ _ _ _ = w7 at JA hS OC OF ⊢
   clear hst
   refine hK _ _ hS (fun hH3 => ?_)
   clear hK K'
   try simp only [Act.put, zq1, zq2, zq3, zq4, zq5, zq6]
   refine wpAnyH_ready (rs := [11]) (by kernel_rfl) (by simp) ?_
   refine AllReadyH.cons (o := _) rfl (fun K' hK => ?_) AllReadyH.nil
   rw [if_pos (by rfl)]
   refine wp_store_mid 31 _ _ rfl (d + 1) 0 (fc K.f (K.ft τ.l τ.a)).toArray rfl rfl (by have := OF.out.there 0 3 (by simp); simpa [c4v_len, fc_len] using this) (by first | kernel_rfl) (by have := fc_one K.f (K.ft τ.l τ.a); simpa using this) ?_
   simp only [Act.put, zq1, zq2, zq3, zq4, zq5, zq6]
   have hst : Stored w7 (d + 1) 0 (fc K.f (K.ft τ.l τ.a)) (w7.setCells (d + 1) 0 (fc K.f (K.ft τ.l τ.a))) := rfl
   have OF := Hi (hst.whole OF.out rfl)
   have OC := Hi (hst.oth OC.out (by omega))
   have JA := Hi (JA.out.stored JL.out hst (by omega))
   have hS := Stored.chgS hst hS (Or.inl (by first | exact Or.inl rfl | exact Or.inr rfl))
   generalize World.setCells _ _ _ _ = w8 at JA hS OC OF ⊢
   clear hst
   refine hK _ _ hS (fun hH4 => ?_)
   clear hK K'
   try simp only [Act.put, zq1, zq2, zq3, zq4, zq5, zq6]
   refine wpAnyH_done (by kernel_rfl) ?_ _
   refine NoPanic.normal ?_
   have CH := Hi (CH.out.after hS (fun k hk hk2 => by have := HDe.out; rcases hk2 with hk2 | hk2 <;> omega))
   go_wp2_with fail
   refine bodyPost_ret (v := .tuple #[.agg (c4v c4z).toArray, .agg (fc K.f (K.ft τ.l τ.a)).toArray]) ?_ rfl ⟨by rw [HR.out]; rfl, by rw [HR.out]; exact JA.out, CH.out⟩
   exact aQ Tryz.results174 _ _ _ _ (c4v c4z) (fc K.f (K.ft τ.l τ.a)) _ _ rfl OC.out.range0 Tryz.underlying104 rfl (by kernel_rfl) rfl OF.out.range0 Tryz.underlying31 rfl (by kernel_rfl)
 | true =>
   have HR := Hi (show K.thr σ = (τ, (c4t v, (0, 0))) by rw [HR.out]; exact if_pos rfl)
   have HEN := Hi (fun w0 => (show Calls Tryz.prog 167 #[.string v, J I 3] w0 fun e w' => e = .returned (.tuple #[.agg (c4v (c4t v)).toArray, .bool true]) ∧ Chg (fun _ => False) w0 w' from pentry_any v 3 w0 (Or.inl rfl) (by rw [HZ3.out rfl]; decide)))
   go_upto_region 4 with (first
    | ((go_at_call 57; (with_reducible refine (HTK.out _ JA.out).mono ?_); rintro e wv ⟨rfl, hj1, hc1⟩); have JA := Hi hj1; have OC := Hi (hc1.obj OC.out (not_qS JL.out (by omega))); have OF := Hi (hc1.obj OF.out (not_qS JL.out (by omega))); have CH := Hi (CH.out.trans hc1); clear hj1 hc1))
   clear k0
   go_wp2_with fail
   with_reducible refine (HEN.out _).mono ?_
   rintro e w6 ⟨rfl, hc⟩
   have JA := Hi (JA.out.keep hc)
   have OC := Hi (hc.obj OC.out (fun h => h))
   have OF := Hi (hc.obj OF.out (fun h => h))
   have CH := Hi (CH.out.trans (hc.mono (fun _ _ h => h.elim)))
   clear hc
   obtain ⟨dv, hdv⟩ : ∃ b, w6.heap.size = b := ⟨_, rfl⟩
   have lzdv := OF.out.lt
   have OV := Hi (aA w6 #[J U 0, J U 0, J U 0, J U 0] 104)
   rw [hdv] at OV lzdv
   have JA := Hi (JA.out.alloc (.cells #[J U 0, J U 0, J U 0, J U 0] 104))
   have CH := Hi (CH.out.alloc (.cells #[J U 0, J U 0, J U 0, J U 0] 104))
   have OC := Hi (OC.out.alloc (.cells #[J U 0, J U 0, J U 0, J U 0] 104))
   have OF := Hi (OF.out.alloc (.cells #[J U 0, J U 0, J U 0, J U 0] 104))
   go_upto_region 5 with (first
    | (refine so 104 4 (dv) (c4v (c4t v)) OV.out ?_; intro ws hst hO; have OV := Hi hO; have JA := Hi (JA.out.stored JL.out hst (by omega)); have OC := Hi (hst.oth OC.out (by omega)); have OF := Hi (hst.oth OF.out (by omega)); have CH := Hi (Stored.chgS hst CH.out (Or.inr (by have := HDe.out; omega))); clear hst hO))
   clear hdv
   go_wp2_with (first
    | (refine aL (by kernel_rfl) 104 4 _ rfl (dv) (c4v (c4t v)) rfl rfl OV.out Tryz.underlying104 rfl (by kernel_rfl) ?_; intro _)
    | (refine so 104 4 (d) (c4v (c4t v)) OC.out ?_; intro ws hst hO; have OC := Hi hO; have JA := Hi (JA.out.stored JL.out hst (by omega)); have OF := Hi (hst.oth OF.out (by omega)); have OV := Hi (hst.oth OV.out (by omega)); have CH := Hi (Stored.chgS hst CH.out (Or.inr (by have := HDe.out; omega))); clear hst hO)
    | (refine so 31 3 ((d + 1)) (fc K.f (0, 0)) OF.out ?_; intro ws hst hO; have OF := Hi hO; have JA := Hi (JA.out.stored JL.out hst (by omega)); have OC := Hi (hst.oth OC.out (by omega)); have OV := Hi (hst.oth OV.out (by omega)); have CH := Hi (Stored.chgS hst CH.out (Or.inr (by have := HDe.out; omega))); clear hst hO))
   refine bodyPost_ret (v := .tuple #[.agg (c4v (c4t v)).toArray, .agg (fc K.f (0, 0)).toArray]) ?_ rfl ⟨by rw [HR.out]; rfl, by rw [HR.out]; exact JA.out, CH.out⟩
   exact aQ Tryz.results174 _ _ _ _ (c4v (c4t v)) (fc K.f (0, 0)) _ _ rfl OC.out.range0 Tryz.underlying104 rfl (by kernel_rfl) rfl OF.out.range0 Tryz.underlying31 rfl (by kernel_rfl)
end Go.Proofs.YtfchnibjjokmbaaGreat

/- dibrow: a pixel that is a word, or three bytes; walked. -/
import Derived.Test.YtlfbaggcfaenlaaGreatK26
import Derived.Test.YtlfbaggcfaenlaaGreatK9
import Derived.Test.YtlfbaggcfaenlaaGreatK0
namespace Go.Proofs.YtlfbaggcfaenlaaGreat
open Go.RowKit
set_option linter.unusedVariables false
set_option linter.unusedSimpArgs false
def QK.wcol (K : QK) (v : Int) : C4 := (chI (K.m 0) (K.m 1) v 0, chI (K.m 2) (K.m 3) v 0, chI (K.m 4) (K.m 5) v 0, chI (K.m 6) (K.m 7) v 255)
def QK.wz (K : QK) : Nat := if K.dp = 32 then 4 else 2
def QK.wordB (K : QK) (τ : QS) (v : Int) (ok : Bool) : QS × (C4 × (Int × Int)) := if ok = true then (τ, (K.wcol v, (0, 0))) else (τ, (c4z, K.ft τ.l τ.a))
def QK.word (K : QK) (σ : QS) : QS × (C4 × (Int × Int)) := K.wordB (K.next σ K.wz).1 (numB (K.next σ K.wz).2.1 true) (K.next σ K.wz).2.2
def c4t (s : ByteArray) : C4 := (byN s 2, byN s 1, byN s 0, 255)
def QK.thrB (K : QK) (τ : QS) (s : ByteArray) (ok : Bool) : QS × (C4 × (Int × Int)) := if ok = true then (τ, (c4t s, (0, 0))) else (τ, (c4z, K.ft τ.l τ.a))
def QK.thr (K : QK) (σ : QS) : QS × (C4 × (Int × Int)) := K.thrB (K.next σ 3).1 (K.next σ 3).2.1 (K.next σ 3).2.2
structure QOk (K : QK) : Prop where
  k0 : okM (K.m 0) (K.m 1)
  k1 : okM (K.m 2) (K.m 3)
  k2 : okM (K.m 4) (K.m 5)
  k3 : okM (K.m 6) (K.m 7)
theorem qcol_any (K : QK) (v : Int) (w : World) (h : QOk K) : Calls Tryz.prog 225 #[.agg (List.toArray K.ml), .int .i64 v] w fun e w' => e = .returned (.agg (c4v (K.wcol v)).toArray) ∧ Below w.heap.size w w' :=
  color_any _ _ _ _ _ _ _ _ v w h.k0 h.k1 h.k2 h.k3
set_option maxRecDepth 100000 in
set_option maxHeartbeats 8000000 in
theorem qword_any (N : Nat) (K : QK) (σ : QS) (w : World) (h : QAt w N K σ) (hdd : K.dp = 16 ∨ K.dp = 32) (hk : QOk K) : Calls Tryz.prog 169 #[.pointer (some ⟨N, 0, none⟩)] w fun e w' =>
    e = .returned (pxv K.f (K.word σ).2) ∧ QAt w' N K (K.word σ).1 ∧ Chg (qS K) w w' := by
  have hC := ((Chg.refl (fun _ => False) w).alloc (.cells #[.int .u8 0, .int .u8 0, .int .u8 0, .int .u8 0] 185)).alloc (.cells #[.int .i64 0, .int .i64 0, .int .i64 0] 39)
  have OC := Hi ((obj1_new w #[.int .u8 0, .int .u8 0, .int .u8 0, .int .u8 0] 185).alloc (.cells #[.int .i64 0, .int .i64 0, .int .i64 0] 39))
  have OF := Hi (obj1_new (w.alloc (.cells #[.int .u8 0, .int .u8 0, .int .u8 0, .int .u8 0] 185)) #[.int .i64 0, .int .i64 0, .int .i64 0] 39)
  obtain ⟨d, hd⟩ : ∃ d, w.heap.size = d := ⟨_, rfl⟩
  have HDe := Hi hd
  rw [show (w.alloc (.cells #[.int .u8 0, .int .u8 0, .int .u8 0, .int .u8 0] 185)).heap.size = d + 1 by rw [← hd]; simp] at OF
  rw [hd] at OC
  have JA := Hi (h.keep hC)
  have CH := Hi (hC.mono (S' := qS K) (fun _ _ h => h.elim))
  have JL := Hi h.jlt
  rw [hd] at JL
  have HFA := Hi (fun w0 (τ : QS) (h0 : QAt w0 N K τ) => qfault_any N K τ w0 h0)
  have HCO := Hi (fun w0 v => qcol_any K v w0 hk)
  have HLE := Hi (show (K.dp = 16 → ∀ w0, QAt w0 N K σ → Calls Tryz.prog 223 #[.pointer (some ⟨K.X, 0, none⟩)] w0 fun e w' => e = .returned (.tuple #[.int .i64 (numB (K.next σ K.wz).2.1 true), .bool (K.next σ K.wz).2.2]) ∧ QAt w' N K (K.next σ K.wz).1 ∧ Chg (qS K) w0 w') ∧ (K.dp = 32 → ∀ w0, QAt w0 N K σ → Calls Tryz.prog 224 #[.pointer (some ⟨K.X, 0, none⟩)] w0 fun e w' => e = .returned (.tuple #[.int .i64 (numB (K.next σ K.wz).2.1 true), .bool (K.next σ K.wz).2.2]) ∧ QAt w' N K (K.next σ K.wz).1 ∧ Chg (qS K) w0 w') from
    ⟨fun e w0 h0 => by rw [show K.wz = 2 by unfold QK.wz; rw [e]; rfl]; exact qle16_any N K σ w0 h0, fun e w0 h0 => by rw [show K.wz = 4 by unfold QK.wz; rw [e]; rfl]; exact qle32_any N K σ w0 h0⟩)
  obtain ⟨τ, hτ⟩ : ∃ τ, (K.next σ K.wz).1 = τ := ⟨_, rfl⟩
  obtain ⟨v, hv⟩ : ∃ v, numB (K.next σ K.wz).2.1 true = v := ⟨_, rfl⟩
  obtain ⟨ok, hok⟩ : ∃ b, (K.next σ K.wz).2.2 = b := ⟨_, rfl⟩
  have HR := Hi (show K.word σ = K.wordB τ v ok by unfold QK.word; rw [hτ, hv, hok])
  rw [hτ, hv, hok] at HLE
  clear h hk hC hτ hv hok
  rcases hdd with hdd | hdd
  · have HLE := Hi (HLE.out.1 hdd)
    have HDP := Hi (show (K.dp : Int) = 16 by rw [hdd]; rfl)
    have HDP2 := Hi (show (K.dp == 16) = true by rw [hdd]; rfl)
    clear hdd
    go_enter Tryz.func169, Tryz.ntmps169
    go_upto_region 1 with (fail)
    clear hd
    generalize World.alloc _ _ = wr at OC OF JA CH ⊢
    have k0 := JA.out.cell 0 (.pointer (some ⟨K.X, 0, none⟩)) rfl
    have k6 := JA.out.cell 6 (.int .i64 16) (by rw [← HDP.out]; rfl)
    cases ok with
    | false =>
      have HR := Hi (show K.word σ = (τ, (c4z, K.ft τ.l τ.a)) by rw [HR.out]; exact if_neg (by decide))
      go_upto_region 6 with (first
        | ((go_at_call 223; (with_reducible refine (HLE.out _ JA.out).mono ?_); rintro e wv ⟨rfl, hj1, hc1⟩); have JA := Hi hj1; have OC := Hi (hc1.obj OC.out (not_qS JL.out (by omega))); have OF := Hi (hc1.obj OF.out (not_qS JL.out (by omega))); have CH := Hi (CH.out.trans hc1); clear hj1 hc1))
      clear k0 k6
      refine wp_region_noPanic ?_
      refine wp_region_held_drew (S := fun w' => Chg (fun k => k = d ∨ k = d + 1) wv w') (by kernel_rfl) (Chg.refl _ _).drew (fun hHeld => ?_)
      refine wpAnyH_take (i := 0) (v := .agg #[.int .u8 0, .int .u8 0, .int .u8 0, .int .u8 0]) rfl (by kernel_rfl) (by kernel_rfl) (by kernel_rfl) (fun _ _ _ h => h) (Or.inl ⟨by rfl, fun w hS => by go_simp⟩) hHeld ?_
      simp only [Act.put, zq1, zq2, zq3, zq4, zq5, zq6]
      refine wpAnyH_take (i := 1) (v := .pointer (some ⟨N, 0, none⟩)) rfl (by kernel_rfl) (by kernel_rfl) (by kernel_rfl) (fun _ _ _ h => h) (Or.inl ⟨by rfl, fun w hS => by (go_simp) <;> first | rfl | assumption | (intro hh; exfalso; omega) | (exact (i64_wraps _ (by omega) (by omega)).trans (by omega)) | omega⟩) hHeld ?_
      simp only [Act.put, zq1, zq2, zq3, zq4, zq5, zq6]
      refine wpAnyH_take (i := 2) (v := .pointer (some ⟨N, 0, none⟩)) rfl (by kernel_rfl) (by kernel_rfl) (by kernel_rfl) (fun _ _ _ h => h) (Or.inl ⟨by rfl, fun w hS => by (go_simp) <;> first | rfl | assumption | (intro hh; exfalso; omega) | (exact (i64_wraps _ (by omega) (by omega)).trans (by omega)) | omega⟩) hHeld ?_
      simp only [Act.put, zq1, zq2, zq3, zq4, zq5, zq6]
      refine wpAnyH_take (i := 3) (v := .pointer (some ⟨N, 0, none⟩)) rfl (by kernel_rfl) (by kernel_rfl) (by kernel_rfl) (fun _ _ _ h => h) (Or.inl ⟨by rfl, fun w hS => by (go_simp) <;> first | rfl | assumption | (intro hh; exfalso; omega) | (exact (i64_wraps _ (by omega) (by omega)).trans (by omega)) | omega⟩) hHeld ?_
      simp only [Act.put, zq1, zq2, zq3, zq4, zq5, zq6]
      refine wpAnyH_take (i := 4) (v := .pointer (some ⟨K.X, 0, none⟩)) rfl (by kernel_rfl) (by kernel_rfl) (by kernel_rfl) (fun _ _ _ h => h) (Or.inl ⟨by rfl, fun w hS => by (have hc : w.cell? ⟨N, 0, none⟩ = some (.pointer (some ⟨K.X, 0, none⟩)) := (hS.cell (b := N) (o := 0) JA.out.rw_.lt (show ¬ (N = d ∨ N = d + 1) by have := JL.out.n; omega)).trans (JA.out.cell 0 (.pointer (some ⟨K.X, 0, none⟩)) rfl); go_simp)⟩) hHeld ?_
      simp only [Act.put, zq1, zq2, zq3, zq4, zq5, zq6]
      refine wpAnyH_take (i := 5) (v := .pointer (some ⟨N, 0, none⟩)) rfl (by kernel_rfl) (by kernel_rfl) (by kernel_rfl) (fun _ _ _ h => h) (Or.inl ⟨by rfl, fun w hS => by (go_simp) <;> first | rfl | assumption | (intro hh; exfalso; omega) | (exact (i64_wraps _ (by omega) (by omega)).trans (by omega)) | omega⟩) hHeld ?_
      simp only [Act.put, zq1, zq2, zq3, zq4, zq5, zq6]
      refine wpAnyH_take (i := 6) (v := .pointer (some ⟨N, 0, none⟩)) rfl (by kernel_rfl) (by kernel_rfl) (by kernel_rfl) (fun _ _ _ h => h) (Or.inl ⟨by rfl, fun w hS => by (go_simp) <;> first | rfl | assumption | (intro hh; exfalso; omega) | (exact (i64_wraps _ (by omega) (by omega)).trans (by omega)) | omega⟩) hHeld ?_
      simp only [Act.put, zq1, zq2, zq3, zq4, zq5, zq6]
      refine wpAnyH_take (i := 7) (v := .pointer (some ⟨N, 27, none⟩)) rfl (by kernel_rfl) (by kernel_rfl) (by kernel_rfl) (fun _ _ _ h => h) (Or.inl ⟨by rfl, fun w hS => by (go_simp) <;> first | rfl | assumption | (intro hh; exfalso; omega) | (exact (i64_wraps _ (by omega) (by omega)).trans (by omega)) | omega⟩) hHeld ?_
      simp only [Act.put, zq1, zq2, zq3, zq4, zq5, zq6]
      refine wpAnyH_take (i := 8) (v := .int .i64 K.f) rfl (by kernel_rfl) (by kernel_rfl) (by kernel_rfl) (fun _ _ _ h => h) (Or.inl ⟨by rfl, fun w hS => by (have hc : w.cell? ⟨N, 27, none⟩ = some (.int .i64 K.f) := (hS.cell (b := N) (o := 27) JA.out.rw_.lt (show ¬ (N = d ∨ N = d + 1) by have := JL.out.n; omega)).trans (JA.out.cell 27 (.int .i64 K.f) rfl); go_simp)⟩) hHeld ?_
      simp only [Act.put, zq1, zq2, zq3, zq4, zq5, zq6]
      have hS := (Chg.refl (fun k => k = d ∨ k = d + 1) wv).drew
      have hF := (Chg.refl (fun _ => False) wv).drew
      generalize World.drew _ = wk at hS hF ⊢
      have JA := Hi (JA.out.keep hF)
      have OC := Hi (hF.obj OC.out (fun h => h))
      have OF := Hi (hF.obj OF.out (fun h => h))
      refine wpAnyH_ready (rs := [9]) (by kernel_rfl) (by simp) ?_
      refine AllReadyH.cons (o := _) rfl (fun K' hK => ?_) AllReadyH.nil
      go_simp
      with_reducible refine (HFA.out _ _ JA.out).mono ?_
      rintro e6 w6 ⟨rfl, hb6⟩
      have JA := Hi (JA.out.below hb6)
      have OC := Hi (OC.out.below hb6 OC.out.lt)
      have OF := Hi (OF.out.below hb6 OF.out.lt)
      have hS := hS.trans (chg_of_below hb6 _)
      go_wp2_with fail
      refine hK _ _ hS (fun hH2 => ?_)
      clear hK K'
      try simp only [Act.put, zq1, zq2, zq3, zq4, zq5, zq6]
      refine wpAnyH_ready (rs := [10]) (by kernel_rfl) (by simp) ?_
      refine AllReadyH.cons (o := _) rfl (fun K' hK => ?_) AllReadyH.nil
      rw [if_pos (by rfl)]
      refine wp_store_mid 185 _ _ rfl (d) 0 (c4v c4z).toArray rfl rfl (by have := OC.out.there 0 4 (by simp); simpa [c4v_len, fc_len] using this) (by first | kernel_rfl) (by have := c4v_one c4z; simpa using this) ?_
      simp only [Act.put, zq1, zq2, zq3, zq4, zq5, zq6]
      have hst : Stored w6 (d) 0 (c4v c4z) (w6.setCells (d) 0 (c4v c4z)) := rfl
      have OC := Hi (hst.whole OC.out rfl)
      have OF := Hi (hst.oth OF.out (by omega))
      have JA := Hi (JA.out.stored JL.out hst (by omega))
      have hS := Stored.chgS hst hS (Or.inl (by first | exact Or.inl rfl | exact Or.inr rfl))
      generalize World.setCells _ _ _ _ = w7 at JA hS OC OF ⊢
      clear hst
      refine hK _ _ hS (fun hH3 => ?_)
      clear hK K'
      try simp only [Act.put, zq1, zq2, zq3, zq4, zq5, zq6]
      refine wpAnyH_ready (rs := [11]) (by kernel_rfl) (by simp) ?_
      refine AllReadyH.cons (o := _) rfl (fun K' hK => ?_) AllReadyH.nil
      rw [if_pos (by rfl)]
      refine wp_store_mid 39 _ _ rfl (d + 1) 0 (fc K.f (K.ft τ.l τ.a)).toArray rfl rfl (by have := OF.out.there 0 3 (by simp); simpa [c4v_len, fc_len] using this) (by first | kernel_rfl) (by have := fc_one K.f (K.ft τ.l τ.a); simpa using this) ?_
      simp only [Act.put, zq1, zq2, zq3, zq4, zq5, zq6]
      have hst : Stored w7 (d + 1) 0 (fc K.f (K.ft τ.l τ.a)) (w7.setCells (d + 1) 0 (fc K.f (K.ft τ.l τ.a))) := rfl
      have OF := Hi (hst.whole OF.out rfl)
      have OC := Hi (hst.oth OC.out (by omega))
      have JA := Hi (JA.out.stored JL.out hst (by omega))
      have hS := Stored.chgS hst hS (Or.inl (by first | exact Or.inl rfl | exact Or.inr rfl))
      generalize World.setCells _ _ _ _ = w8 at JA hS OC OF ⊢
      clear hst
      refine hK _ _ hS (fun hH4 => ?_)
      clear hK K'
      try simp only [Act.put, zq1, zq2, zq3, zq4, zq5, zq6]
      refine wpAnyH_done (by kernel_rfl) ?_ _
      refine NoPanic.normal ?_
      have CH := Hi (CH.out.after hS (fun k hk hk2 => by have := HDe.out; rcases hk2 with hk2 | hk2 <;> omega))
      go_wp2_with fail
      refine bodyPost_ret (v := .tuple #[.agg (c4v c4z).toArray, .agg (fc K.f (K.ft τ.l τ.a)).toArray]) ?_ rfl ⟨by rw [HR.out]; rfl, by rw [HR.out]; exact JA.out, CH.out⟩
      exact results_cc Tryz.results169 _ _ _ _ (c4v c4z) (fc K.f (K.ft τ.l τ.a)) _ _ rfl OC.out.range0 Tryz.underlying185 rfl (by kernel_rfl) rfl OF.out.range0 Tryz.underlying39 rfl (by kernel_rfl)
    | true =>
      have HR := Hi (show K.word σ = (τ, (K.wcol v, (0, 0))) by rw [HR.out]; exact if_pos rfl)
      go_upto_region 7 with (first
        | ((go_at_call 223; (with_reducible refine (HLE.out _ JA.out).mono ?_); rintro e wv ⟨rfl, hj1, hc1⟩); have JA := Hi hj1; have OC := Hi (hc1.obj OC.out (not_qS JL.out (by omega))); have OF := Hi (hc1.obj OF.out (not_qS JL.out (by omega))); have CH := Hi (CH.out.trans hc1); clear hj1 hc1))
      clear k0 k6
      have k0 := JA.out.cell 0 (.pointer (some ⟨K.X, 0, none⟩)) rfl
      go_wp2_with (refine load_ag (by kernel_rfl) 35 _ rfl N 19 K.ml rfl JA.out.rw_ rfl Tryz.underlying35 rfl (by kernel_rfl) ?_; intro _)
      with_reducible refine (HCO.out _ v).mono ?_
      rintro e w6 ⟨rfl, hb⟩
      have JA := Hi (JA.out.below hb)
      have OC := Hi (OC.out.below hb OC.out.lt)
      have OF := Hi (OF.out.below hb OF.out.lt)
      have CH := Hi (CH.out.trans (chg_of_below hb _))
      clear hb
      go_wp2_with (first
        | (refine store_o rfl 185 4 _ _ rfl (d) (c4v (K.wcol v)) rfl rfl (by kernel_rfl) (by kernel_rfl) (by kernel_rfl) OC.out (by first | rfl | simp) ?_; intro ws hst hO; have OC := Hi hO; have JA := Hi (JA.out.stored JL.out hst (by omega)); have OF := Hi (hst.oth OF.out (by omega)); have CH := Hi (Stored.chgS hst CH.out (Or.inr (by have := HDe.out; omega))); clear hst hO)
        | (refine store_o rfl 39 3 _ _ rfl ((d + 1)) (fc K.f (0, 0)) rfl rfl (by kernel_rfl) (by kernel_rfl) (by kernel_rfl) OF.out (by first | rfl | simp) ?_; intro ws hst hO; have OF := Hi hO; have JA := Hi (JA.out.stored JL.out hst (by omega)); have OC := Hi (hst.oth OC.out (by omega)); have CH := Hi (Stored.chgS hst CH.out (Or.inr (by have := HDe.out; omega))); clear hst hO))
      refine bodyPost_ret (v := .tuple #[.agg (c4v (K.wcol v)).toArray, .agg (fc K.f (0, 0)).toArray]) ?_ rfl ⟨by rw [HR.out]; rfl, by rw [HR.out]; exact JA.out, CH.out⟩
      exact results_cc Tryz.results169 _ _ _ _ (c4v (K.wcol v)) (fc K.f (0, 0)) _ _ rfl OC.out.range0 Tryz.underlying185 rfl (by kernel_rfl) rfl OF.out.range0 Tryz.underlying39 rfl (by kernel_rfl)
  · have HLE := Hi (HLE.out.2 hdd)
    have HDP := Hi (show (K.dp : Int) = 32 by rw [hdd]; rfl)
    have HDP2 := Hi (show (K.dp == 32) = true by rw [hdd]; rfl)
    clear hdd
    go_enter Tryz.func169, Tryz.ntmps169
    go_upto_region 1 with (fail)
    clear hd
    generalize World.alloc _ _ = wr at OC OF JA CH ⊢
    have k0 := JA.out.cell 0 (.pointer (some ⟨K.X, 0, none⟩)) rfl
    have k6 := JA.out.cell 6 (.int .i64 32) (by rw [← HDP.out]; rfl)
    cases ok with
    | false =>
      have HR := Hi (show K.word σ = (τ, (c4z, K.ft τ.l τ.a)) by rw [HR.out]; exact if_neg (by decide))
      go_upto_region 6 with (first
        | ((go_at_call 224; (with_reducible refine (HLE.out _ JA.out).mono ?_); rintro e wv ⟨rfl, hj1, hc1⟩); have JA := Hi hj1; have OC := Hi (hc1.obj OC.out (not_qS JL.out (by omega))); have OF := Hi (hc1.obj OF.out (not_qS JL.out (by omega))); have CH := Hi (CH.out.trans hc1); clear hj1 hc1))
      clear k0 k6
      refine wp_region_noPanic ?_
      refine wp_region_held_drew (S := fun w' => Chg (fun k => k = d ∨ k = d + 1) wv w') (by kernel_rfl) (Chg.refl _ _).drew (fun hHeld => ?_)
      refine wpAnyH_take (i := 0) (v := .agg #[.int .u8 0, .int .u8 0, .int .u8 0, .int .u8 0]) rfl (by kernel_rfl) (by kernel_rfl) (by kernel_rfl) (fun _ _ _ h => h) (Or.inl ⟨by rfl, fun w hS => by go_simp⟩) hHeld ?_
      simp only [Act.put, zq1, zq2, zq3, zq4, zq5, zq6]
      refine wpAnyH_take (i := 1) (v := .pointer (some ⟨N, 0, none⟩)) rfl (by kernel_rfl) (by kernel_rfl) (by kernel_rfl) (fun _ _ _ h => h) (Or.inl ⟨by rfl, fun w hS => by (go_simp) <;> first | rfl | assumption | (intro hh; exfalso; omega) | (exact (i64_wraps _ (by omega) (by omega)).trans (by omega)) | omega⟩) hHeld ?_
      simp only [Act.put, zq1, zq2, zq3, zq4, zq5, zq6]
      refine wpAnyH_take (i := 2) (v := .pointer (some ⟨N, 0, none⟩)) rfl (by kernel_rfl) (by kernel_rfl) (by kernel_rfl) (fun _ _ _ h => h) (Or.inl ⟨by rfl, fun w hS => by (go_simp) <;> first | rfl | assumption | (intro hh; exfalso; omega) | (exact (i64_wraps _ (by omega) (by omega)).trans (by omega)) | omega⟩) hHeld ?_
      simp only [Act.put, zq1, zq2, zq3, zq4, zq5, zq6]
      refine wpAnyH_take (i := 3) (v := .pointer (some ⟨N, 0, none⟩)) rfl (by kernel_rfl) (by kernel_rfl) (by kernel_rfl) (fun _ _ _ h => h) (Or.inl ⟨by rfl, fun w hS => by (go_simp) <;> first | rfl | assumption | (intro hh; exfalso; omega) | (exact (i64_wraps _ (by omega) (by omega)).trans (by omega)) | omega⟩) hHeld ?_
      simp only [Act.put, zq1, zq2, zq3, zq4, zq5, zq6]
      refine wpAnyH_take (i := 4) (v := .pointer (some ⟨K.X, 0, none⟩)) rfl (by kernel_rfl) (by kernel_rfl) (by kernel_rfl) (fun _ _ _ h => h) (Or.inl ⟨by rfl, fun w hS => by (have hc : w.cell? ⟨N, 0, none⟩ = some (.pointer (some ⟨K.X, 0, none⟩)) := (hS.cell (b := N) (o := 0) JA.out.rw_.lt (show ¬ (N = d ∨ N = d + 1) by have := JL.out.n; omega)).trans (JA.out.cell 0 (.pointer (some ⟨K.X, 0, none⟩)) rfl); go_simp)⟩) hHeld ?_
      simp only [Act.put, zq1, zq2, zq3, zq4, zq5, zq6]
      refine wpAnyH_take (i := 5) (v := .pointer (some ⟨N, 0, none⟩)) rfl (by kernel_rfl) (by kernel_rfl) (by kernel_rfl) (fun _ _ _ h => h) (Or.inl ⟨by rfl, fun w hS => by (go_simp) <;> first | rfl | assumption | (intro hh; exfalso; omega) | (exact (i64_wraps _ (by omega) (by omega)).trans (by omega)) | omega⟩) hHeld ?_
      simp only [Act.put, zq1, zq2, zq3, zq4, zq5, zq6]
      refine wpAnyH_take (i := 6) (v := .pointer (some ⟨N, 0, none⟩)) rfl (by kernel_rfl) (by kernel_rfl) (by kernel_rfl) (fun _ _ _ h => h) (Or.inl ⟨by rfl, fun w hS => by (go_simp) <;> first | rfl | assumption | (intro hh; exfalso; omega) | (exact (i64_wraps _ (by omega) (by omega)).trans (by omega)) | omega⟩) hHeld ?_
      simp only [Act.put, zq1, zq2, zq3, zq4, zq5, zq6]
      refine wpAnyH_take (i := 7) (v := .pointer (some ⟨N, 27, none⟩)) rfl (by kernel_rfl) (by kernel_rfl) (by kernel_rfl) (fun _ _ _ h => h) (Or.inl ⟨by rfl, fun w hS => by (go_simp) <;> first | rfl | assumption | (intro hh; exfalso; omega) | (exact (i64_wraps _ (by omega) (by omega)).trans (by omega)) | omega⟩) hHeld ?_
      simp only [Act.put, zq1, zq2, zq3, zq4, zq5, zq6]
      refine wpAnyH_take (i := 8) (v := .int .i64 K.f) rfl (by kernel_rfl) (by kernel_rfl) (by kernel_rfl) (fun _ _ _ h => h) (Or.inl ⟨by rfl, fun w hS => by (have hc : w.cell? ⟨N, 27, none⟩ = some (.int .i64 K.f) := (hS.cell (b := N) (o := 27) JA.out.rw_.lt (show ¬ (N = d ∨ N = d + 1) by have := JL.out.n; omega)).trans (JA.out.cell 27 (.int .i64 K.f) rfl); go_simp)⟩) hHeld ?_
      simp only [Act.put, zq1, zq2, zq3, zq4, zq5, zq6]
      have hS := (Chg.refl (fun k => k = d ∨ k = d + 1) wv).drew
      have hF := (Chg.refl (fun _ => False) wv).drew
      generalize World.drew _ = wk at hS hF ⊢
      have JA := Hi (JA.out.keep hF)
      have OC := Hi (hF.obj OC.out (fun h => h))
      have OF := Hi (hF.obj OF.out (fun h => h))
      refine wpAnyH_ready (rs := [9]) (by kernel_rfl) (by simp) ?_
      refine AllReadyH.cons (o := _) rfl (fun K' hK => ?_) AllReadyH.nil
      go_simp
      with_reducible refine (HFA.out _ _ JA.out).mono ?_
      rintro e6 w6 ⟨rfl, hb6⟩
      have JA := Hi (JA.out.below hb6)
      have OC := Hi (OC.out.below hb6 OC.out.lt)
      have OF := Hi (OF.out.below hb6 OF.out.lt)
      have hS := hS.trans (chg_of_below hb6 _)
      go_wp2_with fail
      refine hK _ _ hS (fun hH2 => ?_)
      clear hK K'
      try simp only [Act.put, zq1, zq2, zq3, zq4, zq5, zq6]
      refine wpAnyH_ready (rs := [10]) (by kernel_rfl) (by simp) ?_
      refine AllReadyH.cons (o := _) rfl (fun K' hK => ?_) AllReadyH.nil
      rw [if_pos (by rfl)]
      refine wp_store_mid 185 _ _ rfl (d) 0 (c4v c4z).toArray rfl rfl (by have := OC.out.there 0 4 (by simp); simpa [c4v_len, fc_len] using this) (by first | kernel_rfl) (by have := c4v_one c4z; simpa using this) ?_
      simp only [Act.put, zq1, zq2, zq3, zq4, zq5, zq6]
      have hst : Stored w6 (d) 0 (c4v c4z) (w6.setCells (d) 0 (c4v c4z)) := rfl
      have OC := Hi (hst.whole OC.out rfl)
      have OF := Hi (hst.oth OF.out (by omega))
      have JA := Hi (JA.out.stored JL.out hst (by omega))
      have hS := Stored.chgS hst hS (Or.inl (by first | exact Or.inl rfl | exact Or.inr rfl))
      generalize World.setCells _ _ _ _ = w7 at JA hS OC OF ⊢
      clear hst
      refine hK _ _ hS (fun hH3 => ?_)
      clear hK K'
      try simp only [Act.put, zq1, zq2, zq3, zq4, zq5, zq6]
      refine wpAnyH_ready (rs := [11]) (by kernel_rfl) (by simp) ?_
      refine AllReadyH.cons (o := _) rfl (fun K' hK => ?_) AllReadyH.nil
      rw [if_pos (by rfl)]
      refine wp_store_mid 39 _ _ rfl (d + 1) 0 (fc K.f (K.ft τ.l τ.a)).toArray rfl rfl (by have := OF.out.there 0 3 (by simp); simpa [c4v_len, fc_len] using this) (by first | kernel_rfl) (by have := fc_one K.f (K.ft τ.l τ.a); simpa using this) ?_
      simp only [Act.put, zq1, zq2, zq3, zq4, zq5, zq6]
      have hst : Stored w7 (d + 1) 0 (fc K.f (K.ft τ.l τ.a)) (w7.setCells (d + 1) 0 (fc K.f (K.ft τ.l τ.a))) := rfl
      have OF := Hi (hst.whole OF.out rfl)
      have OC := Hi (hst.oth OC.out (by omega))
      have JA := Hi (JA.out.stored JL.out hst (by omega))
      have hS := Stored.chgS hst hS (Or.inl (by first | exact Or.inl rfl | exact Or.inr rfl))
      generalize World.setCells _ _ _ _ = w8 at JA hS OC OF ⊢
      clear hst
      refine hK _ _ hS (fun hH4 => ?_)
      clear hK K'
      try simp only [Act.put, zq1, zq2, zq3, zq4, zq5, zq6]
      refine wpAnyH_done (by kernel_rfl) ?_ _
      refine NoPanic.normal ?_
      have CH := Hi (CH.out.after hS (fun k hk hk2 => by have := HDe.out; rcases hk2 with hk2 | hk2 <;> omega))
      go_wp2_with fail
      refine bodyPost_ret (v := .tuple #[.agg (c4v c4z).toArray, .agg (fc K.f (K.ft τ.l τ.a)).toArray]) ?_ rfl ⟨by rw [HR.out]; rfl, by rw [HR.out]; exact JA.out, CH.out⟩
      exact results_cc Tryz.results169 _ _ _ _ (c4v c4z) (fc K.f (K.ft τ.l τ.a)) _ _ rfl OC.out.range0 Tryz.underlying185 rfl (by kernel_rfl) rfl OF.out.range0 Tryz.underlying39 rfl (by kernel_rfl)
    | true =>
      have HR := Hi (show K.word σ = (τ, (K.wcol v, (0, 0))) by rw [HR.out]; exact if_pos rfl)
      go_upto_region 7 with (first
        | ((go_at_call 224; (with_reducible refine (HLE.out _ JA.out).mono ?_); rintro e wv ⟨rfl, hj1, hc1⟩); have JA := Hi hj1; have OC := Hi (hc1.obj OC.out (not_qS JL.out (by omega))); have OF := Hi (hc1.obj OF.out (not_qS JL.out (by omega))); have CH := Hi (CH.out.trans hc1); clear hj1 hc1))
      clear k0 k6
      have k0 := JA.out.cell 0 (.pointer (some ⟨K.X, 0, none⟩)) rfl
      go_wp2_with (refine load_ag (by kernel_rfl) 35 _ rfl N 19 K.ml rfl JA.out.rw_ rfl Tryz.underlying35 rfl (by kernel_rfl) ?_; intro _)
      with_reducible refine (HCO.out _ v).mono ?_
      rintro e w6 ⟨rfl, hb⟩
      have JA := Hi (JA.out.below hb)
      have OC := Hi (OC.out.below hb OC.out.lt)
      have OF := Hi (OF.out.below hb OF.out.lt)
      have CH := Hi (CH.out.trans (chg_of_below hb _))
      clear hb
      go_wp2_with (first
        | (refine store_o rfl 185 4 _ _ rfl (d) (c4v (K.wcol v)) rfl rfl (by kernel_rfl) (by kernel_rfl) (by kernel_rfl) OC.out (by first | rfl | simp) ?_; intro ws hst hO; have OC := Hi hO; have JA := Hi (JA.out.stored JL.out hst (by omega)); have OF := Hi (hst.oth OF.out (by omega)); have CH := Hi (Stored.chgS hst CH.out (Or.inr (by have := HDe.out; omega))); clear hst hO)
        | (refine store_o rfl 39 3 _ _ rfl ((d + 1)) (fc K.f (0, 0)) rfl rfl (by kernel_rfl) (by kernel_rfl) (by kernel_rfl) OF.out (by first | rfl | simp) ?_; intro ws hst hO; have OF := Hi hO; have JA := Hi (JA.out.stored JL.out hst (by omega)); have OC := Hi (hst.oth OC.out (by omega)); have CH := Hi (Stored.chgS hst CH.out (Or.inr (by have := HDe.out; omega))); clear hst hO))
      refine bodyPost_ret (v := .tuple #[.agg (c4v (K.wcol v)).toArray, .agg (fc K.f (0, 0)).toArray]) ?_ rfl ⟨by rw [HR.out]; rfl, by rw [HR.out]; exact JA.out, CH.out⟩
      exact results_cc Tryz.results169 _ _ _ _ (c4v (K.wcol v)) (fc K.f (0, 0)) _ _ rfl OC.out.range0 Tryz.underlying185 rfl (by kernel_rfl) rfl OF.out.range0 Tryz.underlying39 rfl (by kernel_rfl)
theorem qnext_size {w : World} {N : Nat} {K : QK} {σ : QS} (h : QAt w N K σ) (n : Nat) (hk : (K.next σ n).2.2 = true) : (K.next σ n).2.1.size = n := by
  have hes : K.x.e ≤ K.x.s.size := h.pr.src.ok.es
  have hpe : σ.a ≤ K.x.e := h.pr.src.ok.pe
  unfold QK.next at hk ⊢
  by_cases hc : (σ.l.work 1).2 = true ∧ n ≤ K.x.e - σ.a
  · rw [if_pos hc]
    have h2 := hc.2
    show (K.x.s.extract σ.a (σ.a + n)).size = n
    rw [ByteArray.size_extract]; omega
  · rw [if_neg hc] at hk; cases hk
set_option maxRecDepth 100000 in
set_option maxHeartbeats 8000000 in
theorem qthr_any (N : Nat) (K : QK) (σ : QS) (w : World) (h : QAt w N K σ) : Calls Tryz.prog 170 #[.pointer (some ⟨N, 0, none⟩)] w fun e w' =>
    e = .returned (pxv K.f (K.thr σ).2) ∧ QAt w' N K (K.thr σ).1 ∧ Chg (qS K) w w' := by
  have hC := ((Chg.refl (fun _ => False) w).alloc (.cells #[.int .u8 0, .int .u8 0, .int .u8 0, .int .u8 0] 185)).alloc (.cells #[.int .i64 0, .int .i64 0, .int .i64 0] 39)
  have OC := Hi ((obj1_new w #[.int .u8 0, .int .u8 0, .int .u8 0, .int .u8 0] 185).alloc (.cells #[.int .i64 0, .int .i64 0, .int .i64 0] 39))
  have OF := Hi (obj1_new (w.alloc (.cells #[.int .u8 0, .int .u8 0, .int .u8 0, .int .u8 0] 185)) #[.int .i64 0, .int .i64 0, .int .i64 0] 39)
  obtain ⟨d, hd⟩ : ∃ d, w.heap.size = d := ⟨_, rfl⟩
  have HDe := Hi hd
  rw [show (w.alloc (.cells #[.int .u8 0, .int .u8 0, .int .u8 0, .int .u8 0] 185)).heap.size = d + 1 by rw [← hd]; simp] at OF
  rw [hd] at OC
  have JA := Hi (h.keep hC)
  have CH := Hi (hC.mono (S' := qS K) (fun _ _ h => h.elim))
  have JL := Hi h.jlt
  rw [hd] at JL
  have HFA := Hi (fun w0 (τ : QS) (h0 : QAt w0 N K τ) => qfault_any N K τ w0 h0)
  have HTK := Hi (fun w0 (h0 : QAt w0 N K σ) => (show Calls Tryz.prog 66 #[.pointer (some ⟨K.X, 0, none⟩), .int .i64 3] w0 fun e w' => e = .returned (.tuple #[.string (K.next σ 3).2.1, .bool (K.next σ 3).2.2]) ∧ QAt w' N K (K.next σ 3).1 ∧ Chg (qS K) w0 w' from qtake_any N K σ 3 w0 h0))
  have HZ3 := Hi (fun (e : (K.next σ 3).2.2 = true) => (qnext_size h 3 e))
  obtain ⟨τ, hτ⟩ : ∃ τ, (K.next σ 3).1 = τ := ⟨_, rfl⟩
  obtain ⟨v, hv⟩ : ∃ v, (K.next σ 3).2.1 = v := ⟨_, rfl⟩
  obtain ⟨ok, hok⟩ : ∃ b, (K.next σ 3).2.2 = b := ⟨_, rfl⟩
  have HR := Hi (show K.thr σ = K.thrB τ v ok by unfold QK.thr; rw [hτ, hv, hok])
  rw [hτ, hv, hok] at HTK
  rw [hv, hok] at HZ3
  clear h hC hτ hv hok
  go_enter Tryz.func170, Tryz.ntmps170
  go_upto_region 1 with (fail)
  clear hd
  generalize World.alloc _ _ = wr at OC OF JA CH ⊢
  have k0 := JA.out.cell 0 (.pointer (some ⟨K.X, 0, none⟩)) rfl
  cases ok with
  | false =>
    have HR := Hi (show K.thr σ = (τ, (c4z, K.ft τ.l τ.a)) by rw [HR.out]; exact if_neg (by decide))
    go_upto_region 3 with (first
      | ((go_at_call 66; (with_reducible refine (HTK.out _ JA.out).mono ?_); rintro e wv ⟨rfl, hj1, hc1⟩); have JA := Hi hj1; have OC := Hi (hc1.obj OC.out (not_qS JL.out (by omega))); have OF := Hi (hc1.obj OF.out (not_qS JL.out (by omega))); have CH := Hi (CH.out.trans hc1); clear hj1 hc1))
    clear k0
    refine wp_region_noPanic ?_
    refine wp_region_held_drew (S := fun w' => Chg (fun k => k = d ∨ k = d + 1) wv w') (by kernel_rfl) (Chg.refl _ _).drew (fun hHeld => ?_)
    refine wpAnyH_take (i := 0) (v := .agg #[.int .u8 0, .int .u8 0, .int .u8 0, .int .u8 0]) rfl (by kernel_rfl) (by kernel_rfl) (by kernel_rfl) (fun _ _ _ h => h) (Or.inl ⟨by rfl, fun w hS => by go_simp⟩) hHeld ?_
    simp only [Act.put, zq1, zq2, zq3, zq4, zq5, zq6]
    refine wpAnyH_take (i := 1) (v := .pointer (some ⟨N, 0, none⟩)) rfl (by kernel_rfl) (by kernel_rfl) (by kernel_rfl) (fun _ _ _ h => h) (Or.inl ⟨by rfl, fun w hS => by (go_simp) <;> first | rfl | assumption | (intro hh; exfalso; omega) | (exact (i64_wraps _ (by omega) (by omega)).trans (by omega)) | omega⟩) hHeld ?_
    simp only [Act.put, zq1, zq2, zq3, zq4, zq5, zq6]
    refine wpAnyH_take (i := 2) (v := .pointer (some ⟨N, 0, none⟩)) rfl (by kernel_rfl) (by kernel_rfl) (by kernel_rfl) (fun _ _ _ h => h) (Or.inl ⟨by rfl, fun w hS => by (go_simp) <;> first | rfl | assumption | (intro hh; exfalso; omega) | (exact (i64_wraps _ (by omega) (by omega)).trans (by omega)) | omega⟩) hHeld ?_
    simp only [Act.put, zq1, zq2, zq3, zq4, zq5, zq6]
    refine wpAnyH_take (i := 3) (v := .pointer (some ⟨N, 0, none⟩)) rfl (by kernel_rfl) (by kernel_rfl) (by kernel_rfl) (fun _ _ _ h => h) (Or.inl ⟨by rfl, fun w hS => by (go_simp) <;> first | rfl | assumption | (intro hh; exfalso; omega) | (exact (i64_wraps _ (by omega) (by omega)).trans (by omega)) | omega⟩) hHeld ?_
    simp only [Act.put, zq1, zq2, zq3, zq4, zq5, zq6]
    refine wpAnyH_take (i := 4) (v := .pointer (some ⟨K.X, 0, none⟩)) rfl (by kernel_rfl) (by kernel_rfl) (by kernel_rfl) (fun _ _ _ h => h) (Or.inl ⟨by rfl, fun w hS => by (have hc : w.cell? ⟨N, 0, none⟩ = some (.pointer (some ⟨K.X, 0, none⟩)) := (hS.cell (b := N) (o := 0) JA.out.rw_.lt (show ¬ (N = d ∨ N = d + 1) by have := JL.out.n; omega)).trans (JA.out.cell 0 (.pointer (some ⟨K.X, 0, none⟩)) rfl); go_simp)⟩) hHeld ?_
    simp only [Act.put, zq1, zq2, zq3, zq4, zq5, zq6]
    refine wpAnyH_take (i := 5) (v := .pointer (some ⟨N, 0, none⟩)) rfl (by kernel_rfl) (by kernel_rfl) (by kernel_rfl) (fun _ _ _ h => h) (Or.inl ⟨by rfl, fun w hS => by (go_simp) <;> first | rfl | assumption | (intro hh; exfalso; omega) | (exact (i64_wraps _ (by omega) (by omega)).trans (by omega)) | omega⟩) hHeld ?_
    simp only [Act.put, zq1, zq2, zq3, zq4, zq5, zq6]
    refine wpAnyH_take (i := 6) (v := .pointer (some ⟨N, 0, none⟩)) rfl (by kernel_rfl) (by kernel_rfl) (by kernel_rfl) (fun _ _ _ h => h) (Or.inl ⟨by rfl, fun w hS => by (go_simp) <;> first | rfl | assumption | (intro hh; exfalso; omega) | (exact (i64_wraps _ (by omega) (by omega)).trans (by omega)) | omega⟩) hHeld ?_
    simp only [Act.put, zq1, zq2, zq3, zq4, zq5, zq6]
    refine wpAnyH_take (i := 7) (v := .pointer (some ⟨N, 27, none⟩)) rfl (by kernel_rfl) (by kernel_rfl) (by kernel_rfl) (fun _ _ _ h => h) (Or.inl ⟨by rfl, fun w hS => by (go_simp) <;> first | rfl | assumption | (intro hh; exfalso; omega) | (exact (i64_wraps _ (by omega) (by omega)).trans (by omega)) | omega⟩) hHeld ?_
    simp only [Act.put, zq1, zq2, zq3, zq4, zq5, zq6]
    refine wpAnyH_take (i := 8) (v := .int .i64 K.f) rfl (by kernel_rfl) (by kernel_rfl) (by kernel_rfl) (fun _ _ _ h => h) (Or.inl ⟨by rfl, fun w hS => by (have hc : w.cell? ⟨N, 27, none⟩ = some (.int .i64 K.f) := (hS.cell (b := N) (o := 27) JA.out.rw_.lt (show ¬ (N = d ∨ N = d + 1) by have := JL.out.n; omega)).trans (JA.out.cell 27 (.int .i64 K.f) rfl); go_simp)⟩) hHeld ?_
    simp only [Act.put, zq1, zq2, zq3, zq4, zq5, zq6]
    have hS := (Chg.refl (fun k => k = d ∨ k = d + 1) wv).drew
    have hF := (Chg.refl (fun _ => False) wv).drew
    generalize World.drew _ = wk at hS hF ⊢
    have JA := Hi (JA.out.keep hF)
    have OC := Hi (hF.obj OC.out (fun h => h))
    have OF := Hi (hF.obj OF.out (fun h => h))
    refine wpAnyH_ready (rs := [9]) (by kernel_rfl) (by simp) ?_
    refine AllReadyH.cons (o := _) rfl (fun K' hK => ?_) AllReadyH.nil
    go_simp
    with_reducible refine (HFA.out _ _ JA.out).mono ?_
    rintro e6 w6 ⟨rfl, hb6⟩
    have JA := Hi (JA.out.below hb6)
    have OC := Hi (OC.out.below hb6 OC.out.lt)
    have OF := Hi (OF.out.below hb6 OF.out.lt)
    have hS := hS.trans (chg_of_below hb6 _)
    go_wp2_with fail
    refine hK _ _ hS (fun hH2 => ?_)
    clear hK K'
    try simp only [Act.put, zq1, zq2, zq3, zq4, zq5, zq6]
    refine wpAnyH_ready (rs := [10]) (by kernel_rfl) (by simp) ?_
    refine AllReadyH.cons (o := _) rfl (fun K' hK => ?_) AllReadyH.nil
    rw [if_pos (by rfl)]
    refine wp_store_mid 185 _ _ rfl (d) 0 (c4v c4z).toArray rfl rfl (by have := OC.out.there 0 4 (by simp); simpa [c4v_len, fc_len] using this) (by first | kernel_rfl) (by have := c4v_one c4z; simpa using this) ?_
    simp only [Act.put, zq1, zq2, zq3, zq4, zq5, zq6]
    have hst : Stored w6 (d) 0 (c4v c4z) (w6.setCells (d) 0 (c4v c4z)) := rfl
    have OC := Hi (hst.whole OC.out rfl)
    have OF := Hi (hst.oth OF.out (by omega))
    have JA := Hi (JA.out.stored JL.out hst (by omega))
    have hS := Stored.chgS hst hS (Or.inl (by first | exact Or.inl rfl | exact Or.inr rfl))
    generalize World.setCells _ _ _ _ = w7 at JA hS OC OF ⊢
    clear hst
    refine hK _ _ hS (fun hH3 => ?_)
    clear hK K'
    try simp only [Act.put, zq1, zq2, zq3, zq4, zq5, zq6]
    refine wpAnyH_ready (rs := [11]) (by kernel_rfl) (by simp) ?_
    refine AllReadyH.cons (o := _) rfl (fun K' hK => ?_) AllReadyH.nil
    rw [if_pos (by rfl)]
    refine wp_store_mid 39 _ _ rfl (d + 1) 0 (fc K.f (K.ft τ.l τ.a)).toArray rfl rfl (by have := OF.out.there 0 3 (by simp); simpa [c4v_len, fc_len] using this) (by first | kernel_rfl) (by have := fc_one K.f (K.ft τ.l τ.a); simpa using this) ?_
    simp only [Act.put, zq1, zq2, zq3, zq4, zq5, zq6]
    have hst : Stored w7 (d + 1) 0 (fc K.f (K.ft τ.l τ.a)) (w7.setCells (d + 1) 0 (fc K.f (K.ft τ.l τ.a))) := rfl
    have OF := Hi (hst.whole OF.out rfl)
    have OC := Hi (hst.oth OC.out (by omega))
    have JA := Hi (JA.out.stored JL.out hst (by omega))
    have hS := Stored.chgS hst hS (Or.inl (by first | exact Or.inl rfl | exact Or.inr rfl))
    generalize World.setCells _ _ _ _ = w8 at JA hS OC OF ⊢
    clear hst
    refine hK _ _ hS (fun hH4 => ?_)
    clear hK K'
    try simp only [Act.put, zq1, zq2, zq3, zq4, zq5, zq6]
    refine wpAnyH_done (by kernel_rfl) ?_ _
    refine NoPanic.normal ?_
    have CH := Hi (CH.out.after hS (fun k hk hk2 => by have := HDe.out; rcases hk2 with hk2 | hk2 <;> omega))
    go_wp2_with fail
    refine bodyPost_ret (v := .tuple #[.agg (c4v c4z).toArray, .agg (fc K.f (K.ft τ.l τ.a)).toArray]) ?_ rfl ⟨by rw [HR.out]; rfl, by rw [HR.out]; exact JA.out, CH.out⟩
    exact results_cc Tryz.results170 _ _ _ _ (c4v c4z) (fc K.f (K.ft τ.l τ.a)) _ _ rfl OC.out.range0 Tryz.underlying185 rfl (by kernel_rfl) rfl OF.out.range0 Tryz.underlying39 rfl (by kernel_rfl)
  | true =>
    have HR := Hi (show K.thr σ = (τ, (c4t v, (0, 0))) by rw [HR.out]; exact if_pos rfl)
    have HEN := Hi (fun w0 => (show Calls Tryz.prog 145 #[.string v, .int .i64 3] w0 fun e w' => e = .returned (.tuple #[.agg (c4v (c4t v)).toArray, .bool true]) ∧ Chg (fun _ => False) w0 w' from pentry_any v 3 w0 (Or.inl rfl) (by rw [HZ3.out rfl]; decide)))
    go_upto_region 4 with (first
      | ((go_at_call 66; (with_reducible refine (HTK.out _ JA.out).mono ?_); rintro e wv ⟨rfl, hj1, hc1⟩); have JA := Hi hj1; have OC := Hi (hc1.obj OC.out (not_qS JL.out (by omega))); have OF := Hi (hc1.obj OF.out (not_qS JL.out (by omega))); have CH := Hi (CH.out.trans hc1); clear hj1 hc1))
    clear k0
    go_wp2_with fail
    with_reducible refine (HEN.out _).mono ?_
    rintro e w6 ⟨rfl, hc⟩
    have JA := Hi (JA.out.keep hc)
    have OC := Hi (hc.obj OC.out (fun h => h))
    have OF := Hi (hc.obj OF.out (fun h => h))
    have CH := Hi (CH.out.trans (hc.mono (fun _ _ h => h.elim)))
    clear hc
    obtain ⟨dv, hdv⟩ : ∃ b, w6.heap.size = b := ⟨_, rfl⟩
    have lzdv := OF.out.lt
    have OV := Hi (obj1_new w6 #[.int .u8 0, .int .u8 0, .int .u8 0, .int .u8 0] 185)
    rw [hdv] at OV lzdv
    have JA := Hi (JA.out.alloc (.cells #[.int .u8 0, .int .u8 0, .int .u8 0, .int .u8 0] 185))
    have CH := Hi (CH.out.alloc (.cells #[.int .u8 0, .int .u8 0, .int .u8 0, .int .u8 0] 185))
    have OC := Hi (OC.out.alloc (.cells #[.int .u8 0, .int .u8 0, .int .u8 0, .int .u8 0] 185))
    have OF := Hi (OF.out.alloc (.cells #[.int .u8 0, .int .u8 0, .int .u8 0, .int .u8 0] 185))
    go_upto_region 5 with (first
      | (refine store_o rfl 185 4 _ _ rfl (dv) (c4v (c4t v)) rfl rfl (by kernel_rfl) (by kernel_rfl) (by kernel_rfl) OV.out (by first | rfl | simp) ?_; intro ws hst hO; have OV := Hi hO; have JA := Hi (JA.out.stored JL.out hst (by omega)); have OC := Hi (hst.oth OC.out (by omega)); have OF := Hi (hst.oth OF.out (by omega)); have CH := Hi (Stored.chgS hst CH.out (Or.inr (by have := HDe.out; omega))); clear hst hO))
    clear hdv
    go_wp2_with (first
      | (refine load_u (by kernel_rfl) 185 4 _ rfl (dv) (c4v (c4t v)) rfl rfl OV.out Tryz.underlying185 rfl (by kernel_rfl) ?_; intro _)
      | (refine store_o rfl 185 4 _ _ rfl (d) (c4v (c4t v)) rfl rfl (by kernel_rfl) (by kernel_rfl) (by kernel_rfl) OC.out (by first | rfl | simp) ?_; intro ws hst hO; have OC := Hi hO; have JA := Hi (JA.out.stored JL.out hst (by omega)); have OF := Hi (hst.oth OF.out (by omega)); have OV := Hi (hst.oth OV.out (by omega)); have CH := Hi (Stored.chgS hst CH.out (Or.inr (by have := HDe.out; omega))); clear hst hO)
      | (refine store_o rfl 39 3 _ _ rfl ((d + 1)) (fc K.f (0, 0)) rfl rfl (by kernel_rfl) (by kernel_rfl) (by kernel_rfl) OF.out (by first | rfl | simp) ?_; intro ws hst hO; have OF := Hi hO; have JA := Hi (JA.out.stored JL.out hst (by omega)); have OC := Hi (hst.oth OC.out (by omega)); have OV := Hi (hst.oth OV.out (by omega)); have CH := Hi (Stored.chgS hst CH.out (Or.inr (by have := HDe.out; omega))); clear hst hO))
    refine bodyPost_ret (v := .tuple #[.agg (c4v (c4t v)).toArray, .agg (fc K.f (0, 0)).toArray]) ?_ rfl ⟨by rw [HR.out]; rfl, by rw [HR.out]; exact JA.out, CH.out⟩
    exact results_cc Tryz.results170 _ _ _ _ (c4v (c4t v)) (fc K.f (0, 0)) _ _ rfl OC.out.range0 Tryz.underlying185 rfl (by kernel_rfl) rfl OF.out.range0 Tryz.underlying39 rfl (by kernel_rfl)
end Go.Proofs.YtlfbaggcfaenlaaGreat

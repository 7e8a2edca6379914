/- dibrow: a pixel that is the number of an entry; walked. -/
import Derived.Test.YtlfbaggcfaenlaaGreatK25
import Derived.Test.YtlfbaggcfaenlaaGreatK0
namespace Go.Proofs.YtlfbaggcfaenlaaGreat
open Go.RowKit
set_option linter.unusedVariables false
set_option linter.unusedSimpArgs false
abbrev C4 := Int × Int × Int × Int
def c4v (c : C4) : List Value := [.int .u8 c.1, .int .u8 c.2.1, .int .u8 c.2.2.1, .int .u8 c.2.2.2]
theorem c4v_len (c : C4) : (c4v c).length = 4 := rfl
theorem c4v_one (c : C4) : (c4v c).all (·.oneCell') = true := rfl
def c4z : C4 := (0, 0, 0, 0)
def c4e (s : ByteArray) : C4 := (byN s 0, byN s 1, byN s 2, byN s 3)
def pxv (f : Int) (r : C4 × (Int × Int)) : Value := .tuple #[.agg (c4v r.1).toArray, .agg (fc f r.2).toArray]
def QK.nmB (K : QK) (τ : QS) : Option Nat → QS × (C4 × (Int × Int))
  | none => (τ, (c4z, K.ft τ.l τ.a))
  | some v => if K.p.has v = true then (τ, (c4e (K.p.ent v), (0, 0))) else (τ, (c4z, (2, (τ.a : Int) - 1)))
def QK.num (K : QK) (σ : QS) : QS × (C4 × (Int × Int)) := K.nmB (K.bits σ).1 (K.bits σ).2
theorem qnext_a {w : World} {N : Nat} {K : QK} {σ : QS} (h : QAt w N K σ) (n : Nat) : (K.next σ n).1.a ≤ K.x.e := by
  have h1 : σ.a ≤ K.x.e := h.pr.src.ok.pe
  unfold QK.next
  by_cases hc : (σ.l.work 1).2 = true ∧ n ≤ K.x.e - σ.a
  · rw [if_pos hc]; have := hc.2; show σ.a + n ≤ K.x.e; omega
  · rw [if_neg hc]; exact h1
theorem qbits_a {w : World} {N : Nat} {K : QK} {σ : QS} (h : QAt w N K σ) : (K.bits σ).1.a ≤ K.x.e := by
  unfold QK.bits
  split
  · split
    · exact qnext_a h 1
    · exact qnext_a h 1
  · exact h.pr.src.ok.pe
set_option maxRecDepth 100000 in
set_option maxHeartbeats 8000000 in
theorem qnum_any (N : Nat) (K : QK) (σ : QS) (w : World) (h : QAt w N K σ) (h1 : 1 ≤ K.dp) (h2 : K.dp ≤ 8) (h3 : σ.left = 0 ∨ K.dp ≤ σ.left) (hp : K.hp = true) : Calls Tryz.prog 171 #[.pointer (some ⟨N, 0, none⟩)] w fun e w' =>
    e = .returned (pxv K.f (K.num σ).2) ∧ QAt w' N K (K.num σ).1 ∧ Chg (qS K) w w' := by
  have hC := ((Chg.refl (fun _ => False) w).alloc (.cells #[.int .u8 0, .int .u8 0, .int .u8 0, .int .u8 0] 185)).alloc (.cells #[.int .i64 0, .int .i64 0, .int .i64 0] 39)
  have OC := Hi ((obj1_new w #[.int .u8 0, .int .u8 0, .int .u8 0, .int .u8 0] 185).alloc (.cells #[.int .i64 0, .int .i64 0, .int .i64 0] 39))
  have OF := Hi (obj1_new (w.alloc (.cells #[.int .u8 0, .int .u8 0, .int .u8 0, .int .u8 0] 185)) #[.int .i64 0, .int .i64 0, .int .i64 0] 39)
  obtain ⟨d, hd⟩ : ∃ d, w.heap.size = d := ⟨_, rfl⟩
  have HDe := Hi hd
  rw [show (w.alloc (.cells #[.int .u8 0, .int .u8 0, .int .u8 0, .int .u8 0] 185)).heap.size = d + 1 by rw [← hd]; simp] at OF
  rw [hd] at OC
  have JA := Hi (h.keep hC)
  have CH := Hi (hC.mono (S' := qS K) (fun _ _ h => h.elim))
  have JL := Hi h.jlt
  rw [hd] at JL
  have HBR := Hi (fun w0 (h0 : QAt w0 N K σ) => qbits_any N K σ w0 h0 h1 h2 h3)
  have HFA := Hi (fun w0 (τ : QS) (h0 : QAt w0 N K τ) => qfault_any N K τ w0 h0)
  have HAT := Hi (fun w0 (τ : QS) (h0 : QAt w0 N K τ) => qat_any N K τ w0 h0)
  have HOF := Hi (fun w0 (τ : QS) (e : Int) (h0 : QAt w0 N K τ) => qof_any N K τ e w0 h0 hp)
  have HPV := Hi (show K.pv = .pointer (some ⟨K.P, 0, none⟩) by unfold QK.pv; rw [hp]; rfl)
  have HA9 := Hi (show ((K.bits σ).1.a : Int) ≤ 9223372036854775807 by have h4 := (qbits_a h); have h5 := h.pr.src.ok.es; have h6 := h.pr.src.ok.sz; have h7 : (K.sr σ).e = K.x.e := rfl; have h8 : (K.sr σ).s = K.x.s := rfl; rw [h7, h8] at h5; rw [h8] at h6; omega)
  have HB0 := Hi (show ∀ τ : QS, 0 ≤ (τ.a : Int) from fun τ => by omega)
  obtain ⟨τ, hτ⟩ : ∃ τ, (K.bits σ).1 = τ := ⟨_, rfl⟩
  obtain ⟨b, hb⟩ : ∃ b, (K.bits σ).2 = b := ⟨_, rfl⟩
  have HR := Hi (show K.num σ = K.nmB τ b by unfold QK.num; rw [hτ, hb])
  rw [hτ, hb] at HBR
  rw [hτ] at HA9
  clear h h1 h2 h3 hp hC hτ hb
  cases b with
  | none =>
    have HBR := Hi (fun w0 h0 => (HBR.out w0 h0).mono (R' := fun e w' => e = .returned (.tuple #[.int .i64 0, .bool false]) ∧ QAt w' N K τ ∧ Chg (qS K) w0 w') fun e w' hh => hh)
    go_enter Tryz.func171, Tryz.ntmps171
    go_upto_region 1 with (fail)
    clear hd
    generalize World.alloc _ _ = wr at OC OF JA CH ⊢
    refine wp_region_noPanic ?_
    refine wp_region_held_drew (S := fun w' => Chg (qS K) wr w') (by kernel_rfl) (Chg.refl _ _).drew (fun hHeld => ?_)
    refine wpAnyH_take (i := 0) (v := .pointer (some ⟨N, 0, none⟩)) rfl (by kernel_rfl) (by kernel_rfl) (by kernel_rfl) (fun _ _ _ h => h) (Or.inl ⟨by rfl, fun w hS => by (go_simp) <;> first | rfl | assumption | (intro hh; exfalso; omega) | (exact (i64_wraps _ (by omega) (by omega)).trans (by omega)) | omega⟩) hHeld ?_
    simp only [Act.put, zq1, zq2, zq3, zq4, zq5, zq6]
    refine wpAnyH_take (i := 1) (v := .pointer (some ⟨N, 0, none⟩)) rfl (by kernel_rfl) (by kernel_rfl) (by kernel_rfl) (fun _ _ _ h => h) (Or.inl ⟨by rfl, fun w hS => by (go_simp) <;> first | rfl | assumption | (intro hh; exfalso; omega) | (exact (i64_wraps _ (by omega) (by omega)).trans (by omega)) | omega⟩) hHeld ?_
    simp only [Act.put, zq1, zq2, zq3, zq4, zq5, zq6]
    refine wpAnyH_take (i := 2) (v := .pointer (some ⟨N, 1, none⟩)) rfl (by kernel_rfl) (by kernel_rfl) (by kernel_rfl) (fun _ _ _ h => h) (Or.inl ⟨by rfl, fun w hS => by (go_simp) <;> first | rfl | assumption | (intro hh; exfalso; omega) | (exact (i64_wraps _ (by omega) (by omega)).trans (by omega)) | omega⟩) hHeld ?_
    simp only [Act.put, zq1, zq2, zq3, zq4, zq5, zq6]
    refine wpAnyH_take (i := 3) (v := .pointer (some ⟨K.B, 0, none⟩)) rfl (by kernel_rfl) (by kernel_rfl) (by kernel_rfl) (fun _ _ _ h => h) (Or.inl ⟨by rfl, fun w hS => by (have hc : w.cell? ⟨N, 1, none⟩ = some (.pointer (some ⟨K.B, 0, none⟩)) := (hS.cell (b := N) (o := 1) JA.out.rw_.lt JA.out.nN).trans (JA.out.cell 1 (.pointer (some ⟨K.B, 0, none⟩)) rfl); go_simp)⟩) hHeld ?_
    simp only [Act.put, zq1, zq2, zq3, zq4, zq5, zq6]
    refine wpAnyH_take (i := 4) (v := .pointer (some ⟨N, 0, none⟩)) rfl (by kernel_rfl) (by kernel_rfl) (by kernel_rfl) (fun _ _ _ h => h) (Or.inl ⟨by rfl, fun w hS => by (go_simp) <;> first | rfl | assumption | (intro hh; exfalso; omega) | (exact (i64_wraps _ (by omega) (by omega)).trans (by omega)) | omega⟩) hHeld ?_
    simp only [Act.put, zq1, zq2, zq3, zq4, zq5, zq6]
    refine wpAnyH_take (i := 5) (v := .pointer (some ⟨N, 0, none⟩)) rfl (by kernel_rfl) (by kernel_rfl) (by kernel_rfl) (fun _ _ _ h => h) (Or.inl ⟨by rfl, fun w hS => by (go_simp) <;> first | rfl | assumption | (intro hh; exfalso; omega) | (exact (i64_wraps _ (by omega) (by omega)).trans (by omega)) | omega⟩) hHeld ?_
    simp only [Act.put, zq1, zq2, zq3, zq4, zq5, zq6]
    refine wpAnyH_take (i := 6) (v := .pointer (some ⟨N, 2, none⟩)) rfl (by kernel_rfl) (by kernel_rfl) (by kernel_rfl) (fun _ _ _ h => h) (Or.inl ⟨by rfl, fun w hS => by (go_simp) <;> first | rfl | assumption | (intro hh; exfalso; omega) | (exact (i64_wraps _ (by omega) (by omega)).trans (by omega)) | omega⟩) hHeld ?_
    simp only [Act.put, zq1, zq2, zq3, zq4, zq5, zq6]
    refine wpAnyH_take (i := 7) (v := .pointer (some ⟨N, 6, none⟩)) rfl (by kernel_rfl) (by kernel_rfl) (by kernel_rfl) (fun _ _ _ h => h) (Or.inl ⟨by rfl, fun w hS => by (go_simp) <;> first | rfl | assumption | (intro hh; exfalso; omega) | (exact (i64_wraps _ (by omega) (by omega)).trans (by omega)) | omega⟩) hHeld ?_
    simp only [Act.put, zq1, zq2, zq3, zq4, zq5, zq6]
    refine wpAnyH_take (i := 8) (v := .int .i64 K.dp) rfl (by kernel_rfl) (by kernel_rfl) (by kernel_rfl) (fun _ _ _ h => h) (Or.inl ⟨by rfl, fun w hS => by (have hc : w.cell? ⟨N, 6, none⟩ = some (.int .i64 K.dp) := (hS.cell (b := N) (o := 6) JA.out.rw_.lt JA.out.nN).trans (JA.out.cell 6 (.int .i64 K.dp) rfl); go_simp)⟩) hHeld ?_
    simp only [Act.put, zq1, zq2, zq3, zq4, zq5, zq6]
    have hS := (Chg.refl (qS K) wr).drew
    have hF := (Chg.refl (fun _ => False) wr).drew
    generalize World.drew _ = wk at hS hF ⊢
    have JA := Hi (JA.out.keep hF)
    have OC := Hi (hF.obj OC.out (fun h => h))
    have OF := Hi (hF.obj OF.out (fun h => h))
    refine wpAnyH_ready (rs := [9]) (by kernel_rfl) (by simp) ?_
    refine AllReadyH.cons (o := _) rfl (fun K' hK => ?_) AllReadyH.nil
    go_simp
    with_reducible refine (HBR.out _ JA.out).mono ?_
    rintro e6 wv ⟨rfl, hj1, hc1⟩
    have JA := Hi hj1
    have OC := Hi (hc1.obj OC.out (not_qS JL.out (by omega)))
    have OF := Hi (hc1.obj OF.out (not_qS JL.out (by omega)))
    have hS := hS.trans hc1
    clear hj1 hc1
    go_wp2_with fail
    refine hK _ _ hS (fun hH2 => ?_)
    clear hK K'
    try simp only [Act.put, zq1, zq2, zq3, zq4, zq5, zq6]
    refine wpAnyH_take (i := 10) (v := .tuple #[.int .i64 0, .bool false]) rfl (by kernel_rfl) (by kernel_rfl) (by kernel_rfl) (fun _ _ _ h => h) (Or.inl ⟨by rfl, fun w hS => by go_simp⟩) hH2 ?_
    simp only [Act.put, zq1, zq2, zq3, zq4, zq5, zq6]
    refine wpAnyH_take (i := 11) (v := .int .i64 0) rfl (by kernel_rfl) (by kernel_rfl) (by kernel_rfl) (fun _ _ _ h => h) (Or.inl ⟨by rfl, fun w hS => by go_simp⟩) hH2 ?_
    simp only [Act.put, zq1, zq2, zq3, zq4, zq5, zq6]
    refine wpAnyH_take (i := 12) (v := .bool false) rfl (by kernel_rfl) (by kernel_rfl) (by kernel_rfl) (fun _ _ _ h => h) (Or.inl ⟨by rfl, fun w hS => by go_simp⟩) hH2 ?_
    simp only [Act.put, zq1, zq2, zq3, zq4, zq5, zq6]
    refine wpAnyH_take (i := 13) (v := .int .i64 0) rfl (by kernel_rfl) (by kernel_rfl) (by kernel_rfl) (fun _ _ _ h => h) (Or.inl ⟨by rfl, fun w hS => by go_simp⟩) hH2 ?_
    simp only [Act.put, zq1, zq2, zq3, zq4, zq5, zq6]
    refine wpAnyH_take (i := 14) (v := .bool false) rfl (by kernel_rfl) (by kernel_rfl) (by kernel_rfl) (fun _ _ _ h => h) (Or.inl ⟨by rfl, fun w hS => by go_simp⟩) hH2 ?_
    simp only [Act.put, zq1, zq2, zq3, zq4, zq5, zq6]
    refine wpAnyH_done (by kernel_rfl) ?_ _
    refine NoPanic.normal ?_
    have CH := Hi (CH.out.trans hS)
    go_upto_region 3 with (fail)
    refine wp_region_noPanic ?_
    refine wp_region_held_drew (S := fun w' => Chg (fun k => k = d ∨ k = d + 1) wv w') (by kernel_rfl) (Chg.refl _ _).drew (fun hHeld => ?_)
    refine wpAnyH_take (i := 0) (v := .agg #[.int .u8 0, .int .u8 0, .int .u8 0, .int .u8 0]) rfl (by kernel_rfl) (by kernel_rfl) (by kernel_rfl) (fun _ _ _ h => h) (Or.inl ⟨by rfl, fun w hS => by go_simp⟩) hHeld ?_
    simp only [Act.put, zq1, zq2, zq3, zq4, zq5, zq6]
    refine wpAnyH_take (i := 1) (v := .pointer (some ⟨N, 0, none⟩)) rfl (by kernel_rfl) (by kernel_rfl) (by kernel_rfl) (fun _ _ _ h => h) (Or.inl ⟨by rfl, fun w hS => by (go_simp) <;> first | rfl | assumption | (intro hh; exfalso; omega) | (exact (i64_wraps _ (by omega) (by omega)).trans (by omega)) | omega⟩) hHeld ?_
    simp only [Act.put, zq1, zq2, zq3, zq4, zq5, zq6]
    refine wpAnyH_take (i := 2) (v := .pointer (some ⟨N, 0, none⟩)) rfl (by kernel_rfl) (by kernel_rfl) (by kernel_rfl) (fun _ _ _ h => h) (Or.inl ⟨by rfl, fun w hS => by (go_simp) <;> first | rfl | assumption | (intro hh; exfalso; omega) | (exact (i64_wraps _ (by omega) (by omega)).trans (by omega)) | omega⟩) hHeld ?_
    simp only [Act.put, zq1, zq2, zq3, zq4, zq5, zq6]
    refine wpAnyH_take (i := 3) (v := .pointer (some ⟨N, 0, none⟩)) rfl (by kernel_rfl) (by kernel_rfl) (by kernel_rfl) (fun _ _ _ h => h) (Or.inl ⟨by rfl, fun w hS => by (go_simp) <;> first | rfl | assumption | (intro hh; exfalso; omega) | (exact (i64_wraps _ (by omega) (by omega)).trans (by omega)) | omega⟩) hHeld ?_
    simp only [Act.put, zq1, zq2, zq3, zq4, zq5, zq6]
    refine wpAnyH_take (i := 4) (v := .pointer (some ⟨K.X, 0, none⟩)) rfl (by kernel_rfl) (by kernel_rfl) (by kernel_rfl) (fun _ _ _ h => h) (Or.inl ⟨by rfl, fun w hS => by (have hc : w.cell? ⟨N, 0, none⟩ = some (.pointer (some ⟨K.X, 0, none⟩)) := (hS.cell (b := N) (o := 0) JA.out.rw_.lt (show ¬ (N = d ∨ N = d + 1) by have := JL.out.n; omega)).trans (JA.out.cell 0 (.pointer (some ⟨K.X, 0, none⟩)) rfl); go_simp)⟩) hHeld ?_
    simp only [Act.put, zq1, zq2, zq3, zq4, zq5, zq6]
    refine wpAnyH_take (i := 5) (v := .pointer (some ⟨N, 0, none⟩)) rfl (by kernel_rfl) (by kernel_rfl) (by kernel_rfl) (fun _ _ _ h => h) (Or.inl ⟨by rfl, fun w hS => by (go_simp) <;> first | rfl | assumption | (intro hh; exfalso; omega) | (exact (i64_wraps _ (by omega) (by omega)).trans (by omega)) | omega⟩) hHeld ?_
    simp only [Act.put, zq1, zq2, zq3, zq4, zq5, zq6]
    refine wpAnyH_take (i := 6) (v := .pointer (some ⟨N, 0, none⟩)) rfl (by kernel_rfl) (by kernel_rfl) (by kernel_rfl) (fun _ _ _ h => h) (Or.inl ⟨by rfl, fun w hS => by (go_simp) <;> first | rfl | assumption | (intro hh; exfalso; omega) | (exact (i64_wraps _ (by omega) (by omega)).trans (by omega)) | omega⟩) hHeld ?_
    simp only [Act.put, zq1, zq2, zq3, zq4, zq5, zq6]
    refine wpAnyH_take (i := 7) (v := .pointer (some ⟨N, 27, none⟩)) rfl (by kernel_rfl) (by kernel_rfl) (by kernel_rfl) (fun _ _ _ h => h) (Or.inl ⟨by rfl, fun w hS => by (go_simp) <;> first | rfl | assumption | (intro hh; exfalso; omega) | (exact (i64_wraps _ (by omega) (by omega)).trans (by omega)) | omega⟩) hHeld ?_
    simp only [Act.put, zq1, zq2, zq3, zq4, zq5, zq6]
    refine wpAnyH_take (i := 8) (v := .int .i64 K.f) rfl (by kernel_rfl) (by kernel_rfl) (by kernel_rfl) (fun _ _ _ h => h) (Or.inl ⟨by rfl, fun w hS => by (have hc : w.cell? ⟨N, 27, none⟩ = some (.int .i64 K.f) := (hS.cell (b := N) (o := 27) JA.out.rw_.lt (show ¬ (N = d ∨ N = d + 1) by have := JL.out.n; omega)).trans (JA.out.cell 27 (.int .i64 K.f) rfl); go_simp)⟩) hHeld ?_
    simp only [Act.put, zq1, zq2, zq3, zq4, zq5, zq6]
    have hS := (Chg.refl (fun k => k = d ∨ k = d + 1) wv).drew
    have hF := (Chg.refl (fun _ => False) wv).drew
    generalize World.drew _ = wk at hS hF ⊢
    have JA := Hi (JA.out.keep hF)
    have OC := Hi (hF.obj OC.out (fun h => h))
    have OF := Hi (hF.obj OF.out (fun h => h))
    refine wpAnyH_ready (rs := [9]) (by kernel_rfl) (by simp) ?_
    refine AllReadyH.cons (o := _) rfl (fun K' hK => ?_) AllReadyH.nil
    go_simp
    with_reducible refine (HFA.out _ _ JA.out).mono ?_
    rintro e6 w6 ⟨rfl, hb6⟩
    have JA := Hi (JA.out.below hb6)
    have OC := Hi (OC.out.below hb6 OC.out.lt)
    have OF := Hi (OF.out.below hb6 OF.out.lt)
    have hS := hS.trans (chg_of_below hb6 _)
    go_wp2_with fail
    refine hK _ _ hS (fun hH2 => ?_)
    clear hK K'
    try simp only [Act.put, zq1, zq2, zq3, zq4, zq5, zq6]
    refine wpAnyH_ready (rs := [10]) (by kernel_rfl) (by simp) ?_
    refine AllReadyH.cons (o := _) rfl (fun K' hK => ?_) AllReadyH.nil
    rw [if_pos (by rfl)]
    refine wp_store_mid 185 _ _ rfl (d) 0 (c4v c4z).toArray rfl rfl (by have := OC.out.there 0 4 (by simp); simpa [c4v_len, fc_len] using this) (by first | kernel_rfl) (by have := c4v_one c4z; simpa using this) ?_
    simp only [Act.put, zq1, zq2, zq3, zq4, zq5, zq6]
    have hst : Stored w6 (d) 0 (c4v c4z) (w6.setCells (d) 0 (c4v c4z)) := rfl
    have OC := Hi (hst.whole OC.out rfl)
    have OF := Hi (hst.oth OF.out (by omega))
    have JA := Hi (JA.out.stored JL.out hst (by omega))
    have hS := Stored.chgS hst hS (Or.inl (by first | exact Or.inl rfl | exact Or.inr rfl))
    generalize World.setCells _ _ _ _ = w7 at JA hS OC OF ⊢
    clear hst
    refine hK _ _ hS (fun hH3 => ?_)
    clear hK K'
    try simp only [Act.put, zq1, zq2, zq3, zq4, zq5, zq6]
    refine wpAnyH_ready (rs := [11]) (by kernel_rfl) (by simp) ?_
    refine AllReadyH.cons (o := _) rfl (fun K' hK => ?_) AllReadyH.nil
    rw [if_pos (by rfl)]
    refine wp_store_mid 39 _ _ rfl (d + 1) 0 (fc K.f (K.ft τ.l τ.a)).toArray rfl rfl (by have := OF.out.there 0 3 (by simp); simpa [c4v_len, fc_len] using this) (by first | kernel_rfl) (by have := fc_one K.f (K.ft τ.l τ.a); simpa using this) ?_
    simp only [Act.put, zq1, zq2, zq3, zq4, zq5, zq6]
    have hst : Stored w7 (d + 1) 0 (fc K.f (K.ft τ.l τ.a)) (w7.setCells (d + 1) 0 (fc K.f (K.ft τ.l τ.a))) := rfl
    have OF := Hi (hst.whole OF.out rfl)
    have OC := Hi (hst.oth OC.out (by omega))
    have JA := Hi (JA.out.stored JL.out hst (by omega))
    have hS := Stored.chgS hst hS (Or.inl (by first | exact Or.inl rfl | exact Or.inr rfl))
    generalize World.setCells _ _ _ _ = w8 at JA hS OC OF ⊢
    clear hst
    refine hK _ _ hS (fun hH4 => ?_)
    clear hK K'
    try simp only [Act.put, zq1, zq2, zq3, zq4, zq5, zq6]
    refine wpAnyH_done (by kernel_rfl) ?_ _
    refine NoPanic.normal ?_
    have CH := Hi (CH.out.after hS (fun k hk hk2 => by have := HDe.out; rcases hk2 with hk2 | hk2 <;> omega))
    go_wp2_with fail
    refine bodyPost_ret (v := .tuple #[.agg (c4v c4z).toArray, .agg (fc K.f (K.ft τ.l τ.a)).toArray]) ?_ rfl ⟨by rw [HR.out]; rfl, by rw [HR.out]; exact JA.out, CH.out⟩
    exact results_cc Tryz.results171 _ _ _ _ (c4v c4z) (fc K.f (K.ft τ.l τ.a)) _ _ rfl OC.out.range0 Tryz.underlying185 rfl (by kernel_rfl) rfl OF.out.range0 Tryz.underlying39 rfl (by kernel_rfl)
  | some v =>
    have HBR := Hi (fun w0 h0 => (HBR.out w0 h0).mono (R' := fun e w' => e = .returned (.tuple #[.int .i64 v, .bool true]) ∧ QAt w' N K τ ∧ Chg (qS K) w0 w') fun e w' hh => hh)
    go_enter Tryz.func171, Tryz.ntmps171
    go_upto_region 1 with (fail)
    clear hd
    generalize World.alloc _ _ = wr at OC OF JA CH ⊢
    refine wp_region_noPanic ?_
    refine wp_region_held_drew (S := fun w' => Chg (qS K) wr w') (by kernel_rfl) (Chg.refl _ _).drew (fun hHeld => ?_)
    refine wpAnyH_take (i := 0) (v := .pointer (some ⟨N, 0, none⟩)) rfl (by kernel_rfl) (by kernel_rfl) (by kernel_rfl) (fun _ _ _ h => h) (Or.inl ⟨by rfl, fun w hS => by (go_simp) <;> first | rfl | assumption | (intro hh; exfalso; omega) | (exact (i64_wraps _ (by omega) (by omega)).trans (by omega)) | omega⟩) hHeld ?_
    simp only [Act.put, zq1, zq2, zq3, zq4, zq5, zq6]
    refine wpAnyH_take (i := 1) (v := .pointer (some ⟨N, 0, none⟩)) rfl (by kernel_rfl) (by kernel_rfl) (by kernel_rfl) (fun _ _ _ h => h) (Or.inl ⟨by rfl, fun w hS => by (go_simp) <;> first | rfl | assumption | (intro hh; exfalso; omega) | (exact (i64_wraps _ (by omega) (by omega)).trans (by omega)) | omega⟩) hHeld ?_
    simp only [Act.put, zq1, zq2, zq3, zq4, zq5, zq6]
    refine wpAnyH_take (i := 2) (v := .pointer (some ⟨N, 1, none⟩)) rfl (by kernel_rfl) (by kernel_rfl) (by kernel_rfl) (fun _ _ _ h => h) (Or.inl ⟨by rfl, fun w hS => by (go_simp) <;> first | rfl | assumption | (intro hh; exfalso; omega) | (exact (i64_wraps _ (by omega) (by omega)).trans (by omega)) | omega⟩) hHeld ?_
    simp only [Act.put, zq1, zq2, zq3, zq4, zq5, zq6]
    refine wpAnyH_take (i := 3) (v := .pointer (some ⟨K.B, 0, none⟩)) rfl (by kernel_rfl) (by kernel_rfl) (by kernel_rfl) (fun _ _ _ h => h) (Or.inl ⟨by rfl, fun w hS => by (have hc : w.cell? ⟨N, 1, none⟩ = some (.pointer (some ⟨K.B, 0, none⟩)) := (hS.cell (b := N) (o := 1) JA.out.rw_.lt JA.out.nN).trans (JA.out.cell 1 (.pointer (some ⟨K.B, 0, none⟩)) rfl); go_simp)⟩) hHeld ?_
    simp only [Act.put, zq1, zq2, zq3, zq4, zq5, zq6]
    refine wpAnyH_take (i := 4) (v := .pointer (some ⟨N, 0, none⟩)) rfl (by kernel_rfl) (by kernel_rfl) (by kernel_rfl) (fun _ _ _ h => h) (Or.inl ⟨by rfl, fun w hS => by (go_simp) <;> first | rfl | assumption | (intro hh; exfalso; omega) | (exact (i64_wraps _ (by omega) (by omega)).trans (by omega)) | omega⟩) hHeld ?_
    simp only [Act.put, zq1, zq2, zq3, zq4, zq5, zq6]
    refine wpAnyH_take (i := 5) (v := .pointer (some ⟨N, 0, none⟩)) rfl (by kernel_rfl) (by kernel_rfl) (by kernel_rfl) (fun _ _ _ h => h) (Or.inl ⟨by rfl, fun w hS => by (go_simp) <;> first | rfl | assumption | (intro hh; exfalso; omega) | (exact (i64_wraps _ (by omega) (by omega)).trans (by omega)) | omega⟩) hHeld ?_
    simp only [Act.put, zq1, zq2, zq3, zq4, zq5, zq6]
    refine wpAnyH_take (i := 6) (v := .pointer (some ⟨N, 2, none⟩)) rfl (by kernel_rfl) (by kernel_rfl) (by kernel_rfl) (fun _ _ _ h => h) (Or.inl ⟨by rfl, fun w hS => by (go_simp) <;> first | rfl | assumption | (intro hh; exfalso; omega) | (exact (i64_wraps _ (by omega) (by omega)).trans (by omega)) | omega⟩) hHeld ?_
    simp only [Act.put, zq1, zq2, zq3, zq4, zq5, zq6]
    refine wpAnyH_take (i := 7) (v := .pointer (some ⟨N, 6, none⟩)) rfl (by kernel_rfl) (by kernel_rfl) (by kernel_rfl) (fun _ _ _ h => h) (Or.inl ⟨by rfl, fun w hS => by (go_simp) <;> first | rfl | assumption | (intro hh; exfalso; omega) | (exact (i64_wraps _ (by omega) (by omega)).trans (by omega)) | omega⟩) hHeld ?_
    simp only [Act.put, zq1, zq2, zq3, zq4, zq5, zq6]
    refine wpAnyH_take (i := 8) (v := .int .i64 K.dp) rfl (by kernel_rfl) (by kernel_rfl) (by kernel_rfl) (fun _ _ _ h => h) (Or.inl ⟨by rfl, fun w hS => by (have hc : w.cell? ⟨N, 6, none⟩ = some (.int .i64 K.dp) := (hS.cell (b := N) (o := 6) JA.out.rw_.lt JA.out.nN).trans (JA.out.cell 6 (.int .i64 K.dp) rfl); go_simp)⟩) hHeld ?_
    simp only [Act.put, zq1, zq2, zq3, zq4, zq5, zq6]
    have hS := (Chg.refl (qS K) wr).drew
    have hF := (Chg.refl (fun _ => False) wr).drew
    generalize World.drew _ = wk at hS hF ⊢
    have JA := Hi (JA.out.keep hF)
    have OC := Hi (hF.obj OC.out (fun h => h))
    have OF := Hi (hF.obj OF.out (fun h => h))
    refine wpAnyH_ready (rs := [9]) (by kernel_rfl) (by simp) ?_
    refine AllReadyH.cons (o := _) rfl (fun K' hK => ?_) AllReadyH.nil
    go_simp
    with_reducible refine (HBR.out _ JA.out).mono ?_
    rintro e6 wv ⟨rfl, hj1, hc1⟩
    have JA := Hi hj1
    have OC := Hi (hc1.obj OC.out (not_qS JL.out (by omega)))
    have OF := Hi (hc1.obj OF.out (not_qS JL.out (by omega)))
    have hS := hS.trans hc1
    clear hj1 hc1
    go_wp2_with fail
    refine hK _ _ hS (fun hH2 => ?_)
    clear hK K'
    try simp only [Act.put, zq1, zq2, zq3, zq4, zq5, zq6]
    refine wpAnyH_take (i := 10) (v := .tuple #[.int .i64 (v : Int), .bool true]) rfl (by kernel_rfl) (by kernel_rfl) (by kernel_rfl) (fun _ _ _ h => h) (Or.inl ⟨by rfl, fun w hS => by go_simp⟩) hH2 ?_
    simp only [Act.put, zq1, zq2, zq3, zq4, zq5, zq6]
    refine wpAnyH_take (i := 11) (v := .int .i64 (v : Int)) rfl (by kernel_rfl) (by kernel_rfl) (by kernel_rfl) (fun _ _ _ h => h) (Or.inl ⟨by rfl, fun w hS => by go_simp⟩) hH2 ?_
    simp only [Act.put, zq1, zq2, zq3, zq4, zq5, zq6]
    refine wpAnyH_take (i := 12) (v := .bool true) rfl (by kernel_rfl) (by kernel_rfl) (by kernel_rfl) (fun _ _ _ h => h) (Or.inl ⟨by rfl, fun w hS => by go_simp⟩) hH2 ?_
    simp only [Act.put, zq1, zq2, zq3, zq4, zq5, zq6]
    refine wpAnyH_take (i := 13) (v := .int .i64 (v : Int)) rfl (by kernel_rfl) (by kernel_rfl) (by kernel_rfl) (fun _ _ _ h => h) (Or.inl ⟨by rfl, fun w hS => by go_simp⟩) hH2 ?_
    simp only [Act.put, zq1, zq2, zq3, zq4, zq5, zq6]
    refine wpAnyH_take (i := 14) (v := .bool true) rfl (by kernel_rfl) (by kernel_rfl) (by kernel_rfl) (fun _ _ _ h => h) (Or.inl ⟨by rfl, fun w hS => by go_simp⟩) hH2 ?_
    simp only [Act.put, zq1, zq2, zq3, zq4, zq5, zq6]
    refine wpAnyH_done (by kernel_rfl) ?_ _
    refine NoPanic.normal ?_
    have CH := Hi (CH.out.trans hS)
    have k18 := JA.out.cell 18 (.pointer (some ⟨K.P, 0, none⟩)) (by rw [← HPV.out]; rfl)
    cases hh : K.p.has (v : Int) with
    | false =>
      have HOF := Hi (fun w0 (h0 : QAt w0 N K τ) => (HOF.out w0 τ (v : Int) h0).mono (R' := fun e' w' => e' = .returned (.tuple #[.agg (c4v c4z).toArray, .bool false]) ∧ Chg (fun _ => False) w0 w') fun e' w' hq => by rw [hh] at hq; exact hq)
      go_wp2_with fail
      with_reducible refine (HOF.out _ JA.out).mono ?_
      rintro e w6 ⟨rfl, hc⟩
      have JA := Hi (JA.out.keep hc)
      have OC := Hi (hc.obj OC.out (fun h => h))
      have OF := Hi (hc.obj OF.out (fun h => h))
      have CH := Hi (CH.out.trans (hc.mono (fun _ _ h => h.elim)))
      clear hc
      clear k18
      obtain ⟨dv, hdv⟩ : ∃ b, w6.heap.size = b := ⟨_, rfl⟩
      have lzdv := OF.out.lt
      have OV := Hi (obj1_new w6 #[.int .u8 0, .int .u8 0, .int .u8 0, .int .u8 0] 185)
      rw [hdv] at OV lzdv
      have JA := Hi (JA.out.alloc (.cells #[.int .u8 0, .int .u8 0, .int .u8 0, .int .u8 0] 185))
      have CH := Hi (CH.out.alloc (.cells #[.int .u8 0, .int .u8 0, .int .u8 0, .int .u8 0] 185))
      have OC := Hi (OC.out.alloc (.cells #[.int .u8 0, .int .u8 0, .int .u8 0, .int .u8 0] 185))
      have OF := Hi (OF.out.alloc (.cells #[.int .u8 0, .int .u8 0, .int .u8 0, .int .u8 0] 185))
      go_upto_region 5 with (first
        | (refine store_o rfl 185 4 _ _ rfl (dv) (c4v c4z) rfl rfl (by kernel_rfl) (by kernel_rfl) (by kernel_rfl) OV.out (by first | rfl | simp) ?_; intro ws hst hO; have OV := Hi hO; have JA := Hi (JA.out.stored JL.out hst (by omega)); have OC := Hi (hst.oth OC.out (by omega)); have OF := Hi (hst.oth OF.out (by omega)); have CH := Hi (Stored.chgS hst CH.out (Or.inr (by have := HDe.out; omega))); clear hst hO))
      clear hdv
      have HR := Hi (show K.num σ = (τ, (c4z, (2, (τ.a : Int) - 1))) by rw [HR.out]; exact if_neg (by rw [hh]; decide))
      clear hh
      go_upto_region 6 with (fail)
      refine wp_region_noPanic ?_
      refine wp_region_held_drew (S := fun w' => Chg (fun k => k = d ∨ k = d + 1) ws w') (by kernel_rfl) (Chg.refl _ _).drew (fun hHeld => ?_)
      refine wpAnyH_take (i := 0) (v := .agg #[.int .u8 0, .int .u8 0, .int .u8 0, .int .u8 0]) rfl (by kernel_rfl) (by kernel_rfl) (by kernel_rfl) (fun _ _ _ h => h) (Or.inl ⟨by rfl, fun w hS => by go_simp⟩) hHeld ?_
      simp only [Act.put, zq1, zq2, zq3, zq4, zq5, zq6]
      refine wpAnyH_take (i := 1) (v := .pointer (some ⟨N, 0, none⟩)) rfl (by kernel_rfl) (by kernel_rfl) (by kernel_rfl) (fun _ _ _ h => h) (Or.inl ⟨by rfl, fun w hS => by (go_simp) <;> first | rfl | assumption | (intro hh; exfalso; omega) | (exact (i64_wraps _ (by omega) (by omega)).trans (by omega)) | omega⟩) hHeld ?_
      simp only [Act.put, zq1, zq2, zq3, zq4, zq5, zq6]
      refine wpAnyH_take (i := 2) (v := .pointer (some ⟨N, 0, none⟩)) rfl (by kernel_rfl) (by kernel_rfl) (by kernel_rfl) (fun _ _ _ h => h) (Or.inl ⟨by rfl, fun w hS => by (go_simp) <;> first | rfl | assumption | (intro hh; exfalso; omega) | (exact (i64_wraps _ (by omega) (by omega)).trans (by omega)) | omega⟩) hHeld ?_
      simp only [Act.put, zq1, zq2, zq3, zq4, zq5, zq6]
      refine wpAnyH_take (i := 3) (v := .pointer (some ⟨N, 27, none⟩)) rfl (by kernel_rfl) (by kernel_rfl) (by kernel_rfl) (fun _ _ _ h => h) (Or.inl ⟨by rfl, fun w hS => by (go_simp) <;> first | rfl | assumption | (intro hh; exfalso; omega) | (exact (i64_wraps _ (by omega) (by omega)).trans (by omega)) | omega⟩) hHeld ?_
      simp only [Act.put, zq1, zq2, zq3, zq4, zq5, zq6]
      refine wpAnyH_take (i := 4) (v := .int .i64 K.f) rfl (by kernel_rfl) (by kernel_rfl) (by kernel_rfl) (fun _ _ _ h => h) (Or.inl ⟨by rfl, fun w hS => by (have hc : w.cell? ⟨N, 27, none⟩ = some (.int .i64 K.f) := (hS.cell (b := N) (o := 27) JA.out.rw_.lt (show ¬ (N = d ∨ N = d + 1) by have := JL.out.n; omega)).trans (JA.out.cell 27 (.int .i64 K.f) rfl); go_simp)⟩) hHeld ?_
      simp only [Act.put, zq1, zq2, zq3, zq4, zq5, zq6]
      refine wpAnyH_take (i := 5) (v := .pointer (some ⟨N, 0, none⟩)) rfl (by kernel_rfl) (by kernel_rfl) (by kernel_rfl) (fun _ _ _ h => h) (Or.inl ⟨by rfl, fun w hS => by (go_simp) <;> first | rfl | assumption | (intro hh; exfalso; omega) | (exact (i64_wraps _ (by omega) (by omega)).trans (by omega)) | omega⟩) hHeld ?_
      simp only [Act.put, zq1, zq2, zq3, zq4, zq5, zq6]
      refine wpAnyH_take (i := 6) (v := .pointer (some ⟨N, 0, none⟩)) rfl (by kernel_rfl) (by kernel_rfl) (by kernel_rfl) (fun _ _ _ h => h) (Or.inl ⟨by rfl, fun w hS => by (go_simp) <;> first | rfl | assumption | (intro hh; exfalso; omega) | (exact (i64_wraps _ (by omega) (by omega)).trans (by omega)) | omega⟩) hHeld ?_
      simp only [Act.put, zq1, zq2, zq3, zq4, zq5, zq6]
      refine wpAnyH_take (i := 7) (v := .pointer (some ⟨N, 0, none⟩)) rfl (by kernel_rfl) (by kernel_rfl) (by kernel_rfl) (fun _ _ _ h => h) (Or.inl ⟨by rfl, fun w hS => by (go_simp) <;> first | rfl | assumption | (intro hh; exfalso; omega) | (exact (i64_wraps _ (by omega) (by omega)).trans (by omega)) | omega⟩) hHeld ?_
      simp only [Act.put, zq1, zq2, zq3, zq4, zq5, zq6]
      refine wpAnyH_take (i := 8) (v := .pointer (some ⟨K.X, 0, none⟩)) rfl (by kernel_rfl) (by kernel_rfl) (by kernel_rfl) (fun _ _ _ h => h) (Or.inl ⟨by rfl, fun w hS => by (have hc : w.cell? ⟨N, 0, none⟩ = some (.pointer (some ⟨K.X, 0, none⟩)) := (hS.cell (b := N) (o := 0) JA.out.rw_.lt (show ¬ (N = d ∨ N = d + 1) by have := JL.out.n; omega)).trans (JA.out.cell 0 (.pointer (some ⟨K.X, 0, none⟩)) rfl); go_simp)⟩) hHeld ?_
      simp only [Act.put, zq1, zq2, zq3, zq4, zq5, zq6]
      have hS := (Chg.refl (fun k => k = d ∨ k = d + 1) ws).drew
      have hF := (Chg.refl (fun _ => False) ws).drew
      generalize World.drew _ = wk at hS hF ⊢
      have JA := Hi (JA.out.keep hF)
      have OC := Hi (hF.obj OC.out (fun h => h))
      have OF := Hi (hF.obj OF.out (fun h => h))
      have OV := Hi (hF.obj OV.out (fun h => h))
      refine wpAnyH_ready (rs := [9]) (by kernel_rfl) (by simp) ?_
      refine AllReadyH.cons (o := _) rfl (fun K' hK => ?_) AllReadyH.nil
      go_simp
      with_reducible refine (HAT.out _ _ JA.out).mono ?_
      rintro e6 w7 ⟨rfl, rfl⟩
      go_wp2_with fail
      refine hK _ _ hS (fun hH2 => ?_)
      clear hK K'
      try simp only [Act.put, zq1, zq2, zq3, zq4, zq5, zq6]
      refine wpAnyH_take (i := 10) (v := .int .i64 ((τ.a : Int) - 1)) rfl (by kernel_rfl) (by kernel_rfl) (by kernel_rfl) (fun _ _ _ h => h) (Or.inl ⟨by rfl, fun w hS => by (go_simp; rw [IntKind.wrap_i64]; have := HB0.out τ; have := HA9.out; omega)⟩) hH2 ?_
      simp only [Act.put, zq1, zq2, zq3, zq4, zq5, zq6]
      refine wpAnyH_take (i := 11) (v := .agg #[.int .i64 2, .int .i64 K.f, .int .i64 ((τ.a : Int) - 1)]) rfl (by kernel_rfl) (by kernel_rfl) (by kernel_rfl) (fun _ _ _ h => h) (Or.inl ⟨by rfl, fun w hS => by go_simp⟩) hH2 ?_
      simp only [Act.put, zq1, zq2, zq3, zq4, zq5, zq6]
      refine wpAnyH_ready (rs := [12]) (by kernel_rfl) (by simp) ?_
      refine AllReadyH.cons (o := _) rfl (fun K' hK => ?_) AllReadyH.nil
      rw [if_pos (by rfl)]
      refine wp_store_mid 185 _ _ rfl (d) 0 (c4v c4z).toArray rfl rfl (by have := OC.out.there 0 4 (by simp); simpa [c4v_len, fc_len] using this) (by first | kernel_rfl) (by have := c4v_one c4z; simpa using this) ?_
      simp only [Act.put, zq1, zq2, zq3, zq4, zq5, zq6]
      have hst : Stored wk (d) 0 (c4v c4z) (wk.setCells (d) 0 (c4v c4z)) := rfl
      have OC := Hi (hst.whole OC.out rfl)
      have OF := Hi (hst.oth OF.out (by omega))
      have OV := Hi (hst.oth OV.out (by omega))
      have JA := Hi (JA.out.stored JL.out hst (by omega))
      have hS := Stored.chgS hst hS (Or.inl (by first | exact Or.inl rfl | exact Or.inr rfl))
      generalize World.setCells _ _ _ _ = w8 at JA hS OC OF OV ⊢
      clear hst
      refine hK _ _ hS (fun hH3 => ?_)
      clear hK K'
      try simp only [Act.put, zq1, zq2, zq3, zq4, zq5, zq6]
      refine wpAnyH_ready (rs := [13]) (by kernel_rfl) (by simp) ?_
      refine AllReadyH.cons (o := _) rfl (fun K' hK => ?_) AllReadyH.nil
      rw [if_pos (by rfl)]
      refine wp_store_mid 39 _ _ rfl (d + 1) 0 (fc K.f (2, (τ.a : Int) - 1)).toArray rfl rfl (by have := OF.out.there 0 3 (by simp); simpa [c4v_len, fc_len] using this) (by first | kernel_rfl) (by have := fc_one K.f (2, (τ.a : Int) - 1); simpa using this) ?_
      simp only [Act.put, zq1, zq2, zq3, zq4, zq5, zq6]
      have hst : Stored w8 (d + 1) 0 (fc K.f (2, (τ.a : Int) - 1)) (w8.setCells (d + 1) 0 (fc K.f (2, (τ.a : Int) - 1))) := rfl
      have OF := Hi (hst.whole OF.out rfl)
      have OC := Hi (hst.oth OC.out (by omega))
      have OV := Hi (hst.oth OV.out (by omega))
      have JA := Hi (JA.out.stored JL.out hst (by omega))
      have hS := Stored.chgS hst hS (Or.inl (by first | exact Or.inl rfl | exact Or.inr rfl))
      generalize World.setCells _ _ _ _ = w9 at JA hS OC OF OV ⊢
      clear hst
      refine hK _ _ hS (fun hH4 => ?_)
      clear hK K'
      try simp only [Act.put, zq1, zq2, zq3, zq4, zq5, zq6]
      refine wpAnyH_done (by kernel_rfl) ?_ _
      refine NoPanic.normal ?_
      have CH := Hi (CH.out.after hS (fun k hk hk2 => by have := HDe.out; rcases hk2 with hk2 | hk2 <;> omega))
      go_wp2_with fail
      refine bodyPost_ret (v := .tuple #[.agg (c4v c4z).toArray, .agg (fc K.f (2, (τ.a : Int) - 1)).toArray]) ?_ rfl ⟨by rw [HR.out]; rfl, by rw [HR.out]; exact JA.out, CH.out⟩
      exact results_cc Tryz.results171 _ _ _ _ (c4v c4z) (fc K.f (2, (τ.a : Int) - 1)) _ _ rfl OC.out.range0 Tryz.underlying185 rfl (by kernel_rfl) rfl OF.out.range0 Tryz.underlying39 rfl (by kernel_rfl)
    | true =>
      have HOF := Hi (fun w0 (h0 : QAt w0 N K τ) => (HOF.out w0 τ (v : Int) h0).mono (R' := fun e' w' => e' = .returned (.tuple #[.agg (c4v (c4e (K.p.ent v))).toArray, .bool true]) ∧ Chg (fun _ => False) w0 w') fun e' w' hq => by rw [hh] at hq; exact hq)
      go_wp2_with fail
      with_reducible refine (HOF.out _ JA.out).mono ?_
      rintro e w6 ⟨rfl, hc⟩
      have JA := Hi (JA.out.keep hc)
      have OC := Hi (hc.obj OC.out (fun h => h))
      have OF := Hi (hc.obj OF.out (fun h => h))
      have CH := Hi (CH.out.trans (hc.mono (fun _ _ h => h.elim)))
      clear hc
      clear k18
      obtain ⟨dv, hdv⟩ : ∃ b, w6.heap.size = b := ⟨_, rfl⟩
      have lzdv := OF.out.lt
      have OV := Hi (obj1_new w6 #[.int .u8 0, .int .u8 0, .int .u8 0, .int .u8 0] 185)
      rw [hdv] at OV lzdv
      have JA := Hi (JA.out.alloc (.cells #[.int .u8 0, .int .u8 0, .int .u8 0, .int .u8 0] 185))
      have CH := Hi (CH.out.alloc (.cells #[.int .u8 0, .int .u8 0, .int .u8 0, .int .u8 0] 185))
      have OC := Hi (OC.out.alloc (.cells #[.int .u8 0, .int .u8 0, .int .u8 0, .int .u8 0] 185))
      have OF := Hi (OF.out.alloc (.cells #[.int .u8 0, .int .u8 0, .int .u8 0, .int .u8 0] 185))
      go_upto_region 5 with (first
        | (refine store_o rfl 185 4 _ _ rfl (dv) (c4v (c4e (K.p.ent v))) rfl rfl (by kernel_rfl) (by kernel_rfl) (by kernel_rfl) OV.out (by first | rfl | simp) ?_; intro ws hst hO; have OV := Hi hO; have JA := Hi (JA.out.stored JL.out hst (by omega)); have OC := Hi (hst.oth OC.out (by omega)); have OF := Hi (hst.oth OF.out (by omega)); have CH := Hi (Stored.chgS hst CH.out (Or.inr (by have := HDe.out; omega))); clear hst hO))
      clear hdv
      have HR := Hi (show K.num σ = (τ, (c4e (K.p.ent v), (0, 0))) by rw [HR.out]; exact if_pos hh)
      clear hh
      go_wp2_with (first
        | (refine load_u (by kernel_rfl) 185 4 _ rfl (dv) (c4v (c4e (K.p.ent v))) rfl rfl OV.out Tryz.underlying185 rfl (by kernel_rfl) ?_; intro _)
        | (refine store_o rfl 185 4 _ _ rfl (d) (c4v (c4e (K.p.ent v))) rfl rfl (by kernel_rfl) (by kernel_rfl) (by kernel_rfl) OC.out (by first | rfl | simp) ?_; intro ws hst hO; have OC := Hi hO; have JA := Hi (JA.out.stored JL.out hst (by omega)); have OF := Hi (hst.oth OF.out (by omega)); have OV := Hi (hst.oth OV.out (by omega)); have CH := Hi (Stored.chgS hst CH.out (Or.inr (by have := HDe.out; omega))); clear hst hO)
        | (refine store_o rfl 39 3 _ _ rfl ((d + 1)) (fc K.f (0, 0)) rfl rfl (by kernel_rfl) (by kernel_rfl) (by kernel_rfl) OF.out (by first | rfl | simp) ?_; intro ws hst hO; have OF := Hi hO; have JA := Hi (JA.out.stored JL.out hst (by omega)); have OC := Hi (hst.oth OC.out (by omega)); have OV := Hi (hst.oth OV.out (by omega)); have CH := Hi (Stored.chgS hst CH.out (Or.inr (by have := HDe.out; omega))); clear hst hO))
      refine bodyPost_ret (v := .tuple #[.agg (c4v (c4e (K.p.ent v))).toArray, .agg (fc K.f (0, 0)).toArray]) ?_ rfl ⟨by rw [HR.out]; rfl, by rw [HR.out]; exact JA.out, CH.out⟩
      exact results_cc Tryz.results171 _ _ _ _ (c4v (c4e (K.p.ent v))) (fc K.f (0, 0)) _ _ rfl OC.out.range0 Tryz.underlying185 rfl (by kernel_rfl) rfl OF.out.range0 Tryz.underlying39 rfl (by kernel_rfl)
end Go.Proofs.YtlfbaggcfaenlaaGreat

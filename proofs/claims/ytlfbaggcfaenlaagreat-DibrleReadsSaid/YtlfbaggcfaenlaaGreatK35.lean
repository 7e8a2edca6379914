/- dibrle.painter.byte, walked. -/
import Derived.Test.YtlfbaggcfaenlaaGreatK28
import Derived.Deep.CutRange
import Derived.Test.YtlfbaggcfaenlaaGreatK0
namespace Go.Proofs.YtlfbaggcfaenlaaGreat
open Go.RowKit
set_option linter.unusedVariables false
set_option linter.unusedSimpArgs false
theorem jof_any (N : Nat) (K : JK) (σ : JS) (e : Int) (w : World) (h : JAt w N K σ) : Calls Tryz.prog 218 #[.pointer (some ⟨K.n.P, 0, none⟩), .int .i64 e] w fun e' w' =>
    e' = .returned (.tuple #[if K.p.has e = true then colS4 (K.p.ent e.toNat) else colZ4, .bool (K.p.has e)]) ∧ Chg (fun _ => False) w w' := pof_any K.n.P K.p e w h.pal
theorem jputE_any (N : Nat) (K : JK) (σ : JS) (e : Int) (w : World) (h : JAt w N K σ) (hx : σ.x < K.n.W) (hy : σ.y < K.n.H) : Calls Tryz.prog 156 #[.pointer (some ⟨N, 0, none⟩), .agg (List.toArray [.int .u8 (byN (K.p.ent e.toNat) 0), .int .u8 (byN (K.p.ent e.toNat) 1), .int .u8 (byN (K.p.ent e.toNat) 2), .int .u8 (byN (K.p.ent e.toNat) 3)])] w fun e' w' =>
    e' = .returned (ftv K.n.f (K.putE σ e).2) ∧ JAt w' N K (K.putE σ e).1 ∧ Chg (jS N K) w w' :=
  jput_any N K σ _ _ _ _ w h hx hy (byN_bd _ _) (byN_bd _ _) (byN_bd _ _) (byN_bd _ _)
set_option maxRecDepth 100000 in
set_option maxHeartbeats 8000000 in
theorem jbyte_any (N : Nat) (K : JK) (σ : JS) (v : Int) (c : Nat) (pl : Int) (w : World) (h : JAt w N K σ) (hd : K.n.dp = 8 ∨ K.n.dp = 4) (hv : 0 ≤ v ∧ v < 256) (hc : c ≤ 2) (h81 : K.n.dp = 8 → c ≤ 1) (hx : σ.x + c ≤ K.n.W) (hy : σ.y < K.n.H) :
    Calls Tryz.prog 158 #[.pointer (some ⟨N, 0, none⟩), .int .i64 v, .int .i64 c, .int .i64 pl] w fun e w' => e = .returned (ftv K.n.f (K.byteL v pl c 0 σ).2) ∧ JAt w' N K (K.byteL v pl c 0 σ).1 ∧ Chg (jS N K) w w' := by
  have hC := (Chg.refl (fun _ => False) w).alloc (.cells #[.int .i64 0, .int .i64 0, .int .i64 0] 39)
  have OF := Hi (obj1_new w #[.int .i64 0, .int .i64 0, .int .i64 0] 39)
  have JA := Hi (h.keep hC)
  have CH := Hi (hC.mono (S' := jS N K) (fun _ _ h => h.elim))
  have JL := Hi h.jlt
  obtain ⟨d, hd0⟩ : ∃ d, w.heap.size = d := ⟨_, rfl⟩
  have HDe := Hi hd0
  rw [hd0] at OF JL
  obtain ⟨R, hR⟩ : ∃ R, K.byteL v pl c 0 σ = R := ⟨_, rfl⟩
  have HRE := Hi hR
  rw [hR]
  obtain ⟨f, hf⟩ : ∃ f, K.n.f = f := ⟨_, rfl⟩
  have HF := Hi hf
  rw [hf]
  obtain ⟨dp, hdp⟩ : ∃ dp, K.n.dp = dp := ⟨_, rfl⟩
  have HDP := Hi hdp
  rw [hdp] at hd h81
  have HD := Hi hd
  have H81 := Hi h81
  have HX := Hi hx
  have HY := Hi hy
  have HWR := Hi (fun w0 (τ : JS) (h0 : JAt w0 N K τ) => (jwrong_any N K τ pl w0 h0).mono (R' := fun e w' => e = .returned (.agg (fc f (2, pl)).toArray) ∧ Below w0.heap.size w0 w') fun e w' hh => by rw [hf] at hh; exact hh)
  clear h hC hR hf hdp hd h81 hx hy
  go_enter Tryz.func158, Tryz.ntmps158
  go_wp2_with fail
  clear hd0
  generalize World.alloc _ _ = wa at OF JA CH ⊢
  go_loopw [15] (fun cc wr => ∃ (i : Nat) (τ : JS), i ≤ c ∧ cc = .int .i64 i ∧ K.byteL v pl (c - i) i τ = R ∧ JAt wr N K τ ∧ Obj1 wr d #[.int .i64 0, .int .i64 0, .int .i64 0] 39 ∧ Chg (jS N K) w wr ∧ τ.x + (c - i) ≤ K.n.W ∧ τ.y < K.n.H) (fun cc _ => c - (intOf cc).toNat)
  case atStart => exact ⟨0, σ, Nat.zero_le _, rfl, HRE.out, JA.out, OF.out, CH.out, HX.out, HY.out⟩
  case round =>
    obtain ⟨i, τ, hi, rfl, hrl, hja, hof, hch, hx1, hy1⟩ := hrel
    have HRL := Hi hrl
    have JA := Hi hja
    have OF := Hi hof
    have CH := Hi hch
    have HX := Hi hx1
    have HY := Hi hy1
    clear hrl hja hof hch hx1 hy1
    by_cases hlt : i < c
    rotate_left
    · obtain rfl : i = c := by omega
      have E := Hi (show R = (τ, (0, 0)) by rw [← HRL.out, Nat.sub_self]; rfl)
      go_wp2_with (refine store_o rfl 39 3 _ _ rfl d [.int .i64 0, .int .i64 0, .int .i64 0] rfl rfl (by kernel_rfl) (by kernel_rfl) (by kernel_rfl) OF.out (by first | rfl | simp) ?_; intro ws hst hO; have OF := Hi hO; have JA := Hi (JA.out.stored JL.out hst (Nat.le_refl _)); have CH := Hi (Stored.chgS hst CH.out (Or.inr (by have := HDe.out; omega))); clear hst hO)
      refine bodyPost_ret (v := .agg (List.toArray [.int .i64 0, .int .i64 0, .int .i64 0])) ?_ rfl ⟨by rw [E.out]; rfl, by rw [E.out]; exact JA.out, CH.out⟩
      exact results_c Tryz.results158 _ _ _ [.int .i64 0, .int .i64 0, .int .i64 0] _ rfl OF.out.range0 Tryz.underlying39 rfl (by kernel_rfl)
    obtain ⟨e, he⟩ : ∃ e, entR v dp i = e := ⟨_, rfl⟩
    have HE := Hi he
    have k5 := JA.out.cell 5 (.int .i64 dp) (by rw [← HDP.out]; rfl)
    clear he
    go_upto_if 24 with (fail)
    go_cut [10] from 25 to 30 (fun cc wx => wx = wr ∧ cc = .int .i64 e)
    case first =>
      have k5 := JA.out.cell 5 (.int .i64 dp) (by rw [← HDP.out]; rfl)
      rcases HD.out with e8 | e4
      · have hb : (dp == 4) = false := by rw [e8]; rfl
        have HEV := Hi (show e = v by rw [← HE.out, e8]; rfl)
        clear e8
        go_wp2_with fail
        go_meet
        exact ⟨rfl, by rw [HEV.out]⟩
      · have hb : (dp == 4) = true := by rw [e4]; rfl
        have r0 : bits .and .i64 (v / 16) 15 = v / 16 := (i64_and_mask (v / 16) 4 (by decide)).trans (by omega)
        have r1 : bits .and .i64 v 15 = v % 16 := i64_and_mask v 4 (by decide)
        rcases (show i = 0 ∨ i = 1 by omega) with rfl | rfl
        · have HEV := Hi (show e = v / 16 by rw [← HE.out, e4]; rfl)
          clear e4
          have hv0 := hv.1
          go_wp2_with fail
          go_meet
          exact ⟨rfl, by rw [HEV.out]⟩
        · have HEV := Hi (show e = v % 16 by rw [← HE.out, e4]; rfl)
          clear e4
          have hv0 := hv.1
          go_wp2_with fail
          go_meet
          exact ⟨rfl, by rw [HEV.out]⟩
    case rest =>
      obtain ⟨rfl, rfl⟩ := hcut
      have HSUB := Hi (show c - i = (c - (i + 1)) + 1 by omega)
      have k17 := JA.out.cell 17 (.pointer (some ⟨K.n.P, 0, none⟩)) rfl
      cases hh : K.p.has e with
      | false =>
        have HOF := Hi (fun w0 (h0 : JAt w0 N K τ) => (jof_any N K τ e w0 h0).mono (R' := fun e' w' => e' = .returned (.tuple #[.agg #[.int .u8 0, .int .u8 0, .int .u8 0, .int .u8 0], .bool false]) ∧ Chg (fun _ => False) w0 w') fun e' w' hq => by rw [hh, if_neg (by decide)] at hq; unfold colZ4 at hq; exact hq)
        have E := Hi (show R = (τ, (2, pl)) by rw [← HRL.out, HSUB.out, JK.byteL, HDP.out, HE.out, if_pos hh])
        clear hh
        go_upto_region 8 with (fail)
        with_reducible refine (HOF.out _ JA.out).mono ?_
        rintro e w6 ⟨rfl, hc⟩
        have JA := Hi (JA.out.keep hc)
        have OF := Hi (hc.obj OF.out (fun h => h))
        have CH := Hi (CH.out.trans (hc.mono (fun _ _ h => h.elim)))
        clear hc
        clear k17
        obtain ⟨dC, hdC⟩ : ∃ b, w6.heap.size = b := ⟨_, rfl⟩
        have lzdC := OF.out.lt
        have O4 := Hi (obj1_new w6 #[.int .u8 0, .int .u8 0, .int .u8 0, .int .u8 0] 185)
        rw [hdC] at O4 lzdC
        have JA := Hi (JA.out.alloc (.cells #[.int .u8 0, .int .u8 0, .int .u8 0, .int .u8 0] 185))
        have CH := Hi (CH.out.alloc (.cells #[.int .u8 0, .int .u8 0, .int .u8 0, .int .u8 0] 185))
        have OF := Hi (OF.out.alloc (.cells #[.int .u8 0, .int .u8 0, .int .u8 0, .int .u8 0] 185))
        go_upto_region 8 with (first
          | (refine store_o rfl 185 4 _ _ rfl (dC) [.int .u8 0, .int .u8 0, .int .u8 0, .int .u8 0] rfl rfl (by kernel_rfl) (by kernel_rfl) (by kernel_rfl) O4.out (by first | rfl | simp) ?_; intro ws hst hO; have O4 := Hi hO; have JA := Hi (JA.out.stored JL.out hst (by omega)); have OF := Hi (hst.oth OF.out (by omega)); have CH := Hi (Stored.chgS hst CH.out (Or.inr (by have := HDe.out; omega))); clear hst hO))
        clear hdC
        go_wp2_with (first
          | ((go_at_call 154; (with_reducible refine (HWR.out _ _ JA.out).mono ?_); rintro e w7 ⟨rfl, hb⟩); have JA := Hi (JA.out.below hb); have OF := Hi (OF.out.below hb OF.out.lt); have O4 := Hi (O4.out.below hb O4.out.lt); have CH := Hi (CH.out.trans (chg_of_below hb _)); clear hb)
          | (refine store_o rfl 39 3 _ _ rfl (d) (fc f (2, pl)) rfl rfl (by kernel_rfl) (by kernel_rfl) (by kernel_rfl) OF.out (by first | rfl | simp) ?_; intro ws hst hO; have OF := Hi hO; have JA := Hi (JA.out.stored JL.out hst (by omega)); have O4 := Hi (hst.oth O4.out (by omega)); have CH := Hi (Stored.chgS hst CH.out (Or.inr (by have := HDe.out; omega))); clear hst hO))
        refine bodyPost_ret (v := .agg (fc f (2, pl)).toArray) ?_ rfl ⟨by rw [E.out]; rfl, by rw [E.out]; exact JA.out, CH.out⟩
        exact results_c Tryz.results158 _ _ _ (fc f (2, pl)) _ rfl OF.out.range0 Tryz.underlying39 rfl (by kernel_rfl)
      | true =>
        obtain ⟨y0, hy0⟩ : ∃ y, byN (K.p.ent e.toNat) 0 = y := ⟨_, rfl⟩
        obtain ⟨y1, hy1⟩ : ∃ y, byN (K.p.ent e.toNat) 1 = y := ⟨_, rfl⟩
        obtain ⟨y2, hy2⟩ : ∃ y, byN (K.p.ent e.toNat) 2 = y := ⟨_, rfl⟩
        obtain ⟨y3, hy3⟩ : ∃ y, byN (K.p.ent e.toNat) 3 = y := ⟨_, rfl⟩
        have HOF := Hi (fun w0 (h0 : JAt w0 N K τ) => (jof_any N K τ e w0 h0).mono (R' := fun e' w' => e' = .returned (.tuple #[.agg #[.int .u8 y0, .int .u8 y1, .int .u8 y2, .int .u8 y3], .bool true]) ∧ Chg (fun _ => False) w0 w') fun e' w' hq => by rw [hh, if_pos rfl] at hq; unfold colS4 at hq; rw [hy0, hy1, hy2, hy3] at hq; exact hq)
        have HPT := Hi (fun w0 (h0 : JAt w0 N K τ) => (jputE_any N K τ e w0 h0 (by have := HX.out; omega) HY.out).mono (R' := fun e' w' => e' = .returned (.agg (fc f (K.putE τ e).2).toArray) ∧ JAt w' N K (K.putE τ e).1 ∧ Chg (jS N K) w0 w') fun e' w' hq => by rw [HF.out] at hq; exact hq)
        rw [hy0, hy1, hy2, hy3] at HPT
        obtain ⟨Q, hQ⟩ : ∃ Q, K.putE τ e = Q := ⟨_, rfl⟩
        rw [hQ] at HPT
        have HQ := Hi hQ
        have EE := Hi (show R = if Q.2.1 = 0 then K.byteL v pl (c - (i + 1)) (i + 1) Q.1 else Q by rw [← HRL.out, HSUB.out, JK.byteL, HDP.out, HE.out, if_neg (by rw [hh]; decide), hQ])
        clear hh hy0 hy1 hy2 hy3 hQ
        go_upto_region 8 with (fail)
        with_reducible refine (HOF.out _ JA.out).mono ?_
        rintro e w6 ⟨rfl, hc⟩
        have JA := Hi (JA.out.keep hc)
        have OF := Hi (hc.obj OF.out (fun h => h))
        have CH := Hi (CH.out.trans (hc.mono (fun _ _ h => h.elim)))
        clear hc
        clear k17
        obtain ⟨dC, hdC⟩ : ∃ b, w6.heap.size = b := ⟨_, rfl⟩
        have lzdC := OF.out.lt
        have O4 := Hi (obj1_new w6 #[.int .u8 0, .int .u8 0, .int .u8 0, .int .u8 0] 185)
        rw [hdC] at O4 lzdC
        have JA := Hi (JA.out.alloc (.cells #[.int .u8 0, .int .u8 0, .int .u8 0, .int .u8 0] 185))
        have CH := Hi (CH.out.alloc (.cells #[.int .u8 0, .int .u8 0, .int .u8 0, .int .u8 0] 185))
        have OF := Hi (OF.out.alloc (.cells #[.int .u8 0, .int .u8 0, .int .u8 0, .int .u8 0] 185))
        go_upto_region 8 with (first
          | (refine store_o rfl 185 4 _ _ rfl (dC) [.int .u8 y0, .int .u8 y1, .int .u8 y2, .int .u8 y3] rfl rfl (by kernel_rfl) (by kernel_rfl) (by kernel_rfl) O4.out (by first | rfl | simp) ?_; intro ws hst hO; have O4 := Hi hO; have JA := Hi (JA.out.stored JL.out hst (by omega)); have OF := Hi (hst.oth OF.out (by omega)); have CH := Hi (Stored.chgS hst CH.out (Or.inr (by have := HDe.out; omega))); clear hst hO))
        clear hdC
        go_upto_region 10 with (fail)
        go_upto_region 11 with (first
          | (refine load_u (by kernel_rfl) 185 4 _ rfl (dC) [.int .u8 y0, .int .u8 y1, .int .u8 y2, .int .u8 y3] rfl rfl O4.out Tryz.underlying185 rfl (by kernel_rfl) ?_; intro _))
        with_reducible refine (HPT.out _ JA.out).mono ?_
        rintro e w8 ⟨rfl, hj1, hc1⟩
        have JA := Hi hj1
        have OF := Hi (hc1.obj OF.out (not_jS JL.out (by omega)))
        have O4 := Hi (hc1.obj O4.out (not_jS JL.out (by omega)))
        have CH := Hi (CH.out.trans hc1)
        clear hj1 hc1
        obtain ⟨dF, hdF⟩ : ∃ b, w8.heap.size = b := ⟨_, rfl⟩
        have lzdF := O4.out.lt
        have O5 := Hi (obj1_new w8 #[.int .i64 0, .int .i64 0, .int .i64 0] 39)
        rw [hdF] at O5 lzdF
        have JA := Hi (JA.out.alloc (.cells #[.int .i64 0, .int .i64 0, .int .i64 0] 39))
        have CH := Hi (CH.out.alloc (.cells #[.int .i64 0, .int .i64 0, .int .i64 0] 39))
        have OF := Hi (OF.out.alloc (.cells #[.int .i64 0, .int .i64 0, .int .i64 0] 39))
        have O4 := Hi (O4.out.alloc (.cells #[.int .i64 0, .int .i64 0, .int .i64 0] 39))
        go_upto_region 11 with (first
          | (refine store_o rfl 39 3 _ _ rfl (dF) (fc f Q.2) rfl rfl (by kernel_rfl) (by kernel_rfl) (by kernel_rfl) O5.out (by first | rfl | simp) ?_; intro ws hst hO; have O5 := Hi hO; have JA := Hi (JA.out.stored JL.out hst (by omega)); have OF := Hi (hst.oth OF.out (by omega)); have O4 := Hi (hst.oth O4.out (by omega)); have CH := Hi (Stored.chgS hst CH.out (Or.inr (by have := HDe.out; omega))); clear hst hO))
        clear hdF
        obtain ⟨z, hz⟩ : ∃ z, Q.2.1 = z := ⟨_, rfl⟩
        have q0 := (O5.out.cell 0).trans (show _ = some (.int .i64 z) by rw [← hz]; rfl)
        have HZ := Hi hz
        clear hz
        by_cases hz0 : z = 0
        · have hb : (z != 0) = false := by rw [hz0]; rfl
          have E := Hi (show K.byteL v pl (c - (i + 1)) (i + 1) Q.1 = R by rw [EE.out, if_pos (HZ.out.trans hz0)])
          have HZ0 := Hi hz0
          clear hz0
          go_wp2_with fail
          go_roundw
          case rel =>
            have hxy : Q.1.x = τ.x + 1 ∧ Q.1.y = τ.y := by
              have hq := HQ.out
              subst hq
              exact put_xy (HZ.out.trans HZ0.out)
            exact ⟨i + 1, Q.1, by omega, by go_num, E.out, JA.out, OF.out, CH.out, by rw [hxy.1]; have := HX.out; omega, by rw [hxy.2]; exact HY.out⟩
          case measure => simp [intOf]; omega
        · have hb : (z != 0) = true := by rw [bne_iff_ne]; exact hz0
          have E := Hi (show R = Q by rw [EE.out, if_neg (by rw [HZ.out]; exact hz0)])
          clear hz0
          go_wp2_with (first
            | (refine load_u (by kernel_rfl) 39 3 _ rfl (dF) (fc f Q.2) rfl rfl O5.out Tryz.underlying39 rfl (by kernel_rfl) ?_; intro _)
            | (refine store_o rfl 39 3 _ _ rfl (d) (fc f Q.2) rfl rfl (by kernel_rfl) (by kernel_rfl) (by kernel_rfl) OF.out (by first | rfl | simp) ?_; intro ws hst hO; have OF := Hi hO; have JA := Hi (JA.out.stored JL.out hst (by omega)); have O4 := Hi (hst.oth O4.out (by omega)); have O5 := Hi (hst.oth O5.out (by omega)); have CH := Hi (Stored.chgS hst CH.out (Or.inr (by have := HDe.out; omega))); clear hst hO))
          refine bodyPost_ret (v := .agg (fc f Q.2).toArray) ?_ rfl ⟨by rw [E.out]; rfl, by rw [E.out]; exact JA.out, CH.out⟩
          exact results_c Tryz.results158 _ _ _ (fc f Q.2) _ rfl OF.out.range0 Tryz.underlying39 rfl (by kernel_rfl)
end Go.Proofs.YtlfbaggcfaenlaaGreat

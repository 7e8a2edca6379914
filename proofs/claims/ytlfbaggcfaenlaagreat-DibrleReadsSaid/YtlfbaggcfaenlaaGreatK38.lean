/- dibrle.painter.plain, walked. -/
import Derived.Test.YtlfbaggcfaenlaaGreatK35
import Derived.Test.YtlfbaggcfaenlaaGreatK0
namespace Go.Proofs.YtlfbaggcfaenlaaGreat
open Go.RowKit
set_option linter.unusedVariables false
set_option linter.unusedSimpArgs false
theorem putE_xy {K : JK} {σ : JS} {e : Int} (h : (K.putE σ e).2.1 = 0) : (K.putE σ e).1.x = σ.x + 1 ∧ (K.putE σ e).1.y = σ.y := put_xy h
theorem byteL_xy' (K : JK) (v pl : Int) : ∀ (c i : Nat) (σ : JS), (K.byteL v pl c i σ).2.1 = 0 → (K.byteL v pl c i σ).1.x = σ.x + c ∧ (K.byteL v pl c i σ).1.y = σ.y
  | 0, i, σ, h => ⟨rfl, rfl⟩
  | c + 1, i, σ, h => by
    rw [JK.byteL] at h ⊢
    by_cases h1 : K.p.has (entR v K.n.dp i) = false
    · rw [if_pos h1] at h; cases h
    · rw [if_neg h1] at h ⊢
      by_cases h2 : (K.putE σ (entR v K.n.dp i)).2.1 = 0
      · rw [if_pos h2] at h ⊢
        have h3 := byteL_xy' K v pl c (i + 1) _ h
        have h4 := putE_xy h2
        exact ⟨by rw [h3.1, h4.1]; omega, by rw [h3.2, h4.2]⟩
      · rw [if_neg h2] at h; exact absurd h h2
theorem byteL_xy {K : JK} {v pl : Int} {c i : Nat} {σ : JS} {Q : JS × (Int × Int)} (hQ : K.byteL v pl c i σ = Q) (h : Q.2.1 = 0) : Q.1.x = σ.x + c ∧ Q.1.y = σ.y := by
  subst hQ; exact byteL_xy' K v pl c i σ h
set_option maxRecDepth 100000 in
set_option maxHeartbeats 8000000 in
theorem jplain_any (N : Nat) (K : JK) (σ : JS) (n : Nat) (a : Int) (w : World) (h : JAt w N K σ) (hd : K.n.dp = 8 ∨ K.n.dp = 4) (hn : 0 < n) (hn2 : n < 256) (hx : σ.x ≤ K.n.W) (hes : K.x.s.size ≤ 1000000000) :
    Calls Tryz.prog 84 #[.pointer (some ⟨N, 0, none⟩), .int .i64 n, .int .i64 a] w fun e w' => e = .returned (ftv K.n.f (K.plain σ n a).2) ∧ JAt w' N K (K.plain σ n a).1 ∧ Chg (jS N K) w w' := by
  have hC := (Chg.refl (fun _ => False) w).alloc (.cells #[.int .i64 0, .int .i64 0, .int .i64 0] 39)
  have OF := Hi (obj1_new w #[.int .i64 0, .int .i64 0, .int .i64 0] 39)
  have JA := Hi (h.keep hC)
  have CH := Hi (hC.mono (S' := jS N K) (fun _ _ h => h.elim))
  have JL := Hi h.jlt
  obtain ⟨d, hd0⟩ : ∃ d, w.heap.size = d := ⟨_, rfl⟩
  have HDe := Hi hd0
  rw [hd0] at OF JL
  obtain ⟨R, hR⟩ : ∃ R, K.plain σ n a = R := ⟨_, rfl⟩
  have E0 := hR
  unfold JK.plain at E0
  rw [hR]
  clear hR
  have HWR := Hi (fun b w0 (h0 : JAt w0 N K σ) => (jwrong_any N K σ b w0 h0).mono (R' := fun e w' => e = .returned (.agg (fc K.n.f (2, b)).toArray) ∧ Below w0.heap.size w0 w') fun e w' hh => hh)
  have HRM := Hi (fun w0 (h0 : JAt w0 N K σ) => jroom_any N K σ n w0 h0 hx)
  have HEA := each_is hd
  have HBY := Hi (fun (τ : JS) v (c : Nat) (pl : Int) w0 (h0 : JAt w0 N K τ) (hv : 0 ≤ v ∧ v < 256) (hc : c ≤ K.each) (hx : τ.x + c ≤ K.n.W) (hy : τ.y < K.n.H) => jbyte_any N K τ v c pl w0 h0 hd hv (by rcases HEA with ⟨_, e⟩ | ⟨_, e⟩ <;> omega) (fun h8 => by
    rcases HEA with ⟨_, e⟩ | ⟨e0, _⟩
    · omega
    · rw [h8] at e0; cases e0) hx hy)
  have HAT := Hi (fun (τ : JS) w0 (h0 : JAt w0 N K τ) => jat_any N K τ w0 h0)
  have HU8 := Hi (fun (τ : JS) w0 (h0 : JAt w0 N K τ) => ju8_any N K τ w0 h0)
  have HSK := Hi (fun (τ : JS) w0 (h0 : JAt w0 N K τ) => jskip1_any N K τ w0 h0)
  have HFL := Hi (fun (τ : JS) w0 (h0 : JAt w0 N K τ) => (jfault_any N K τ w0 h0).mono (R' := fun e w' => e = .returned (.agg (fc K.n.f (K.ft τ.l τ.a)).toArray) ∧ Below w0.heap.size w0 w') fun e w' hh => hh)
  have HBD := Hi (fun (w0 : World) (τ : JS) (h0 : JAt w0 N K τ) => (show (τ.a : Int) ≤ 1000000000 from by have h1 : τ.a ≤ K.x.e := h0.pr.src.ok.pe; have h2 : K.x.e ≤ K.x.s.size := h0.pr.src.ok.es; omega))
  obtain ⟨f, hf⟩ : ∃ f, K.n.f = f := ⟨_, rfl⟩
  have HF := Hi hf
  rw [hf] at HWR HBY HFL ⊢
  have HBY := Hi (fun (τ : JS) v (c : Nat) (pl : Int) w0 (h0 : JAt w0 N K τ) (hv : 0 ≤ v ∧ v < 256) (hc : c ≤ K.each) (hx : τ.x + c ≤ K.n.W) (hy : τ.y < K.n.H) => (HBY.out τ v c pl w0 h0 hv hc hx hy).mono (R' := fun e w' => e = .returned (.agg (fc f (K.byteL v pl c 0 τ).2).toArray) ∧ JAt w' N K (K.byteL v pl c 0 τ).1 ∧ Chg (jS N K) w0 w') fun e w' hh => hh)
  obtain ⟨X, hX⟩ : ∃ X, K.n.X = X := ⟨_, rfl⟩
  have HXe := Hi hX
  rw [hX] at HAT HU8 HSK HFL
  obtain ⟨dp, hdp⟩ : ∃ dp, K.n.dp = dp := ⟨_, rfl⟩
  have HDP := Hi hdp
  obtain ⟨ea, hea⟩ : ∃ ea, K.each = ea := ⟨_, rfl⟩
  have HEAe := Hi hea
  rw [hdp, hea] at HEA
  obtain ⟨m, hm⟩ : ∃ m, K.bytes n = m := ⟨_, rfl⟩
  have HM := Hi hm
  have hbs : ∀ c, K.bytes c = (c + ea - 1) / ea := fun c => by rw [← hea]; rfl
  have HBS := Hi hbs
  rw [hm] at E0
  obtain ⟨RL, hRL⟩ : ∃ q, K.plainL m n σ = q := ⟨_, rfl⟩
  have HRLe := Hi hRL
  rw [hRL] at E0
  have HRE := Hi E0
  have HEA := Hi HEA
  clear h hC hf hX hdp hd hea hm hbs E0 hRL hes
  by_cases hroom : K.room σ n
  rotate_left
  · have E := Hi (show R = (σ, (2, a)) by have := HRE.out; rw [if_pos hroom] at this; exact this.symm)
    have HRM := Hi (fun w0 (h0 : JAt w0 N K σ) => (HRM.out w0 h0).mono (R' := fun e w' => e = .returned (.bool false) ∧ Chg (fun _ => False) w0 w') fun e w' hh => by
      rw [decide_eq_false (show ¬ (σ.y < K.n.H ∧ (n : Int) ≤ (K.n.W : Int) - σ.x) from fun hq => hroom ⟨hq.1, by have := hq.2; omega⟩)] at hh; exact hh)
    clear hroom hx
    go_enter Tryz.func84, Tryz.ntmps84
    go_upto_region 2 with (first
      | ((go_at_call 153; (with_reducible refine (HRM.out _ JA.out).mono ?_); rintro e w1 ⟨rfl, hc⟩); have JA := Hi (JA.out.keep hc); have OF := Hi (hc.obj OF.out (fun h => h)); have CH := Hi (CH.out.trans (hc.mono (fun _ _ h => h.elim))); clear hc))
    clear hd0
    go_wp2_with (first
      | ((go_at_call 154; (with_reducible refine (HWR.out _ _ JA.out).mono ?_); rintro e w2 ⟨rfl, hb⟩); have JA := Hi (JA.out.below hb); have OF := Hi (OF.out.below hb OF.out.lt); have CH := Hi (CH.out.trans (chg_of_below hb _)); clear hb)
      | (refine store_o rfl 39 3 _ _ rfl (d) (fc f (2, a)) rfl rfl (by kernel_rfl) (by kernel_rfl) (by kernel_rfl) OF.out (by first | rfl | simp) ?_; intro ws hst hO; have OF := Hi hO; have JA := Hi (JA.out.stored JL.out hst (by omega)); have CH := Hi (Stored.chgS hst CH.out (Or.inr (by have := HDe.out; omega))); clear hst hO))
    refine bodyPost_ret (v := .agg (fc f (2, a)).toArray) ?_ rfl ⟨by rw [E.out]; rfl, by rw [E.out]; exact JA.out, CH.out⟩
    exact results_c Tryz.results84 _ _ _ (fc f (2, a)) _ rfl OF.out.range0 Tryz.underlying39 rfl (by kernel_rfl)
  have HRE := Hi (show (if RL.2.1 = 0 then (if m % 2 = 1 then (if (K.next RL.1 1).2.2 = false then ((K.next RL.1 1).1, K.ft (K.next RL.1 1).1.l (K.next RL.1 1).1.a) else ((K.next RL.1 1).1, (0, 0))) else (RL.1, (0, 0))) else RL) = R by have := HRE.out; rw [if_neg (fun hq => hq hroom)] at this; exact this)
  have HRM := Hi (fun w0 (h0 : JAt w0 N K σ) => (HRM.out w0 h0).mono (R' := fun e w' => e = .returned (.bool true) ∧ Chg (fun _ => False) w0 w') fun e w' hh => by
    rw [decide_eq_true (show (σ.y < K.n.H ∧ (n : Int) ≤ (K.n.W : Int) - σ.x) from ⟨hroom.1, by have := hroom.2; omega⟩)] at hh; exact hh)
  have HROOM := Hi hroom
  clear hroom hx
  go_enter Tryz.func84, Tryz.ntmps84
  go_upto_region 3 with (first
    | ((go_at_call 153; (with_reducible refine (HRM.out _ JA.out).mono ?_); rintro e w1 ⟨rfl, hc⟩); have JA := Hi (JA.out.keep hc); have OF := Hi (hc.obj OF.out (fun h => h)); have CH := Hi (CH.out.trans (hc.mono (fun _ _ h => h.elim))); clear hc))
  clear hd0
  have k5 := JA.out.cell 5 (.int .i64 dp) (by rw [← HDP.out]; rfl)
  go_cut [7] from 21 to 26 (fun c wx => wx = w1 ∧ c = .int .i64 ea)
  case first =>
    rcases HEA.out with ⟨e1, e2⟩ | ⟨e1, e2⟩
    · have E2 := Hi e2
      clear e2
      go_wp2_with fail
      go_meet
      exact ⟨rfl, by rw [E2.out]; rfl⟩
    · have E2 := Hi e2
      clear e2
      go_wp2_with fail
      go_meet
      exact ⟨rfl, by rw [E2.out]; rfl⟩
  case rest =>
  obtain ⟨rfl, rfl⟩ := hcut
  clear k5
  go_upto_region 4 with (fail)
  go_cut [8] from 27 to 32 (fun c wx => wx = wc ∧ c = .int .i64 m)
  case first =>
    have hm1 : m = (n + ea - 1) / ea := by rw [← HM.out, HBS.out]
    rcases HEA.out with ⟨e1, e2⟩ | ⟨e1, e2⟩
    · subst e2
      have E2 := Hi (show ((m : Nat) : Int) = (n : Int) by omega)
      clear hm1
      go_wp2_with fail
      go_meet
      exact ⟨rfl, by rw [E2.out]⟩
    · subst e2
      have E2 := Hi (show ((m : Nat) : Int) = ((n : Int) + 1) / 2 by omega)
      clear hm1
      go_wp2_with fail
      go_meet
      exact ⟨rfl, by rw [E2.out]; congr 1; omega⟩
  case rest =>
  obtain ⟨rfl, rfl⟩ := hcut
  have HX := Hi HROOM.out.2
  have HY := Hi HROOM.out.1
  have HEQ := Hi (show (m = K.bytes (n - 0)) from HM.out.symm)
  go_upto_region 5 with (fail)
  go_wp2_with fail
  go_loopw [9] (fun cc wr => ∃ (i mm : Nat) (τ : JS), cc = .int .i64 i ∧ i ≤ n + 1 ∧ mm = K.bytes (n - i) ∧ K.plainL mm (n - i) τ = RL ∧ JAt wr N K τ ∧ Obj1 wr d #[.int .i64 0, .int .i64 0, .int .i64 0] 39 ∧ Chg (jS N K) w wr ∧ τ.x + (n - i) ≤ K.n.W ∧ τ.y < K.n.H) (fun cc _ => n + 1 - (intOf cc).toNat)
  case atStart => exact ⟨0, m, σ, rfl, by omega, HEQ.out, HRLe.out, JA.out, OF.out, CH.out, HX.out, HY.out⟩
  case round =>
    obtain ⟨i, mm, τ, rfl, hin, hmm, hrl, hja, hof, hch, hx1, hy1⟩ := hrel
    have HMM := Hi hmm
    have HRL := Hi hrl
    have JA := Hi hja
    have OF := Hi hof
    have CH := Hi hch
    have HX := Hi hx1
    have HY := Hi hy1
    clear hmm hrl hja hof hch hx1 hy1
    by_cases hlt : i < n
    rotate_left
    · have hmm0 : mm = 0 := by
        rw [HMM.out, HBS.out, show n - i = 0 by omega]
        rcases HEA.out with ⟨_, e⟩ | ⟨_, e⟩ <;> rw [e]
      have HR0 := Hi (show RL = (τ, (0, 0)) by rw [← HRL.out, hmm0]; rfl)
      have HRE := Hi (show (if m % 2 = 1 then (if (K.next τ 1).2.2 = false then ((K.next τ 1).1, K.ft (K.next τ 1).1.l (K.next τ 1).1.a) else ((K.next τ 1).1, (0, 0))) else (τ, (0, 0))) = R by have := HRE.out; rw [HR0.out, if_pos rfl] at this; exact this)
      clear hmm0
      by_cases hodd : m % 2 = 1
      rotate_left
      · have hbm : ((m : Int) % 2 == 1) = false := by rw [beq_eq_false_iff_ne]; omega
        have E := Hi (show R = (τ, (0, 0)) by have := HRE.out; rw [if_neg hodd] at this; exact this.symm)
        clear hodd
        go_wp2_with (first
          | ((with_reducible refine skip_g rfl ?_ ?_); rfl; intro _)
          | (refine store_o rfl 39 3 _ _ rfl (d) (fc f (0, 0)) rfl rfl (by kernel_rfl) (by kernel_rfl) (by kernel_rfl) OF.out (by first | rfl | simp) ?_; intro ws hst hO; have OF := Hi hO; have JA := Hi (JA.out.stored JL.out hst (by omega)); have CH := Hi (Stored.chgS hst CH.out (Or.inr (by have := HDe.out; omega))); clear hst hO))
        refine bodyPost_ret (v := .agg (fc f (0, 0)).toArray) ?_ rfl ⟨by rw [E.out]; rfl, by rw [E.out]; exact JA.out, CH.out⟩
        exact results_c Tryz.results84 _ _ _ (fc f (0, 0)) _ rfl OF.out.range0 Tryz.underlying39 rfl (by kernel_rfl)
      have hbm : ((m : Int) % 2 == 1) = true := by rw [beq_iff_eq]; omega
      have HRE := Hi (show (if (K.next τ 1).2.2 = false then ((K.next τ 1).1, K.ft (K.next τ 1).1.l (K.next τ 1).1.a) else ((K.next τ 1).1, (0, 0))) = R by have := HRE.out; rw [if_pos hodd] at this; exact this)
      clear hodd
      have k0 := JA.out.cell 0 (.pointer (some ⟨X, 0, none⟩)) (by rw [← HXe.out]; rfl)
      cases hok : (K.next τ 1).2.2 with
      | true =>
        have HS := Hi (fun w0 (h0 : JAt w0 N K τ) => (HSK.out τ w0 h0).mono (R' := fun e w' => e = .returned (.bool true) ∧ JAt w' N K (K.next τ 1).1 ∧ Chg (jS N K) w0 w') fun e w' hh => by rw [hok] at hh; exact hh)
        have E := Hi (show R = ((K.next τ 1).1, (0, 0)) by have := HRE.out; rw [if_neg (by rw [hok]; decide)] at this; exact this.symm)
        clear hok
        go_wp2_with (first
          | ((go_at_call 70; (with_reducible refine (HS.out _ JA.out).mono ?_); rintro e w2 ⟨rfl, hj1, hc1⟩); have JA := Hi hj1; have OF := Hi (hc1.obj OF.out (not_jS JL.out (by omega))); have CH := Hi (CH.out.trans hc1); clear hj1 hc1)
          | (refine store_o rfl 39 3 _ _ rfl (d) (fc f (0, 0)) rfl rfl (by kernel_rfl) (by kernel_rfl) (by kernel_rfl) OF.out (by first | rfl | simp) ?_; intro ws hst hO; have OF := Hi hO; have JA := Hi (JA.out.stored JL.out hst (by omega)); have CH := Hi (Stored.chgS hst CH.out (Or.inr (by have := HDe.out; omega))); clear hst hO))
        refine bodyPost_ret (v := .agg (fc f (0, 0)).toArray) ?_ rfl ⟨by rw [E.out]; rfl, by rw [E.out]; exact JA.out, CH.out⟩
        exact results_c Tryz.results84 _ _ _ (fc f (0, 0)) _ rfl OF.out.range0 Tryz.underlying39 rfl (by kernel_rfl)
      | false =>
        have HS := Hi (fun w0 (h0 : JAt w0 N K τ) => (HSK.out τ w0 h0).mono (R' := fun e w' => e = .returned (.bool false) ∧ JAt w' N K (K.next τ 1).1 ∧ Chg (jS N K) w0 w') fun e w' hh => by rw [hok] at hh; exact hh)
        obtain ⟨υ, hυ⟩ : ∃ υ, (K.next τ 1).1 = υ := ⟨_, rfl⟩
        rw [hυ] at HS HRE
        obtain ⟨F, hF⟩ : ∃ F, K.ft υ.l υ.a = F := ⟨_, rfl⟩
        have HFL := Hi (HFL.out υ)
        rw [hF] at HFL HRE
        have E := Hi (show R = (υ, F) by have := HRE.out; rw [if_pos hok] at this; exact this.symm)
        clear hok hυ hF
        go_upto_region 16 with (first
          | ((go_at_call 70; (with_reducible refine (HS.out _ JA.out).mono ?_); rintro e w2 ⟨rfl, hj1, hc1⟩); have JA := Hi hj1; have OF := Hi (hc1.obj OF.out (not_jS JL.out (by omega))); have CH := Hi (CH.out.trans hc1); clear hj1 hc1))
        clear k0
        have k0 := JA.out.cell 0 (.pointer (some ⟨X, 0, none⟩)) (by rw [← HXe.out]; rfl)
        have k19 := JA.out.cell 19 (.int .i64 f) (by rw [← HF.out]; rfl)
        go_still_tail 8, (by kernel_rfl)
        rw [show (⟨w2.heap, w2.tape, w2.drawn + 1, w2.os, w2.output⟩ : World) = w2.drewN 1 from rfl]
        have JA := Hi (JA.out.drewN 1)
        have CH := Hi (CH.out.drewN 1)
        have OF := Hi (OF.out.drewN 1)
        generalize w2.drewN 1 = w3 at JA CH OF ⊢
        clear k0 k19
        go_wp2_with (first
          | ((go_at_call 67; (with_reducible refine (HFL.out _ JA.out).mono ?_); rintro e w4 ⟨rfl, hb⟩); have JA := Hi (JA.out.below hb); have OF := Hi (OF.out.below hb OF.out.lt); have CH := Hi (CH.out.trans (chg_of_below hb _)); clear hb)
          | (refine store_o rfl 39 3 _ _ rfl (d) (fc f F) rfl rfl (by kernel_rfl) (by kernel_rfl) (by kernel_rfl) OF.out (by first | rfl | simp) ?_; intro ws hst hO; have OF := Hi hO; have JA := Hi (JA.out.stored JL.out hst (by omega)); have CH := Hi (Stored.chgS hst CH.out (Or.inr (by have := HDe.out; omega))); clear hst hO))
        refine bodyPost_ret (v := .agg (fc f F).toArray) ?_ rfl ⟨by rw [E.out]; rfl, by rw [E.out]; exact JA.out, CH.out⟩
        exact results_c Tryz.results84 _ _ _ (fc f F) _ rfl OF.out.range0 Tryz.underlying39 rfl (by kernel_rfl)
    have hb := 0
    clear hb
    obtain ⟨m1, hm1⟩ : ∃ m1, mm = m1 + 1 := ⟨mm - 1, by
      have h1 := HMM.out
      rw [HBS.out] at h1
      rcases HEA.out with ⟨_, e⟩ | ⟨_, e⟩ <;> rw [e] at h1 <;> omega⟩
    have HM1 := Hi (show m1 = K.bytes (n - i - ea) by
      have h1 := HMM.out
      rw [HBS.out] at h1 ⊢
      rcases HEA.out with ⟨_, e⟩ | ⟨_, e⟩ <;> rw [e] at h1 ⊢ <;> omega)
    have HRL := Hi (show (if (K.next τ 1).2.2 = false then ((K.next τ 1).1, K.ft (K.next τ 1).1.l (K.next τ 1).1.a) else
      if (K.byteL (byN K.x.s τ.a) τ.a (min ea (n - i)) 0 (K.next τ 1).1).2.1 = 0 then K.plainL m1 (n - i - ea) (K.byteL (byN K.x.s τ.a) τ.a (min ea (n - i)) 0 (K.next τ 1).1).1 else K.byteL (byN K.x.s τ.a) τ.a (min ea (n - i)) 0 (K.next τ 1).1) = RL by
      have := HRL.out; rw [hm1, JK.plainL, HEAe.out] at this; exact this)
    clear hm1
    have k0 := JA.out.cell 0 (.pointer (some ⟨X, 0, none⟩)) (by rw [← HXe.out]; rfl)
    cases hok : (K.next τ 1).2.2 with
    | false =>
      have HU := Hi (fun w0 (h0 : JAt w0 N K τ) => (HU8.out τ w0 h0).mono (R' := fun e w' => e = .returned (.tuple #[.int .i64 0, .bool false]) ∧ JAt w' N K (K.next τ 1).1 ∧ Chg (jS N K) w0 w') fun e w' hh => by rw [hok] at hh; exact hh)
      obtain ⟨υ, hυ⟩ : ∃ υ, (K.next τ 1).1 = υ := ⟨_, rfl⟩
      rw [hυ] at HU HRL
      obtain ⟨F, hF⟩ : ∃ F, K.ft υ.l υ.a = F := ⟨_, rfl⟩
      have HFL := Hi (HFL.out υ)
      rw [hF] at HFL HRL
      have hne : F.1 ≠ 0 := by rw [← hF]; exact ft_ne _ _ _
      have E := Hi (show R = (υ, F) by
        have h1 : (υ, F) = RL := by have := HRL.out; rw [if_pos hok] at this; exact this
        have := HRE.out
        rw [← h1, if_neg hne] at this
        exact this.symm)
      clear hυ hF hne hok
      go_upto_region 8 with (fail)
      go_upto_region 9 with (first
        | ((go_at_call 32; (with_reducible refine (HAT.out τ _ JA.out).mono ?_); rintro e ws1 ⟨rfl, rfl⟩)))
      go_upto_region 11 with (first
        | ((go_at_call 157; (with_reducible refine (HU.out _ JA.out).mono ?_); rintro e w2 ⟨rfl, hj1, hc1⟩); have JA := Hi hj1; have OF := Hi (hc1.obj OF.out (not_jS JL.out (by omega))); have CH := Hi (CH.out.trans hc1); clear hj1 hc1))
      clear k0
      have k0 := JA.out.cell 0 (.pointer (some ⟨X, 0, none⟩)) (by rw [← HXe.out]; rfl)
      have k19 := JA.out.cell 19 (.int .i64 f) (by rw [← HF.out]; rfl)
      go_still_tail 8, (by kernel_rfl)
      rw [show (⟨w2.heap, w2.tape, w2.drawn + 1, w2.os, w2.output⟩ : World) = w2.drewN 1 from rfl]
      have JA := Hi (JA.out.drewN 1)
      have CH := Hi (CH.out.drewN 1)
      have OF := Hi (OF.out.drewN 1)
      generalize w2.drewN 1 = w3 at JA CH OF ⊢
      clear k0 k19
      go_wp2_with (first
        | ((go_at_call 67; (with_reducible refine (HFL.out _ JA.out).mono ?_); rintro e w4 ⟨rfl, hb⟩); have JA := Hi (JA.out.below hb); have OF := Hi (OF.out.below hb OF.out.lt); have CH := Hi (CH.out.trans (chg_of_below hb _)); clear hb)
        | (refine store_o rfl 39 3 _ _ rfl (d) (fc f F) rfl rfl (by kernel_rfl) (by kernel_rfl) (by kernel_rfl) OF.out (by first | rfl | simp) ?_; intro ws hst hO; have OF := Hi hO; have JA := Hi (JA.out.stored JL.out hst (by omega)); have CH := Hi (Stored.chgS hst CH.out (Or.inr (by have := HDe.out; omega))); clear hst hO))
      refine bodyPost_ret (v := .agg (fc f F).toArray) ?_ rfl ⟨by rw [E.out]; rfl, by rw [E.out]; exact JA.out, CH.out⟩
      exact results_c Tryz.results84 _ _ _ (fc f F) _ rfl OF.out.range0 Tryz.underlying39 rfl (by kernel_rfl)
    | true =>
      have HU := Hi (fun w0 (h0 : JAt w0 N K τ) => (HU8.out τ w0 h0).mono (R' := fun e w' => e = .returned (.tuple #[.int .i64 (byN K.x.s τ.a), .bool true]) ∧ JAt w' N K (K.next τ 1).1 ∧ Chg (jS N K) w0 w') fun e w' hh => by rw [hok, if_pos rfl] at hh; exact hh)
      obtain ⟨j1, j2, j3, j4, j5, j6⟩ := jnext_str JA.out 1 hok
      obtain ⟨υ, hυ⟩ : ∃ υ, (K.next τ 1).1 = υ := ⟨_, rfl⟩
      rw [hυ] at HU HRL j3 j4
      obtain ⟨v, hv⟩ : ∃ v, byN K.x.s τ.a = v := ⟨_, rfl⟩
      have hvb := byN_bd K.x.s τ.a
      rw [hv] at HU HRL hvb
      obtain ⟨c, hc⟩ : ∃ c, min ea (n - i) = c := ⟨_, rfl⟩
      rw [hc] at HRL
      have hce : c ≤ K.each := by rw [HEAe.out]; omega
      have hcx : υ.x + c ≤ K.n.W := by rw [j3]; have := HX.out; omega
      have hcy : υ.y < K.n.H := by rw [j4]; exact HY.out
      have HBC := Hi (fun w0 (h0 : JAt w0 N K υ) => HBY.out υ v c τ.a w0 h0 hvb hce hcx hcy)
      have HC := Hi hc
      have HOK := Hi hok
      have HUX := Hi j3
      have HCX := Hi hcx
      have HCY := Hi hcy
      clear hok hυ hv j1 j2 j3 j4 j5 j6 hc hce hcx hcy
      go_upto_region 8 with (fail)
      go_upto_region 9 with (first
        | ((go_at_call 32; (with_reducible refine (HAT.out τ _ JA.out).mono ?_); rintro e ws1 ⟨rfl, rfl⟩)))
      go_upto_region 12 with (first
        | ((go_at_call 157; (with_reducible refine (HU.out _ JA.out).mono ?_); rintro e w2 ⟨rfl, hj1, hc1⟩); have JA := Hi hj1; have OF := Hi (hc1.obj OF.out (not_jS JL.out (by omega))); have CH := Hi (CH.out.trans hc1); clear hj1 hc1))
      clear k0
      have HSUB := Hi (show IntKind.i64.wrap ((n : Int) - i) = (n : Int) - i from i64_wraps _ (by omega) (by omega))
      obtain ⟨Q, hQ⟩ : ∃ Q, K.byteL v τ.a c 0 υ = Q := ⟨_, rfl⟩
      rw [hQ] at HBC HRL
      have HQ := Hi hQ
      have HRL := Hi (show (if Q.2.1 = 0 then K.plainL m1 (n - i - ea) Q.1 else Q) = RL by have := HRL.out; rw [if_neg (by rw [HOK.out]; decide)] at this; exact this)
      clear hQ
      by_cases hmin : (ea : Int) ≤ (n : Int) - i
      · have HBV := Hi (fun w0 (h0 : JAt w0 N K υ) => (show Calls Tryz.prog 158 #[.pointer (some ⟨N, 0, none⟩), .int .i64 v, .int .i64 ((ea : Int)), .int .i64 (τ.a : Int)] w0 (fun e w' => e = .returned (.agg (fc f Q.2).toArray) ∧ JAt w' N K Q.1 ∧ Chg (jS N K) w0 w') from by
          have h := HBC.out w0 h0
          rw [show (c : Int) = (ea : Int) by have := HC.out; omega] at h
          exact h))
        have hsub := HSUB.out
        go_upto_region 13 with (fail)
        with_reducible refine (HBV.out _ JA.out).mono ?_
        rintro e w8 ⟨rfl, hj1, hc1⟩
        have JA := Hi hj1
        have OF := Hi (hc1.obj OF.out (not_jS JL.out (by omega)))
        have CH := Hi (CH.out.trans hc1)
        clear hj1 hc1
        clear hsub
        obtain ⟨dF, hdF⟩ : ∃ b, w8.heap.size = b := ⟨_, rfl⟩
        have lzdF := OF.out.lt
        have O13 := Hi (obj1_new w8 #[.int .i64 0, .int .i64 0, .int .i64 0] 39)
        rw [hdF] at O13 lzdF
        have JA := Hi (JA.out.alloc (.cells #[.int .i64 0, .int .i64 0, .int .i64 0] 39))
        have CH := Hi (CH.out.alloc (.cells #[.int .i64 0, .int .i64 0, .int .i64 0] 39))
        have OF := Hi (OF.out.alloc (.cells #[.int .i64 0, .int .i64 0, .int .i64 0] 39))
        go_upto_region 13 with (first
          | (refine store_o rfl 39 3 _ _ rfl (dF) (fc f Q.2) rfl rfl (by kernel_rfl) (by kernel_rfl) (by kernel_rfl) O13.out (by first | rfl | simp) ?_; intro ws hst hO; have O13 := Hi hO; have JA := Hi (JA.out.stored JL.out hst (by omega)); have OF := Hi (hst.oth OF.out (by omega)); have CH := Hi (Stored.chgS hst CH.out (Or.inr (by have := HDe.out; omega))); clear hst hO))
        clear hdF
        obtain ⟨z, hz⟩ : ∃ z, Q.2.1 = z := ⟨_, rfl⟩
        have q0 := (O13.out.cell 0).trans (show _ = some (.int .i64 z) by rw [← hz]; rfl)
        have HZ := Hi hz
        clear hz
        by_cases hz0 : z = 0
        · have hb : (z != 0) = false := by rw [hz0]; rfl
          have E := Hi (show K.plainL m1 (n - i - ea) Q.1 = RL by have := HRL.out; rw [if_pos (HZ.out.trans hz0)] at this; exact this)
          have HZ0 := Hi hz0
          clear hz0
          have hadd : IntKind.i64.wrap ((i : Int) + ea) = (i : Int) + ea := i64_wraps _ (by omega) (by omega)
          go_wp2_with fail
          go_roundw
          case rel =>
            have hxy := byteL_xy HQ.out (HZ.out.trans HZ0.out)
            have hcc := HC.out
            have hux := HCX.out
            have huy := HCY.out
            have hi2 : n - (i + ea) = n - i - ea := by omega
            exact ⟨i + ea, m1, Q.1, by go_num, by omega, by rw [hi2]; exact HM1.out, by rw [hi2]; exact E.out, JA.out, OF.out, CH.out, by rw [hi2, hxy.1]; have := HX.out; have := HUX.out; omega, by rw [hxy.2]; exact huy⟩
          case measure => simp [intOf]; omega
        · have hb : (z != 0) = true := by rw [bne_iff_ne]; exact hz0
          have E := Hi (show R = Q by
            have h1 : Q = RL := by have := HRL.out; rw [if_neg (by rw [HZ.out]; exact hz0)] at this; exact this
            have := HRE.out
            rw [← h1, if_neg (by rw [HZ.out]; exact hz0)] at this
            exact this.symm)
          clear hz0
          go_wp2_with (first
            | (refine load_u (by kernel_rfl) 39 3 _ rfl (dF) (fc f Q.2) rfl rfl O13.out Tryz.underlying39 rfl (by kernel_rfl) ?_; intro _)
            | (refine store_o rfl 39 3 _ _ rfl (d) (fc f Q.2) rfl rfl (by kernel_rfl) (by kernel_rfl) (by kernel_rfl) OF.out (by first | rfl | simp) ?_; intro ws hst hO; have OF := Hi hO; have JA := Hi (JA.out.stored JL.out hst (by omega)); have O13 := Hi (hst.oth O13.out (by omega)); have CH := Hi (Stored.chgS hst CH.out (Or.inr (by have := HDe.out; omega))); clear hst hO))
          refine bodyPost_ret (v := .agg (fc f Q.2).toArray) ?_ rfl ⟨by rw [E.out]; rfl, by rw [E.out]; exact JA.out, CH.out⟩
          exact results_c Tryz.results84 _ _ _ (fc f Q.2) _ rfl OF.out.range0 Tryz.underlying39 rfl (by kernel_rfl)
      · have HBV := Hi (fun w0 (h0 : JAt w0 N K υ) => (show Calls Tryz.prog 158 #[.pointer (some ⟨N, 0, none⟩), .int .i64 v, .int .i64 (((n : Int) - i)), .int .i64 (τ.a : Int)] w0 (fun e w' => e = .returned (.agg (fc f Q.2).toArray) ∧ JAt w' N K Q.1 ∧ Chg (jS N K) w0 w') from by
          have h := HBC.out w0 h0
          rw [show (c : Int) = ((n : Int) - i) by have := HC.out; omega] at h
          exact h))
        have hsub := HSUB.out
        go_upto_region 13 with (fail)
        with_reducible refine (HBV.out _ JA.out).mono ?_
        rintro e w8 ⟨rfl, hj1, hc1⟩
        have JA := Hi hj1
        have OF := Hi (hc1.obj OF.out (not_jS JL.out (by omega)))
        have CH := Hi (CH.out.trans hc1)
        clear hj1 hc1
        clear hsub
        obtain ⟨dF, hdF⟩ : ∃ b, w8.heap.size = b := ⟨_, rfl⟩
        have lzdF := OF.out.lt
        have O13 := Hi (obj1_new w8 #[.int .i64 0, .int .i64 0, .int .i64 0] 39)
        rw [hdF] at O13 lzdF
        have JA := Hi (JA.out.alloc (.cells #[.int .i64 0, .int .i64 0, .int .i64 0] 39))
        have CH := Hi (CH.out.alloc (.cells #[.int .i64 0, .int .i64 0, .int .i64 0] 39))
        have OF := Hi (OF.out.alloc (.cells #[.int .i64 0, .int .i64 0, .int .i64 0] 39))
        go_upto_region 13 with (first
          | (refine store_o rfl 39 3 _ _ rfl (dF) (fc f Q.2) rfl rfl (by kernel_rfl) (by kernel_rfl) (by kernel_rfl) O13.out (by first | rfl | simp) ?_; intro ws hst hO; have O13 := Hi hO; have JA := Hi (JA.out.stored JL.out hst (by omega)); have OF := Hi (hst.oth OF.out (by omega)); have CH := Hi (Stored.chgS hst CH.out (Or.inr (by have := HDe.out; omega))); clear hst hO))
        clear hdF
        obtain ⟨z, hz⟩ : ∃ z, Q.2.1 = z := ⟨_, rfl⟩
        have q0 := (O13.out.cell 0).trans (show _ = some (.int .i64 z) by rw [← hz]; rfl)
        have HZ := Hi hz
        clear hz
        by_cases hz0 : z = 0
        · have hb : (z != 0) = false := by rw [hz0]; rfl
          have E := Hi (show K.plainL m1 (n - i - ea) Q.1 = RL by have := HRL.out; rw [if_pos (HZ.out.trans hz0)] at this; exact this)
          have HZ0 := Hi hz0
          clear hz0
          have hadd : IntKind.i64.wrap ((i : Int) + ea) = (i : Int) + ea := i64_wraps _ (by omega) (by omega)
          go_wp2_with fail
          go_roundw
          case rel =>
            have hxy := byteL_xy HQ.out (HZ.out.trans HZ0.out)
            have hcc := HC.out
            have hux := HCX.out
            have huy := HCY.out
            have hi2 : n - (i + ea) = n - i - ea := by omega
            exact ⟨i + ea, m1, Q.1, by go_num, by omega, by rw [hi2]; exact HM1.out, by rw [hi2]; exact E.out, JA.out, OF.out, CH.out, by rw [hi2, hxy.1]; have := HX.out; have := HUX.out; omega, by rw [hxy.2]; exact huy⟩
          case measure => simp [intOf]; omega
        · have hb : (z != 0) = true := by rw [bne_iff_ne]; exact hz0
          have E := Hi (show R = Q by
            have h1 : Q = RL := by have := HRL.out; rw [if_neg (by rw [HZ.out]; exact hz0)] at this; exact this
            have := HRE.out
            rw [← h1, if_neg (by rw [HZ.out]; exact hz0)] at this
            exact this.symm)
          clear hz0
          go_wp2_with (first
            | (refine load_u (by kernel_rfl) 39 3 _ rfl (dF) (fc f Q.2) rfl rfl O13.out Tryz.underlying39 rfl (by kernel_rfl) ?_; intro _)
            | (refine store_o rfl 39 3 _ _ rfl (d) (fc f Q.2) rfl rfl (by kernel_rfl) (by kernel_rfl) (by kernel_rfl) OF.out (by first | rfl | simp) ?_; intro ws hst hO; have OF := Hi hO; have JA := Hi (JA.out.stored JL.out hst (by omega)); have O13 := Hi (hst.oth O13.out (by omega)); have CH := Hi (Stored.chgS hst CH.out (Or.inr (by have := HDe.out; omega))); clear hst hO))
          refine bodyPost_ret (v := .agg (fc f Q.2).toArray) ?_ rfl ⟨by rw [E.out]; rfl, by rw [E.out]; exact JA.out, CH.out⟩
          exact results_c Tryz.results84 _ _ _ (fc f Q.2) _ rfl OF.out.range0 Tryz.underlying39 rfl (by kernel_rfl)
end Go.Proofs.YtlfbaggcfaenlaaGreat

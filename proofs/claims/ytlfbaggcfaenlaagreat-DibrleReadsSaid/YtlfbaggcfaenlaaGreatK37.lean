/- dibrle.painter.run, walked. -/
import Derived.Test.YtlfbaggcfaenlaaGreatK35
import Derived.Test.YtlfbaggcfaenlaaGreatK36
import Derived.Test.YtlfbaggcfaenlaaGreatK0
namespace Go.Proofs.YtlfbaggcfaenlaaGreat
open Go.RowKit
set_option linter.unusedVariables false
set_option linter.unusedSimpArgs false
set_option maxRecDepth 100000 in
theorem and240 : ∀ a : Fin 256, (a.val &&& 240) = a.val / 16 * 16 ∧ (a.val / 16 * 16 ||| a.val / 16) = a.val / 16 * 17 := by decide +kernel
theorem and240i (v : Int) (h : 0 ≤ v ∧ v < 256) : bits .and .i64 v 240 = v / 16 * 16 ∧ bits .or .i64 (v / 16 * 16) (v / 16) = v / 16 * 17 := by
  obtain ⟨n, rfl⟩ := Int.eq_ofNat_of_zero_le h.1
  have hn : n < 256 := by omega
  obtain ⟨h1, h2⟩ := and240 ⟨n, hn⟩
  simp only at h1 h2
  have e1 := i64_andN n 240 (by omega) (by omega)
  have e2 := i64_orN (n / 16 * 16) (n / 16) (by omega) (by omega)
  rw [h1] at e1
  rw [h2] at e2
  have c1 : ((n / 16 * 16 : Nat) : Int) = (n : Int) / 16 * 16 := by omega
  have c2 : ((n / 16 : Nat) : Int) = (n : Int) / 16 := by omega
  have c3 : ((n / 16 * 17 : Nat) : Int) = (n : Int) / 16 * 17 := by omega
  rw [c1, c2, c3] at e2
  rw [c1] at e1
  exact ⟨e1, e2⟩
theorem jpair_any (N : Nat) (K : JK) (σ : JS) (v a : Int) (w : World) (h : JAt w N K σ) (hd : K.n.dp = 8 ∨ K.n.dp = 4) (hv : 0 ≤ v ∧ v < 256) : Calls Tryz.prog 155 #[.pointer (some ⟨N, 0, none⟩), .int .i64 v, .int .i64 a] w fun e w' =>
    e = .returned (pairVal K.p (entR v K.n.dp 0) (entR v K.n.dp 1) K.n.f a) ∧ Chg (fun _ => False) w w' := ppair_any N (K.pn σ) K.p v a w h.pn h.pal hd hv
def runV (n : Nat) (d v : Int) : Int := if n = 1 ∧ d = 4 then v / 16 * 17 else v
theorem runV_ent (n : Nat) (d v : Int) (hd : d = 8 ∨ d = 4) (hv : 0 ≤ v ∧ v < 256) : (0 ≤ runV n d v ∧ runV n d v < 256) ∧ entR (runV n d v) d 0 = entR v d 0 ∧ entR (runV n d v) d 1 = entR v d (if n = 1 then 0 else 1) := by
  unfold runV
  have h48 : ¬ ((4 : Int) = 8) := by decide
  by_cases h : n = 1 ∧ d = 4
  · rw [if_pos h, if_pos h.1, h.2]
    unfold entR
    rw [if_neg h48, if_neg h48, if_neg h48]
    refine ⟨by omega, ?_, ?_⟩
    · show v / 16 * 17 / 16 = v / 16; omega
    · show v / 16 * 17 % 16 = v / 16; omega
  · rw [if_neg h]
    refine ⟨hv, rfl, ?_⟩
    by_cases hn : n = 1
    · rw [if_pos hn]
      rcases hd with e | e
      · rw [e]; rfl
      · exact absurd ⟨hn, e⟩ h
    · rw [if_neg hn]
def Pal.px4 (p : Pal) (e : Int) : List Value := [.int .u8 (byN (p.ent e.toNat) 0), .int .u8 (byN (p.ent e.toNat) 1), .int .u8 (byN (p.ent e.toNat) 2), .int .u8 (byN (p.ent e.toNat) 3)]
def pairL (p : Pal) (e0 e1 : Int) : List Value := if p.has e0 = false then z4L ++ z4L else if p.has e1 = false then p.px4 e0 ++ z4L else p.px4 e0 ++ p.px4 e1
def pairT (p : Pal) (e0 e1 a : Int) : Int × Int := if p.has e0 = false ∨ p.has e1 = false then (2, a) else (0, 0)
theorem pairVal_eq (p : Pal) (e0 e1 f a : Int) : pairVal p e0 e1 f a = .tuple #[.agg (pairL p e0 e1).toArray, .agg (fc f (pairT p e0 e1 a)).toArray] := by
  unfold pairVal pairL pairT
  by_cases h0 : p.has e0 = false
  · rw [if_pos h0, if_pos h0, if_pos (Or.inl h0)]; rfl
  · by_cases h1 : p.has e1 = false
    · rw [if_neg h0, if_neg h0, if_pos h1, if_pos h1, if_pos (Or.inr h1)]; rfl
    · rw [if_neg h0, if_neg h0, if_neg h1, if_neg h1, if_neg (fun h => h.elim h0 h1)]; rfl
theorem pairL_len (p : Pal) (e0 e1 : Int) : (pairL p e0 e1).length = 8 := by unfold pairL; split <;> (try split) <;> rfl
theorem pairL_one (p : Pal) (e0 e1 : Int) : (pairL p e0 e1).all (·.oneCell') = true := by unfold pairL; split <;> (try split) <;> rfl
set_option maxRecDepth 100000 in
set_option maxHeartbeats 8000000 in
theorem jrun_any (N : Nat) (K : JK) (σ : JS) (n : Nat) (v a : Int) (w : World) (h : JAt w N K σ) (hd : K.n.dp = 8 ∨ K.n.dp = 4) (hv : 0 ≤ v ∧ v < 256) (hn : 0 < n) (hn2 : n < 256) (ha : 0 ≤ a ∧ a < 1000000000) (hx : σ.x ≤ K.n.W) :
    Calls Tryz.prog 81 #[.pointer (some ⟨N, 0, none⟩), .int .i64 n, .int .i64 v, .int .i64 a] w fun e w' => e = .returned (ftv K.n.f (K.run σ n v a).2) ∧ JAt w' N K (K.run σ n v a).1 ∧ Chg (jS N K) w w' := by
  have hC := (Chg.refl (fun _ => False) w).alloc (.cells #[.int .i64 0, .int .i64 0, .int .i64 0] 39)
  have OF := Hi (obj1_new w #[.int .i64 0, .int .i64 0, .int .i64 0] 39)
  have JA := Hi (h.keep hC)
  have CH := Hi (hC.mono (S' := jS N K) (fun _ _ h => h.elim))
  have JL := Hi h.jlt
  obtain ⟨d, hd0⟩ : ∃ d, w.heap.size = d := ⟨_, rfl⟩
  have HDe := Hi hd0
  rw [hd0] at OF JL
  obtain ⟨R, hR⟩ : ∃ R, K.run σ n v a = R := ⟨_, rfl⟩
  have E0 := hR
  unfold JK.run at E0
  have HRE := Hi E0
  rw [hR]
  clear hR E0
  have HWR := Hi (fun b w0 (h0 : JAt w0 N K σ) => (jwrong_any N K σ b w0 h0).mono (R' := fun e w' => e = .returned (.agg (fc K.n.f (2, b)).toArray) ∧ Below w0.heap.size w0 w') fun e w' hh => hh)
  obtain ⟨he0, he1, he2⟩ := runV_ent n K.n.dp v hd hv
  have HPA := Hi (fun w0 (h0 : JAt w0 N K σ) => jpair_any N K σ (runV n K.n.dp v) (a + 1) w0 h0 hd he0)
  rw [he1, he2] at HPA
  obtain ⟨e0, hE0⟩ : ∃ e, entR v K.n.dp 0 = e := ⟨_, rfl⟩
  obtain ⟨e1, hE1⟩ : ∃ e, entR v K.n.dp (if n = 1 then 0 else 1) = e := ⟨_, rfl⟩
  rw [hE0, hE1] at HPA HRE
  have HRM := Hi (fun w0 (h0 : JAt w0 N K σ) => jroom_any N K σ n w0 h0 hx)
  obtain ⟨f, hf⟩ : ∃ f, K.n.f = f := ⟨_, rfl⟩
  have HF := Hi hf
  rw [hf] at HWR HPA ⊢
  obtain ⟨dp, hdp⟩ : ∃ dp, K.n.dp = dp := ⟨_, rfl⟩
  have HDP := Hi hdp
  rw [hdp] at hd HPA
  have HD := Hi hd
  obtain ⟨v2, hv2⟩ : ∃ v2, runV n dp v = v2 := ⟨_, rfl⟩
  have HV2 := Hi hv2
  rw [hv2] at HPA
  have HV := Hi hv
  have HAB := Hi ha
  clear h hC hf hdp hd hE0 hE1 he0 he1 he2 hv2 ha hv
  by_cases hroom : K.room σ n
  rotate_left
  · have E := Hi (show R = (σ, (2, a)) by have := HRE.out; rw [if_pos hroom] at this; exact this.symm)
    have HRM := Hi (fun w0 (h0 : JAt w0 N K σ) => (HRM.out w0 h0).mono (R' := fun e w' => e = .returned (.bool false) ∧ Chg (fun _ => False) w0 w') fun e w' hh => by
      rw [decide_eq_false (show ¬ (σ.y < K.n.H ∧ (n : Int) ≤ (K.n.W : Int) - σ.x) from fun hq => hroom ⟨hq.1, by have := hq.2; omega⟩)] at hh; exact hh)
    clear hroom hx
    go_enter Tryz.func81, Tryz.ntmps81
    go_upto_region 2 with (first
      | ((go_at_call 153; (with_reducible refine (HRM.out _ JA.out).mono ?_); rintro e w1 ⟨rfl, hc⟩); have JA := Hi (JA.out.keep hc); have OF := Hi (hc.obj OF.out (fun h => h)); have CH := Hi (CH.out.trans (hc.mono (fun _ _ h => h.elim))); clear hc))
    clear hd0
    go_wp2_with (first
      | ((go_at_call 154; (with_reducible refine (HWR.out _ _ JA.out).mono ?_); rintro e w2 ⟨rfl, hb⟩); have JA := Hi (JA.out.below hb); have OF := Hi (OF.out.below hb OF.out.lt); have CH := Hi (CH.out.trans (chg_of_below hb _)); clear hb)
      | (refine store_o rfl 39 3 _ _ rfl (d) (fc f (2, a)) rfl rfl (by kernel_rfl) (by kernel_rfl) (by kernel_rfl) OF.out (by first | rfl | simp) ?_; intro ws hst hO; have OF := Hi hO; have JA := Hi (JA.out.stored JL.out hst (by omega)); have CH := Hi (Stored.chgS hst CH.out (Or.inr (by have := HDe.out; omega))); clear hst hO))
    refine bodyPost_ret (v := .agg (fc f (2, a)).toArray) ?_ rfl ⟨by rw [E.out]; rfl, by rw [E.out]; exact JA.out, CH.out⟩
    exact results_c Tryz.results81 _ _ _ (fc f (2, a)) _ rfl OF.out.range0 Tryz.underlying39 rfl (by kernel_rfl)
  have HRE := Hi (show (if K.p.has e0 = false ∨ K.p.has e1 = false then (σ, ((2 : Int), a + 1)) else K.runL e0 e1 n 0 σ) = R by have := HRE.out; rw [if_neg (fun hq => hq hroom)] at this; exact this)
  have HRM := Hi (fun w0 (h0 : JAt w0 N K σ) => (HRM.out w0 h0).mono (R' := fun e w' => e = .returned (.bool true) ∧ Chg (fun _ => False) w0 w') fun e w' hh => by
    rw [decide_eq_true (show (σ.y < K.n.H ∧ (n : Int) ≤ (K.n.W : Int) - σ.x) from ⟨hroom.1, by have := hroom.2; omega⟩)] at hh; exact hh)
  have HROOM := Hi hroom
  clear hroom hx
  go_enter Tryz.func81, Tryz.ntmps81
  go_upto_region 3 with (first
    | ((go_at_call 153; (with_reducible refine (HRM.out _ JA.out).mono ?_); rintro e w1 ⟨rfl, hc⟩); have JA := Hi (JA.out.keep hc); have OF := Hi (hc.obj OF.out (fun h => h)); have CH := Hi (CH.out.trans (hc.mono (fun _ _ h => h.elim))); clear hc))
  clear hd0
  have k5 := JA.out.cell 5 (.int .i64 dp) (by rw [← HDP.out]; rfl)
  obtain ⟨b1, hb1⟩ : ∃ b, ((n : Int) == 1) = b := ⟨_, rfl⟩
  obtain ⟨b2, hb2⟩ : ∃ b, (dp == 4) = b := ⟨_, rfl⟩
  have HB1 := Hi hb1
  have HB2 := Hi hb2
  obtain ⟨b3, hb3⟩ : ∃ b, (b1 && b2) = b := ⟨_, rfl⟩
  have HB3 := Hi hb3
  clear hb3
  go_cut [29] from 20 to 29 (fun c wx => wx = w1 ∧ c = .bool b3)
  case first =>
    cases b1
    · go_wp2_with (first
        | ((with_reducible refine skip_g rfl ?_ ?_); rfl; intro _))
      go_meet
      exact ⟨rfl, congrArg Value.bool HB3.out⟩
    · go_wp2_with (first
        | ((with_reducible refine skip_g rfl ?_ ?_); rfl; intro _))
      go_meet
      exact ⟨rfl, congrArg Value.bool HB3.out⟩
  case rest =>
  obtain ⟨rfl, rfl⟩ := hcut
  have k5 := 0
  clear k5
  go_upto_if 29 with (fail)
  go_cut [2] from 30 to 34 (fun c wx => wx = wc ∧ c = .int .i64 v2)
  case first =>
    have hv := HV.out
    obtain ⟨r1, r2⟩ := and240i v hv
    have hv0 := hv.1
    have hb1 := HB1.out
    have hb2 := HB2.out
    have hv2 := HV2.out
    unfold runV at hv2
    have hb3 := HB3.out
    cases b3
    · have E2 := Hi (show v2 = v by
        rw [← hv2, if_neg (fun hq => ?_)]
        rw [← hb1, ← hb2, hq.1, hq.2] at hb3
        cases hb3)
      clear hv2 hb1 hb2 hb3
      go_wp2_with fail
      go_meet
      exact ⟨rfl, by rw [E2.out]⟩
    · have E2 := Hi (show v2 = v / 16 * 17 by
        rw [← hb1, ← hb2, Bool.and_eq_true, beq_iff_eq, beq_iff_eq] at hb3
        rw [← hv2, if_pos ⟨by omega, hb3.2⟩])
      clear hv2 hb1 hb2 hb3
      go_wp2_with fail
      go_meet
      exact ⟨rfl, by rw [E2.out]⟩
  case rest =>
  obtain ⟨rfl, rfl⟩ := hcut
  have hab := HAB.out
  have w1a : IntKind.i64.wrap (a + 1) = a + 1 := i64_wraps _ (by omega) (by omega)
  go_upto_region 6 with (fail)
  with_reducible refine (HPA.out _ JA.out).mono ?_
  rintro e w2 ⟨rfl, hc⟩
  have JA := Hi (JA.out.keep hc)
  have OF := Hi (hc.obj OF.out (fun h => h))
  have CH := Hi (CH.out.trans (hc.mono (fun _ _ h => h.elim)))
  clear hc
  clear w1a
  rw [pairVal_eq]
  obtain ⟨P8, hP8⟩ : ∃ L, pairL K.p e0 e1 = L := ⟨_, rfl⟩
  obtain ⟨T8, hT8⟩ : ∃ t, pairT K.p e0 e1 (a + 1) = t := ⟨_, rfl⟩
  have l8 : P8.length = 8 := by rw [← hP8]; exact pairL_len _ _ _
  have o8 : P8.all (·.oneCell') = true := by rw [← hP8]; exact pairL_one _ _ _
  have HP8 := Hi hP8
  have HT8 := Hi hT8
  have L8 := Hi l8
  have O8 := Hi o8
  rw [hP8, hT8]
  clear hP8 hT8 l8 o8
  obtain ⟨d9, hd9⟩ : ∃ b, w2.heap.size = b := ⟨_, rfl⟩
  have lz9 := OF.out.lt
  rw [hd9] at lz9
  have LZ9 := Hi lz9
  have O9 := Hi ((obj1_new w2 #[.int .u8 0, .int .u8 0, .int .u8 0, .int .u8 0, .int .u8 0, .int .u8 0, .int .u8 0, .int .u8 0] 237).alloc (.cells #[.int .i64 0, .int .i64 0, .int .i64 0] 39))
  have O10 := Hi (obj1_new (w2.alloc (.cells #[.int .u8 0, .int .u8 0, .int .u8 0, .int .u8 0, .int .u8 0, .int .u8 0, .int .u8 0, .int .u8 0] 237)) #[.int .i64 0, .int .i64 0, .int .i64 0] 39)
  rw [show (w2.alloc (.cells #[.int .u8 0, .int .u8 0, .int .u8 0, .int .u8 0, .int .u8 0, .int .u8 0, .int .u8 0, .int .u8 0] 237)).heap.size = d9 + 1 by rw [← hd9]; simp] at O10
  rw [hd9] at O9
  have JA := Hi ((JA.out.alloc (.cells #[.int .u8 0, .int .u8 0, .int .u8 0, .int .u8 0, .int .u8 0, .int .u8 0, .int .u8 0, .int .u8 0] 237)).alloc (.cells #[.int .i64 0, .int .i64 0, .int .i64 0] 39))
  have CH := Hi ((CH.out.alloc (.cells #[.int .u8 0, .int .u8 0, .int .u8 0, .int .u8 0, .int .u8 0, .int .u8 0, .int .u8 0, .int .u8 0] 237)).alloc (.cells #[.int .i64 0, .int .i64 0, .int .i64 0] 39))
  have OF := Hi ((OF.out.alloc (.cells #[.int .u8 0, .int .u8 0, .int .u8 0, .int .u8 0, .int .u8 0, .int .u8 0, .int .u8 0, .int .u8 0] 237)).alloc (.cells #[.int .i64 0, .int .i64 0, .int .i64 0] 39))
  go_upto_region 6 with (first
    | (refine store_o rfl 237 8 _ _ rfl (d9) P8 L8.out O8.out (by kernel_rfl) (by kernel_rfl) (by kernel_rfl) O9.out (by first | rfl | simp) ?_; intro ws hst hO; have O9 := Hi hO; have JA := Hi (JA.out.stored JL.out hst (by omega)); have OF := Hi (hst.oth OF.out (by omega)); have O10 := Hi (hst.oth O10.out (by omega)); have CH := Hi (Stored.chgS hst CH.out (Or.inr (by have := HDe.out; omega))); clear hst hO)
    | (refine store_o rfl 39 3 _ _ rfl (d9 + 1) (fc f T8) rfl rfl (by kernel_rfl) (by kernel_rfl) (by kernel_rfl) O10.out (by first | rfl | simp) ?_; intro ws hst hO; have O10 := Hi hO; have JA := Hi (JA.out.stored JL.out hst (by omega)); have OF := Hi (hst.oth OF.out (by omega)); have O9 := Hi (hst.oth O9.out (by omega)); have CH := Hi (Stored.chgS hst CH.out (Or.inr (by have := HDe.out; omega))); clear hst hO))
  clear hd9
  obtain ⟨z, hz⟩ : ∃ z, T8.1 = z := ⟨_, rfl⟩
  have q0 := (O10.out.cell 0).trans (show _ = some (.int .i64 z) by rw [← hz]; rfl)
  have HZ := Hi hz
  clear hz
  by_cases hbad : K.p.has e0 = false ∨ K.p.has e1 = false
  · have ET := Hi (show T8 = (2, a + 1) by rw [← HT8.out]; unfold pairT; rw [if_pos hbad])
    have E := Hi (show R = (σ, (2, a + 1)) by have := HRE.out; rw [if_pos hbad] at this; exact this.symm)
    have hzz : z = 2 := by rw [← HZ.out, ET.out]
    have hb : (z != 0) = true := by rw [hzz]; rfl
    clear hbad hzz
    go_wp2_with (first
      | (refine load_u (by kernel_rfl) 39 3 _ rfl (d9 + 1) (fc f T8) rfl rfl O10.out Tryz.underlying39 rfl (by kernel_rfl) ?_; intro _)
      | (refine store_o rfl 39 3 _ _ rfl (d) (fc f T8) rfl rfl (by kernel_rfl) (by kernel_rfl) (by kernel_rfl) OF.out (by first | rfl | simp) ?_; intro ws hst hO; have OF := Hi hO; have JA := Hi (JA.out.stored JL.out hst (by omega)); have O9 := Hi (hst.oth O9.out (by omega)); have O10 := Hi (hst.oth O10.out (by omega)); have CH := Hi (Stored.chgS hst CH.out (Or.inr (by have := HDe.out; omega))); clear hst hO))
    refine bodyPost_ret (v := .agg (fc f T8).toArray) ?_ rfl ⟨by rw [E.out, ET.out]; rfl, by rw [E.out]; exact JA.out, CH.out⟩
    exact results_c Tryz.results81 _ _ _ (fc f T8) _ rfl OF.out.range0 Tryz.underlying39 rfl (by kernel_rfl)
  have hb0 : K.p.has e0 = true := by cases hq : K.p.has e0 with | true => rfl | false => exact absurd (Or.inl hq) hbad
  have hb1 : K.p.has e1 = true := by cases hq : K.p.has e1 with | true => rfl | false => exact absurd (Or.inr hq) hbad
  have hzz : z = 0 := by rw [← HZ.out, ← HT8.out]; unfold pairT; rw [if_neg hbad]
  have hb : (z != 0) = false := by rw [hzz]; rfl
  have HRL := Hi (show K.runL e0 e1 n 0 σ = R by have := HRE.out; rw [if_neg hbad] at this; exact this)
  have hP8 : P8 = K.p.px4 e0 ++ K.p.px4 e1 := by rw [← HP8.out]; unfold pairL; rw [if_neg (by rw [hb0]; decide), if_neg (by rw [hb1]; decide)]
  have HHAS := Hi hb0
  have HP8E := Hi hP8
  have HX := Hi HROOM.out.2
  have HY := Hi HROOM.out.1
  clear hbad hzz hb0 hb1 hP8
  go_wp2_with fail
  clear q0 hb lz9
  have D9 := Hi (show d < d9 from LZ9.out)
  go_loopw [48] (fun cc wr => ∃ (i : Nat) (τ : JS), i ≤ n ∧ cc = .int .i64 i ∧ K.runL e0 e1 (n - i) i τ = R ∧ JAt wr N K τ ∧ Obj1 wr d #[.int .i64 0, .int .i64 0, .int .i64 0] 39 ∧ Obj1 wr d9 P8.toArray 237 ∧ Chg (jS N K) w wr ∧ τ.x + (n - i) ≤ K.n.W ∧ τ.y < K.n.H) (fun cc _ => n - (intOf cc).toNat)
  case atStart => exact ⟨0, σ, Nat.zero_le _, rfl, HRL.out, JA.out, OF.out, O9.out, CH.out, HX.out, HY.out⟩
  case round =>
    obtain ⟨i, τ, hi, rfl, hrl, hja, hof, ho9, hch, hx1, hy1⟩ := hrel
    have HRL := Hi hrl
    have JA := Hi hja
    have OF := Hi hof
    have O9 := Hi ho9
    have CH := Hi hch
    have HX := Hi hx1
    have HY := Hi hy1
    have lz9 := D9.out
    clear hrl hja hof ho9 hch hx1 hy1
    by_cases hlt : i < n
    rotate_left
    · obtain rfl : i = n := by omega
      have E := Hi (show R = (τ, (0, 0)) by rw [← HRL.out, Nat.sub_self]; rfl)
      go_wp2_with (first
        | (refine store_o rfl 39 3 _ _ rfl (d) (fc f (0, 0)) rfl rfl (by kernel_rfl) (by kernel_rfl) (by kernel_rfl) OF.out (by first | rfl | simp) ?_; intro ws hst hO; have OF := Hi hO; have JA := Hi (JA.out.stored JL.out hst (by omega)); have O9 := Hi (hst.oth O9.out (by omega)); have CH := Hi (Stored.chgS hst CH.out (Or.inr (by have := HDe.out; omega))); clear hst hO))
      refine bodyPost_ret (v := .agg (fc f (0, 0)).toArray) ?_ rfl ⟨by rw [E.out]; rfl, by rw [E.out]; exact JA.out, CH.out⟩
      exact results_c Tryz.results81 _ _ _ (fc f (0, 0)) _ rfl OF.out.range0 Tryz.underlying39 rfl (by kernel_rfl)
    obtain ⟨e, he⟩ : ∃ e, (if i % 2 = 0 then e0 else e1) = e := ⟨_, rfl⟩
    have HSUB := Hi (show n - i = (n - (i + 1)) + 1 by omega)
    have HPT := Hi (fun w0 (h0 : JAt w0 N K τ) => (jputE_any N K τ e w0 h0 (by have := HX.out; omega) HY.out).mono (R' := fun e' w' => e' = .returned (.agg (fc f (K.putE τ e).2).toArray) ∧ JAt w' N K (K.putE τ e).1 ∧ Chg (jS N K) w0 w') fun e' w' hq => by rw [HF.out] at hq; exact hq)
    have HPT := Hi (fun w0 (h0 : JAt w0 N K τ) => (show Calls Tryz.prog 156 #[.pointer (some ⟨N, 0, none⟩), .agg (K.p.px4 e).toArray] w0 _ from HPT.out w0 h0))
    obtain ⟨Q, hQ⟩ : ∃ Q, K.putE τ e = Q := ⟨_, rfl⟩
    rw [hQ] at HPT
    have HQ := Hi hQ
    have EE := Hi (show R = if Q.2.1 = 0 then K.runL e0 e1 (n - (i + 1)) (i + 1) Q.1 else Q by
      have := HRL.out
      rw [HSUB.out] at this
      unfold JK.runL at this ⊢
      rw [JK.putsL, he, hQ] at this
      exact this.symm)
    obtain ⟨P4, hP4⟩ : ∃ L, K.p.px4 e = L := ⟨_, rfl⟩
    have HP4 := Hi hP4
    have l4 : P4.length = 4 := by rw [← hP4]; rfl
    have L4 := Hi l4
    have HPO := Hi (show (P8.drop (i % 2 * 4)).take P4.length = P4 by
      rw [l4, HP8E.out, ← hP4, ← he]
      rcases (show i % 2 = 0 ∨ i % 2 = 1 by omega) with h2 | h2
      · rw [h2, if_pos rfl]; rfl
      · rw [h2, if_neg (by decide)]; rfl)
    rw [hP4] at HPT
    have HE := Hi he
    obtain ⟨r, hr⟩ : ∃ r, i % 2 = r := ⟨_, rfl⟩
    have hr2 : r < 2 := by omega
    have hri : (i : Int) % 2 = (r : Int) := by omega
    rw [hr] at HPO
    clear hQ hP4 l4 he hr
    go_upto_region 12 with (first
      | (refine load_ag (by kernel_rfl) 185 _ rfl d9 (r * 4) P4 (by first | rfl | simp) O9.out (by simpa using HPO.out) Tryz.underlying185 rfl (by rw [L4.out]; kernel_rfl) ?_; intro _))
    with_reducible refine (HPT.out _ JA.out).mono ?_
    rintro e w8 ⟨rfl, hj1, hc1⟩
    have JA := Hi hj1
    have OF := Hi (hc1.obj OF.out (not_jS JL.out (by omega)))
    have O9 := Hi (hc1.obj O9.out (not_jS JL.out (by omega)))
    have CH := Hi (CH.out.trans hc1)
    clear hj1 hc1
    clear hri hr2
    obtain ⟨dF, hdF⟩ : ∃ b, w8.heap.size = b := ⟨_, rfl⟩
    have lzdF := O9.out.lt
    have O12 := Hi (obj1_new w8 #[.int .i64 0, .int .i64 0, .int .i64 0] 39)
    rw [hdF] at O12 lzdF
    have JA := Hi (JA.out.alloc (.cells #[.int .i64 0, .int .i64 0, .int .i64 0] 39))
    have CH := Hi (CH.out.alloc (.cells #[.int .i64 0, .int .i64 0, .int .i64 0] 39))
    have OF := Hi (OF.out.alloc (.cells #[.int .i64 0, .int .i64 0, .int .i64 0] 39))
    have O9 := Hi (O9.out.alloc (.cells #[.int .i64 0, .int .i64 0, .int .i64 0] 39))
    go_upto_region 12 with (first
      | (refine store_o rfl 39 3 _ _ rfl (dF) (fc f Q.2) rfl rfl (by kernel_rfl) (by kernel_rfl) (by kernel_rfl) O12.out (by first | rfl | simp) ?_; intro ws hst hO; have O12 := Hi hO; have JA := Hi (JA.out.stored JL.out hst (by omega)); have OF := Hi (hst.oth OF.out (by omega)); have O9 := Hi (hst.oth O9.out (by omega)); have CH := Hi (Stored.chgS hst CH.out (Or.inr (by have := HDe.out; omega))); clear hst hO))
    clear hdF
    obtain ⟨z, hz⟩ : ∃ z, Q.2.1 = z := ⟨_, rfl⟩
    have q0 := (O12.out.cell 0).trans (show _ = some (.int .i64 z) by rw [← hz]; rfl)
    have HZ := Hi hz
    clear hz
    by_cases hz0 : z = 0
    · have hb : (z != 0) = false := by rw [hz0]; rfl
      have E := Hi (show K.runL e0 e1 (n - (i + 1)) (i + 1) Q.1 = R by rw [EE.out, if_pos (HZ.out.trans hz0)])
      have HZ0 := Hi hz0
      clear hz0
      go_wp2_with fail
      go_roundw
      case rel =>
        have hxy : Q.1.x = τ.x + 1 ∧ Q.1.y = τ.y := by
          have hq := HQ.out
          subst hq
          exact put_xy (HZ.out.trans HZ0.out)
        exact ⟨i + 1, Q.1, by omega, by go_num, E.out, JA.out, OF.out, O9.out, CH.out, by rw [hxy.1]; have := HX.out; omega, by rw [hxy.2]; exact HY.out⟩
      case measure => simp [intOf]; omega
    · have hb : (z != 0) = true := by rw [bne_iff_ne]; exact hz0
      have E := Hi (show R = Q by rw [EE.out, if_neg (by rw [HZ.out]; exact hz0)])
      clear hz0
      go_wp2_with (first
        | (refine load_u (by kernel_rfl) 39 3 _ rfl (dF) (fc f Q.2) rfl rfl O12.out Tryz.underlying39 rfl (by kernel_rfl) ?_; intro _)
        | (refine store_o rfl 39 3 _ _ rfl (d) (fc f Q.2) rfl rfl (by kernel_rfl) (by kernel_rfl) (by kernel_rfl) OF.out (by first | rfl | simp) ?_; intro ws hst hO; have OF := Hi hO; have JA := Hi (JA.out.stored JL.out hst (by omega)); have O9 := Hi (hst.oth O9.out (by omega)); have O12 := Hi (hst.oth O12.out (by omega)); have CH := Hi (Stored.chgS hst CH.out (Or.inr (by have := HDe.out; omega))); clear hst hO))
      refine bodyPost_ret (v := .agg (fc f Q.2).toArray) ?_ rfl ⟨by rw [E.out]; rfl, by rw [E.out]; exact JA.out, CH.out⟩
      exact results_c Tryz.results81 _ _ _ (fc f Q.2) _ rfl OF.out.range0 Tryz.underlying39 rfl (by kernel_rfl)
end Go.Proofs.YtlfbaggcfaenlaaGreat

/- Parts. -/
import Derived.Test.YtfchnibjjokmbaaGreatK17
import Derived.Test.YtfchnibjjokmbaaGreatK18
set_option linter.all false
set_option maxRecDepth 100000
set_option maxHeartbeats 16000000
open Go.Value renaming int → J, pointer → Y
open Go.IntKind renaming i64 → I, u8 → U
namespace Go.Proofs.YtfchnibjjokmbaaGreat
open Go.RowKit
theorem and240 : ∀ a : Fin 256, (a.val &&& 240) = a.val / 16 * 16 ∧ (a.val / 16 * 16 ||| a.val / 16) = a.val / 16 * 17 := by decide +kernel
theorem and240i (v : Int) (h : 0 ≤ v ∧ v < 256) : bits .and .i64 v 240 = v / 16 * 16 ∧ bits .or .i64 (v / 16 * 16) (v / 16) = v / 16 * 17 := by
 obtain ⟨n, rfl⟩ := Int.eq_ofNat_of_zero_le h.1
 have hn : n < 256 := by omega
 obtain ⟨h1, h2⟩ := and240 ⟨n, hn⟩
 simp only at h1 h2
 have e1 := i64_andN n 240 (by omega) (by omega)
 have e2 := i64_orN (n / 16 * 16) (n / 16) (by omega) (by omega)
 rw [h1] at e1
 rw [h2] at e2
 have c1 : ((n / 16 * 16 : Nat) : Int) = (n : Int) / 16 * 16 := by omega
 have c2 : ((n / 16 : Nat) : Int) = (n : Int) / 16 := by omega
 have c3 : ((n / 16 * 17 : Nat) : Int) = (n : Int) / 16 * 17 := by omega
 rw [c1, c2, c3] at e2
 rw [c1] at e1
 exact ⟨e1, e2⟩
theorem jpair_any (N : Nat) (K : JK) (σ : JS) (v a : Int) (w : World) (h : JAt w N K σ) (hd : K.n.dp = 8 ∨ K.n.dp = 4) (hv : 0 ≤ v ∧ v < 256) : Calls Tryz.prog 187 #[Y (some ⟨N, 0, none⟩), J I v, J I a] w fun e w' =>
 e = .returned (aq K.p (aT v K.n.dp 0) (aT v K.n.dp 1) K.n.f a) ∧ Chg (fun _ => False) w w' := ppair_any N (K.pn σ) K.p v a w h.pn h.pal hd hv
def runV (n : Nat) (d v : Int) : Int := if n = 1 ∧ d = 4 then v / 16 * 17 else v
theorem runV_ent (n : Nat) (d v : Int) (hd : d = 8 ∨ d = 4) (hv : 0 ≤ v ∧ v < 256) : (0 ≤ runV n d v ∧ runV n d v < 256) ∧ aT (runV n d v) d 0 = aT v d 0 ∧ aT (runV n d v) d 1 = aT v d (if n = 1 then 0 else 1) := by
 unfold runV
 have h48 : ¬ ((4 : Int) = 8) := by decide
 by_cases h : n = 1 ∧ d = 4
 · rw [if_pos h, if_pos h.1, h.2]
   unfold aT
   rw [if_neg h48, if_neg h48, if_neg h48]
   refine ⟨by omega, ?_, ?_⟩
   · show v / 16 * 17 / 16 = v / 16; omega
   · show v / 16 * 17 % 16 = v / 16; omega
 · rw [if_neg h]
   refine ⟨hv, rfl, ?_⟩
   by_cases hn : n = 1
   · rw [if_pos hn]
     rcases hd with e | e
     · rw [e]; rfl
     · exact absurd ⟨hn, e⟩ h
   · rw [if_neg hn]
def Pal.px4 (p : Pal) (e : Int) : List Value := [J U (aG (p.ent e.toNat) 0), J U (aG (p.ent e.toNat) 1), J U (aG (p.ent e.toNat) 2), J U (aG (p.ent e.toNat) 3)]
def pairL (p : Pal) (e0 e1 : Int) : List Value := if p.has e0 = false then z4L ++ z4L else if p.has e1 = false then p.px4 e0 ++ z4L else p.px4 e0 ++ p.px4 e1
def pairT (p : Pal) (e0 e1 a : Int) : Int × Int := if p.has e0 = false ∨ p.has e1 = false then (2, a) else (0, 0)
theorem pairVal_eq (p : Pal) (e0 e1 f a : Int) : aq p e0 e1 f a = .tuple #[.agg (pairL p e0 e1).toArray, .agg (fc f (pairT p e0 e1 a)).toArray] := by
 unfold aq pairL pairT
 by_cases h0 : p.has e0 = false
 · rw [if_pos h0, if_pos h0, if_pos (Or.inl h0)]; rfl
 · by_cases h1 : p.has e1 = false
   · rw [if_neg h0, if_neg h0, if_pos h1, if_pos h1, if_pos (Or.inr h1)]; rfl
   · rw [if_neg h0, if_neg h0, if_neg h1, if_neg h1, if_neg (fun h => h.elim h0 h1)]; rfl
theorem pairL_len (p : Pal) (e0 e1 : Int) : (pairL p e0 e1).length = 8 := by unfold pairL; split <;> (try split) <;> rfl
theorem pairL_one (p : Pal) (e0 e1 : Int) : (pairL p e0 e1).all (·.oneCell') = true := by unfold pairL; split <;> (try split) <;> rfl
theorem jrun_any (N : Nat) (K : JK) (σ : JS) (n : Nat) (v a : Int) (w : World) (h : JAt w N K σ) (hd : K.n.dp = 8 ∨ K.n.dp = 4) (hv : 0 ≤ v ∧ v < 256) (hn : 0 < n) (hn2 : n < 256) (ha : 0 ≤ a ∧ a < 1000000000) (hx : σ.x ≤ K.n.W) :
 Calls Tryz.prog 150 #[Y (some ⟨N, 0, none⟩), J I n, J I v, J I a] w fun e w' => e = .returned (ftv K.n.f (K.run σ n v a).2) ∧ JAt w' N K (K.run σ n v a).1 ∧ Chg (jS N K) w w' := by
 have hC := (Chg.refl (fun _ => False) w).alloc (.cells #[J I 0, J I 0, J I 0] 31)
 have OF := Hi (aA w #[J I 0, J I 0, J I 0] 31)
 have JA := Hi (h.keep hC)
 have CH := Hi (hC.mono (S' := jS N K) (fun _ _ h => h.elim))
 have JL := Hi h.jlt
 obtain ⟨d, hd0⟩ : ∃ d, w.heap.size = d := ⟨_, rfl⟩
 have HDe := Hi hd0
 rw [hd0] at OF JL
 obtain ⟨R, hR⟩ : ∃ R, K.run σ n v a = R := ⟨_, rfl⟩
 have E0 := hR
 unfold JK.run at E0
 have HRE := Hi E0
 rw [hR]
 clear hR E0
 have HWR := Hi (fun b w0 (h0 : JAt w0 N K σ) => (jwrong_any N K σ b w0 h0).mono (R' := fun e w' => e = .returned (.agg (fc K.n.f (2, b)).toArray) ∧ Below w0.heap.size w0 w') fun e w' hh => hh)
 obtain ⟨he0, he1, he2⟩ := runV_ent n K.n.dp v hd hv
 have HPA := Hi (fun w0 (h0 : JAt w0 N K σ) => jpair_any N K σ (runV n K.n.dp v) (a + 1) w0 h0 hd he0)
 rw [he1, he2] at HPA
 obtain ⟨e0, hE0⟩ : ∃ e, aT v K.n.dp 0 = e := ⟨_, rfl⟩
 obtain ⟨e1, hE1⟩ : ∃ e, aT v K.n.dp (if n = 1 then 0 else 1) = e := ⟨_, rfl⟩
 rw [hE0, hE1] at HPA HRE
 have HRM := Hi (fun w0 (h0 : JAt w0 N K σ) => jroom_any N K σ n w0 h0 hx)
 obtain ⟨f, hf⟩ : ∃ f, K.n.f = f := ⟨_, rfl⟩
 have HF := Hi hf
 rw [hf] at HWR HPA ⊢
 obtain ⟨dp, hdp⟩ : ∃ dp, K.n.dp = dp := ⟨_, rfl⟩
 have HDP := Hi hdp
 rw [hdp] at hd HPA
 have HD := Hi hd
 obtain ⟨v2, hv2⟩ : ∃ v2, runV n dp v = v2 := ⟨_, rfl⟩
 have HV2 := Hi hv2
 rw [hv2] at HPA
 have HV := Hi hv
 have HAB := Hi ha
 clear h hC hf hdp hd hE0 hE1 he0 he1 he2 hv2 ha hv
 by_cases hroom : K.room σ n
 rotate_left
 · have E := Hi (show R = (σ, (2, a)) by have := HRE.out; rw [if_pos hroom] at this; exact this.symm)
   have HRM := Hi (fun w0 (h0 : JAt w0 N K σ) => (HRM.out w0 h0).mono (R' := fun e w' => e = .returned (.bool false) ∧ Chg (fun _ => False) w0 w') fun e w' hh => by
    rw [decide_eq_false (show ¬ (σ.y < K.n.H ∧ (n : Int) ≤ (K.n.W : Int) - σ.x) from fun hq => hroom ⟨hq.1, by have := hq.2; omega⟩)] at hh; exact hh)
   clear hroom hx
   go_enter Tryz.func150, Tryz.ntmps150
   go_upto_region 2 with (first
    | ((go_at_call 185; (with_reducible refine (HRM.out _ JA.out).mono ?_); rintro e w1 ⟨rfl, hc⟩); have JA := Hi (JA.out.keep hc); have OF := Hi (hc.obj OF.out (fun h => h)); have CH := Hi (CH.out.trans (hc.mono (fun _ _ h => h.elim))); clear hc))
   clear hd0
   go_wp2_with (first
    | ((go_at_call 186; (with_reducible refine (HWR.out _ _ JA.out).mono ?_); rintro e w2 ⟨rfl, hb⟩); have JA := Hi (JA.out.below hb); have OF := Hi (OF.out.below hb OF.out.lt); have CH := Hi (CH.out.trans (aB hb _)); clear hb)
    | (refine so 31 3 (d) (fc f (2, a)) OF.out ?_; intro ws hst hO; have OF := Hi hO; have JA := Hi (JA.out.stored JL.out hst (by omega)); have CH := Hi (Stored.chgS hst CH.out (Or.inr (by have := HDe.out; omega))); clear hst hO))
   refine bodyPost_ret (v := .agg (fc f (2, a)).toArray) ?_ rfl ⟨by rw [E.out]; rfl, by rw [E.out]; exact JA.out, CH.out⟩
   exact aD Tryz.results150 _ _ _ (fc f (2, a)) _ rfl OF.out.range0 Tryz.underlying31 rfl (by kernel_rfl)
 have HRE := Hi (show (if K.p.has e0 = false ∨ K.p.has e1 = false then (σ, ((2 : Int), a + 1)) else K.runL e0 e1 n 0 σ) = R by have := HRE.out; rw [if_neg (fun hq => hq hroom)] at this; exact this)
 have HRM := Hi (fun w0 (h0 : JAt w0 N K σ) => (HRM.out w0 h0).mono (R' := fun e w' => e = .returned (.bool true) ∧ Chg (fun _ => False) w0 w') fun e w' hh => by
  rw [decide_eq_true (show (σ.y < K.n.H ∧ (n : Int) ≤ (K.n.W : Int) - σ.x) from ⟨hroom.1, by have := hroom.2; omega⟩)] at hh; exact hh)
 have HROOM := Hi hroom
 clear hroom hx
 go_enter Tryz.func150, Tryz.ntmps150
 go_upto_region 3 with (first
  | ((go_at_call 185; (with_reducible refine (HRM.out _ JA.out).mono ?_); rintro e w1 ⟨rfl, hc⟩); have JA := Hi (JA.out.keep hc); have OF := Hi (hc.obj OF.out (fun h => h)); have CH := Hi (CH.out.trans (hc.mono (fun _ _ h => h.elim))); clear hc))
 clear hd0
 have k5 := JA.out.cell 5 (J I dp) (by rw [← HDP.out]; rfl)
 obtain ⟨b1, hb1⟩ : ∃ b, ((n : Int) == 1) = b := ⟨_, rfl⟩
 obtain ⟨b2, hb2⟩ : ∃ b, (dp == 4) = b := ⟨_, rfl⟩
 have HB1 := Hi hb1
 have HB2 := Hi hb2
 obtain ⟨b3, hb3⟩ : ∃ b, (b1 && b2) = b := ⟨_, rfl⟩
 have HB3 := Hi hb3
 clear hb3
 go_cut [29] from 20 to 29 (fun c wx => wx = w1 ∧ c = .bool b3)
 case first =>
  cases b1
  · go_wp2_with (first
     | ((with_reducible refine aE rfl ?_ ?_); rfl; intro _))
    go_meet
    exact ⟨rfl, congrArg Value.bool HB3.out⟩
  · go_wp2_with (first
     | ((with_reducible refine aE rfl ?_ ?_); rfl; intro _))
    go_meet
    exact ⟨rfl, congrArg Value.bool HB3.out⟩
 case rest =>
 obtain ⟨rfl, rfl⟩ := hcut
 have k5 := 0
 clear k5
 go_upto_if 29 with (fail)
 go_cut [2] from 30 to 34 (fun c wx => wx = wc ∧ c = J I v2)
 case first =>
  have hv := HV.out
  obtain ⟨r1, r2⟩ := and240i v hv
  have hv0 := hv.1
  have hb1 := HB1.out
  have hb2 := HB2.out
  have hv2 := HV2.out
  unfold runV at hv2
  have hb3 := HB3.out
  cases b3
  · have E2 := Hi (show v2 = v by
     rw [← hv2, if_neg (fun hq => ?_)]
     rw [← hb1, ← hb2, hq.1, hq.2] at hb3
     cases hb3)
    clear hv2 hb1 hb2 hb3
    go_wp2_with fail
    go_meet
    exact ⟨rfl, by rw [E2.out]⟩
  · have E2 := Hi (show v2 = v / 16 * 17 by
     rw [← hb1, ← hb2, Bool.and_eq_true, beq_iff_eq, beq_iff_eq] at hb3
     rw [← hv2, if_pos ⟨by omega, hb3.2⟩])
    clear hv2 hb1 hb2 hb3
    go_wp2_with fail
    go_meet
    exact ⟨rfl, by rw [E2.out]⟩
 case rest =>
 obtain ⟨rfl, rfl⟩ := hcut
 have hab := HAB.out
 have w1a : IntKind.i64.wrap (a + 1) = a + 1 := aF _ (by omega) (by omega)
 go_upto_region 6 with (fail)
 with_reducible refine (HPA.out _ JA.out).mono ?_
 rintro e w2 ⟨rfl, hc⟩
 have JA := Hi (JA.out.keep hc)
 have OF := Hi (hc.obj OF.out (fun h => h))
 have CH := Hi (CH.out.trans (hc.mono (fun _ _ h => h.elim)))
 clear hc
 clear w1a
 rw [pairVal_eq]
 obtain ⟨P8, hP8⟩ : ∃ L, pairL K.p e0 e1 = L := ⟨_, rfl⟩
 obtain ⟨T8, hT8⟩ : ∃ t, pairT K.p e0 e1 (a + 1) = t := ⟨_, rfl⟩
 have l8 : P8.length = 8 := by rw [← hP8]; exact pairL_len _ _ _
 have o8 : P8.all (·.oneCell') = true := by rw [← hP8]; exact pairL_one _ _ _
 have HP8 := Hi hP8
 have HT8 := Hi hT8
 have L8 := Hi l8
 have O8 := Hi o8
 rw [hP8, hT8]
 clear hP8 hT8 l8 o8
 obtain ⟨d9, hd9⟩ : ∃ b, w2.heap.size = b := ⟨_, rfl⟩
 have lz9 := OF.out.lt
 rw [hd9] at lz9
 have LZ9 := Hi lz9
 have O9 := Hi ((aA w2 #[J U 0, J U 0, J U 0, J U 0, J U 0, J U 0, J U 0, J U 0] 257).alloc (.cells #[J I 0, J I 0, J I 0] 31))
 have O10 := Hi (aA (w2.alloc (.cells #[J U 0, J U 0, J U 0, J U 0, J U 0, J U 0, J U 0, J U 0] 257)) #[J I 0, J I 0, J I 0] 31)
 rw [show (w2.alloc (.cells #[J U 0, J U 0, J U 0, J U 0, J U 0, J U 0, J U 0, J U 0] 257)).heap.size = d9 + 1 by rw [← hd9]; simp] at O10
 rw [hd9] at O9
 have JA := Hi ((JA.out.alloc (.cells #[J U 0, J U 0, J U 0, J U 0, J U 0, J U 0, J U 0, J U 0] 257)).alloc (.cells #[J I 0, J I 0, J I 0] 31))
 have CH := Hi ((CH.out.alloc (.cells #[J U 0, J U 0, J U 0, J U 0, J U 0, J U 0, J U 0, J U 0] 257)).alloc (.cells #[J I 0, J I 0, J I 0] 31))
 have OF := Hi ((OF.out.alloc (.cells #[J U 0, J U 0, J U 0, J U 0, J U 0, J U 0, J U 0, J U 0] 257)).alloc (.cells #[J I 0, J I 0, J I 0] 31))
 go_upto_region 6 with (first
  | (refine store_o rfl 257 8 _ _ rfl (d9) P8 L8.out O8.out (by kernel_rfl) (by kernel_rfl) (by kernel_rfl) O9.out (by first | rfl | simp) ?_; intro ws hst hO; have O9 := Hi hO; have JA := Hi (JA.out.stored JL.out hst (by omega)); have OF := Hi (hst.oth OF.out (by omega)); have O10 := Hi (hst.oth O10.out (by omega)); have CH := Hi (Stored.chgS hst CH.out (Or.inr (by have := HDe.out; omega))); clear hst hO)
  | (refine so 31 3 (d9 + 1) (fc f T8) O10.out ?_; intro ws hst hO; have O10 := Hi hO; have JA := Hi (JA.out.stored JL.out hst (by omega)); have OF := Hi (hst.oth OF.out (by omega)); have O9 := Hi (hst.oth O9.out (by omega)); have CH := Hi (Stored.chgS hst CH.out (Or.inr (by have := HDe.out; omega))); clear hst hO))
 clear hd9
 obtain ⟨z, hz⟩ : ∃ z, T8.1 = z := ⟨_, rfl⟩
 have q0 := (O10.out.cell 0).trans (show _ = some (J I z) by rw [← hz]; rfl)
 have HZ := Hi hz
 clear hz
 by_cases hbad : K.p.has e0 = false ∨ K.p.has e1 = false
 · have ET := Hi (show T8 = (2, a + 1) by rw [← HT8.out]; unfold pairT; rw [if_pos hbad])
   have E := Hi (show R = (σ, (2, a + 1)) by have := HRE.out; rw [if_pos hbad] at this; exact this.symm)
   have hzz : z = 2 := by rw [← HZ.out, ET.out]
   have hb : (z != 0) = true := by rw [hzz]; rfl
   clear hbad hzz
   go_wp2_with (first
    | (refine aL (by kernel_rfl) 31 3 _ rfl (d9 + 1) (fc f T8) rfl rfl O10.out Tryz.underlying31 rfl (by kernel_rfl) ?_; intro _)
    | (refine so 31 3 (d) (fc f T8) OF.out ?_; intro ws hst hO; have OF := Hi hO; have JA := Hi (JA.out.stored JL.out hst (by omega)); have O9 := Hi (hst.oth O9.out (by omega)); have O10 := Hi (hst.oth O10.out (by omega)); have CH := Hi (Stored.chgS hst CH.out (Or.inr (by have := HDe.out; omega))); clear hst hO))
   refine bodyPost_ret (v := .agg (fc f T8).toArray) ?_ rfl ⟨by rw [E.out, ET.out]; rfl, by rw [E.out]; exact JA.out, CH.out⟩
   exact aD Tryz.results150 _ _ _ (fc f T8) _ rfl OF.out.range0 Tryz.underlying31 rfl (by kernel_rfl)
 have hb0 : K.p.has e0 = true := by cases hq : K.p.has e0 with | true => rfl | false => exact absurd (Or.inl hq) hbad
 have hb1 : K.p.has e1 = true := by cases hq : K.p.has e1 with | true => rfl | false => exact absurd (Or.inr hq) hbad
 have hzz : z = 0 := by rw [← HZ.out, ← HT8.out]; unfold pairT; rw [if_neg hbad]
 have hb : (z != 0) = false := by rw [hzz]; rfl
 have HRL := Hi (show K.runL e0 e1 n 0 σ = R by have := HRE.out; rw [if_neg hbad] at this; exact this)
 have hP8 : P8 = K.p.px4 e0 ++ K.p.px4 e1 := by rw [← HP8.out]; unfold pairL; rw [if_neg (by rw [hb0]; decide), if_neg (by rw [hb1]; decide)]
 have HHAS := Hi hb0
 have HP8E := Hi hP8
 have HX := Hi HROOM.out.2
 have HY := Hi HROOM.out.1
 clear hbad hzz hb0 hb1 hP8
 go_wp2_with fail
 clear q0 hb lz9
 have D9 := Hi (show d < d9 from LZ9.out)
 go_loopw [48] (fun cc wr => ∃ (i : Nat) (τ : JS), i ≤ n ∧ cc = J I i ∧ K.runL e0 e1 (n - i) i τ = R ∧ JAt wr N K τ ∧ Obj1 wr d #[J I 0, J I 0, J I 0] 31 ∧ Obj1 wr d9 P8.toArray 257 ∧ Chg (jS N K) w wr ∧ τ.x + (n - i) ≤ K.n.W ∧ τ.y < K.n.H) (fun cc _ => n - (intOf cc).toNat)
 case atStart => exact ⟨0, σ, Nat.zero_le _, rfl, HRL.out, JA.out, OF.out, O9.out, CH.out, HX.out, HY.out⟩
 case round =>
  obtain ⟨i, τ, hi, rfl, hrl, hja, hof, ho9, hch, hx1, hy1⟩ := hrel
  have HRL := Hi hrl
  have JA := Hi hja
  have OF := Hi hof
  have O9 := Hi ho9
  have CH := Hi hch
  have HX := Hi hx1
  have HY := Hi hy1
  have lz9 := D9.out
  clear hrl hja hof ho9 hch hx1 hy1
  by_cases hlt : i < n
  rotate_left
  · obtain rfl : i = n := by omega
    have E := Hi (show R = (τ, (0, 0)) by rw [← HRL.out, Nat.sub_self]; rfl)
    go_wp2_with (first
     | (refine so 31 3 (d) (fc f (0, 0)) OF.out ?_; intro ws hst hO; have OF := Hi hO; have JA := Hi (JA.out.stored JL.out hst (by omega)); have O9 := Hi (hst.oth O9.out (by omega)); have CH := Hi (Stored.chgS hst CH.out (Or.inr (by have := HDe.out; omega))); clear hst hO))
    refine bodyPost_ret (v := .agg (fc f (0, 0)).toArray) ?_ rfl ⟨by rw [E.out]; rfl, by rw [E.out]; exact JA.out, CH.out⟩
    exact aD Tryz.results150 _ _ _ (fc f (0, 0)) _ rfl OF.out.range0 Tryz.underlying31 rfl (by kernel_rfl)
  obtain ⟨e, he⟩ : ∃ e, (if i % 2 = 0 then e0 else e1) = e := ⟨_, rfl⟩
  have HSUB := Hi (show n - i = (n - (i + 1)) + 1 by omega)
  have HPT := Hi (fun w0 (h0 : JAt w0 N K τ) => (jputE_any N K τ e w0 h0 (by have := HX.out; omega) HY.out).mono (R' := fun e' w' => e' = .returned (.agg (fc f (K.putE τ e).2).toArray) ∧ JAt w' N K (K.putE τ e).1 ∧ Chg (jS N K) w0 w') fun e' w' hq => by rw [HF.out] at hq; exact hq)
  have HPT := Hi (fun w0 (h0 : JAt w0 N K τ) => (show Calls Tryz.prog 188 #[Y (some ⟨N, 0, none⟩), .agg (K.p.px4 e).toArray] w0 _ from HPT.out w0 h0))
  obtain ⟨Q, hQ⟩ : ∃ Q, K.putE τ e = Q := ⟨_, rfl⟩
  rw [hQ] at HPT
  have HQ := Hi hQ
  have EE := Hi (show R = if Q.2.1 = 0 then K.runL e0 e1 (n - (i + 1)) (i + 1) Q.1 else Q by
   have := HRL.out
   rw [HSUB.out] at this
   unfold JK.runL at this ⊢
   rw [JK.putsL, he, hQ] at this
   exact this.symm)
  obtain ⟨P4, hP4⟩ : ∃ L, K.p.px4 e = L := ⟨_, rfl⟩
  have HP4 := Hi hP4
  have l4 : P4.length = 4 := by rw [← hP4]; rfl
  have L4 := Hi l4
  have HPO := Hi (show (P8.drop (i % 2 * 4)).take P4.length = P4 by
   rw [l4, HP8E.out, ← hP4, ← he]
   rcases (show i % 2 = 0 ∨ i % 2 = 1 by omega) with h2 | h2
   · rw [h2, if_pos rfl]; rfl
   · rw [h2, if_neg (by decide)]; rfl)
  rw [hP4] at HPT
  have HE := Hi he
  obtain ⟨r, hr⟩ : ∃ r, i % 2 = r := ⟨_, rfl⟩
  have hr2 : r < 2 := by omega
  have hri : (i : Int) % 2 = (r : Int) := by omega
  rw [hr] at HPO
  clear hQ hP4 l4 he hr
  go_upto_region 12 with (first
   | (refine load_ag (by kernel_rfl) 104 _ rfl d9 (r * 4) P4 (by first | rfl | simp) O9.out (by simpa using HPO.out) Tryz.underlying104 rfl (by rw [L4.out]; kernel_rfl) ?_; intro _))
  with_reducible refine (HPT.out _ JA.out).mono ?_
  rintro e w8 ⟨rfl, hj1, hc1⟩
  have JA := Hi hj1
  have OF := Hi (hc1.obj OF.out (not_jS JL.out (by omega)))
  have O9 := Hi (hc1.obj O9.out (not_jS JL.out (by omega)))
  have CH := Hi (CH.out.trans hc1)
  clear hj1 hc1
  clear hri hr2
  obtain ⟨dF, hdF⟩ : ∃ b, w8.heap.size = b := ⟨_, rfl⟩
  have lzdF := O9.out.lt
  have O12 := Hi (aA w8 #[J I 0, J I 0, J I 0] 31)
  rw [hdF] at O12 lzdF
  have JA := Hi (JA.out.alloc (.cells #[J I 0, J I 0, J I 0] 31))
  have CH := Hi (CH.out.alloc (.cells #[J I 0, J I 0, J I 0] 31))
  have OF := Hi (OF.out.alloc (.cells #[J I 0, J I 0, J I 0] 31))
  have O9 := Hi (O9.out.alloc (.cells #[J I 0, J I 0, J I 0] 31))
  go_upto_region 12 with (first
   | (refine so 31 3 (dF) (fc f Q.2) O12.out ?_; intro ws hst hO; have O12 := Hi hO; have JA := Hi (JA.out.stored JL.out hst (by omega)); have OF := Hi (hst.oth OF.out (by omega)); have O9 := Hi (hst.oth O9.out (by omega)); have CH := Hi (Stored.chgS hst CH.out (Or.inr (by have := HDe.out; omega))); clear hst hO))
  clear hdF
  obtain ⟨z, hz⟩ : ∃ z, Q.2.1 = z := ⟨_, rfl⟩
  have q0 := (O12.out.cell 0).trans (show _ = some (J I z) by rw [← hz]; rfl)
  have HZ := Hi hz
  clear hz
  by_cases hz0 : z = 0
  · have hb : (z != 0) = false := by rw [hz0]; rfl
    have E := Hi (show K.runL e0 e1 (n - (i + 1)) (i + 1) Q.1 = R by rw [EE.out, if_pos (HZ.out.trans hz0)])
    have HZ0 := Hi hz0
    clear hz0
    go_wp2_with fail
    go_roundw
    case rel =>
     have hxy : Q.1.x = τ.x + 1 ∧ Q.1.y = τ.y := by
      have hq := HQ.out
      subst hq
      exact put_xy (HZ.out.trans HZ0.out)
     exact ⟨i + 1, Q.1, by omega, by go_num, E.out, JA.out, OF.out, O9.out, CH.out, by rw [hxy.1]; have := HX.out; omega, by rw [hxy.2]; exact HY.out⟩
    case measure => simp [intOf]; omega
  · have hb : (z != 0) = true := by rw [bne_iff_ne]; exact hz0
    have E := Hi (show R = Q by rw [EE.out, if_neg (by rw [HZ.out]; exact hz0)])
    clear hz0
    go_wp2_with (first
     | (refine aL (by kernel_rfl) 31 3 _ rfl (dF) (fc f Q.2) rfl rfl O12.out Tryz.underlying31 rfl (by kernel_rfl) ?_; intro _)
     | (refine so 31 3 (d) (fc f Q.2) OF.out ?_; intro ws hst hO; have OF := Hi hO; have JA := Hi (JA.out.stored JL.out hst (by omega)); have O9 := Hi (hst.oth O9.out (by omega)); have O12 := Hi (hst.oth O12.out (by omega)); have CH := Hi (Stored.chgS hst CH.out (Or.inr (by have := HDe.out; omega))); clear hst hO))
    refine bodyPost_ret (v := .agg (fc f Q.2).toArray) ?_ rfl ⟨by rw [E.out]; rfl, by rw [E.out]; exact JA.out, CH.out⟩
    exact aD Tryz.results150 _ _ _ (fc f Q.2) _ rfl OF.out.range0 Tryz.underlying31 rfl (by kernel_rfl)
theorem putE_xy {K : JK} {σ : JS} {e : Int} (h : (K.putE σ e).2.1 = 0) : (K.putE σ e).1.x = σ.x + 1 ∧ (K.putE σ e).1.y = σ.y := put_xy h
theorem byteL_xy' (K : JK) (v pl : Int) : ∀ (c i : Nat) (σ : JS), (K.byteL v pl c i σ).2.1 = 0 → (K.byteL v pl c i σ).1.x = σ.x + c ∧ (K.byteL v pl c i σ).1.y = σ.y
 | 0, i, σ, h => ⟨rfl, rfl⟩
 | c + 1, i, σ, h => by
   rw [JK.byteL] at h ⊢
   by_cases h1 : K.p.has (aT v K.n.dp i) = false
   · rw [if_pos h1] at h; cases h
   · rw [if_neg h1] at h ⊢
     by_cases h2 : (K.putE σ (aT v K.n.dp i)).2.1 = 0
     · rw [if_pos h2] at h ⊢
       have h3 := byteL_xy' K v pl c (i + 1) _ h
       have h4 := putE_xy h2
       exact ⟨by rw [h3.1, h4.1]; omega, by rw [h3.2, h4.2]⟩
     · rw [if_neg h2] at h; exact absurd h h2
theorem byteL_xy {K : JK} {v pl : Int} {c i : Nat} {σ : JS} {Q : JS × (Int × Int)} (hQ : K.byteL v pl c i σ = Q) (h : Q.2.1 = 0) : Q.1.x = σ.x + c ∧ Q.1.y = σ.y := by
 subst hQ; exact byteL_xy' K v pl c i σ h
theorem jplain_any (N : Nat) (K : JK) (σ : JS) (n : Nat) (a : Int) (w : World) (h : JAt w N K σ) (hd : K.n.dp = 8 ∨ K.n.dp = 4) (hn : 0 < n) (hn2 : n < 256) (hx : σ.x ≤ K.n.W) (hes : K.x.s.size ≤ 1000000000) :
 Calls Tryz.prog 153 #[Y (some ⟨N, 0, none⟩), J I n, J I a] w fun e w' => e = .returned (ftv K.n.f (K.plain σ n a).2) ∧ JAt w' N K (K.plain σ n a).1 ∧ Chg (jS N K) w w' := by
 have hC := (Chg.refl (fun _ => False) w).alloc (.cells #[J I 0, J I 0, J I 0] 31)
 have OF := Hi (aA w #[J I 0, J I 0, J I 0] 31)
 have JA := Hi (h.keep hC)
 have CH := Hi (hC.mono (S' := jS N K) (fun _ _ h => h.elim))
 have JL := Hi h.jlt
 obtain ⟨d, hd0⟩ : ∃ d, w.heap.size = d := ⟨_, rfl⟩
 have HDe := Hi hd0
 rw [hd0] at OF JL
 obtain ⟨R, hR⟩ : ∃ R, K.plain σ n a = R := ⟨_, rfl⟩
 have E0 := hR
 unfold JK.plain at E0
 rw [hR]
 clear hR
 have HWR := Hi (fun b w0 (h0 : JAt w0 N K σ) => (jwrong_any N K σ b w0 h0).mono (R' := fun e w' => e = .returned (.agg (fc K.n.f (2, b)).toArray) ∧ Below w0.heap.size w0 w') fun e w' hh => hh)
 have HRM := Hi (fun w0 (h0 : JAt w0 N K σ) => jroom_any N K σ n w0 h0 hx)
 have HEA := each_is hd
 have HBY := Hi (fun (τ : JS) v (c : Nat) (pl : Int) w0 (h0 : JAt w0 N K τ) (hv : 0 ≤ v ∧ v < 256) (hc : c ≤ K.each) (hx : τ.x + c ≤ K.n.W) (hy : τ.y < K.n.H) => jbyte_any N K τ v c pl w0 h0 hd hv (by rcases HEA with ⟨_, e⟩ | ⟨_, e⟩ <;> omega) (fun h8 => by
  rcases HEA with ⟨_, e⟩ | ⟨e0, _⟩
  · omega
  · rw [h8] at e0; cases e0) hx hy)
 have HAT := Hi (fun (τ : JS) w0 (h0 : JAt w0 N K τ) => jat_any N K τ w0 h0)
 have HU8 := Hi (fun (τ : JS) w0 (h0 : JAt w0 N K τ) => ju8_any N K τ w0 h0)
 have HSK := Hi (fun (τ : JS) w0 (h0 : JAt w0 N K τ) => jskip1_any N K τ w0 h0)
 have HFL := Hi (fun (τ : JS) w0 (h0 : JAt w0 N K τ) => (jfault_any N K τ w0 h0).mono (R' := fun e w' => e = .returned (.agg (fc K.n.f (K.ft τ.l τ.a)).toArray) ∧ Below w0.heap.size w0 w') fun e w' hh => hh)
 have HBD := Hi (fun (w0 : World) (τ : JS) (h0 : JAt w0 N K τ) => (show (τ.a : Int) ≤ 1000000000 from by have h1 : τ.a ≤ K.x.e := h0.pr.src.ok.pe; have h2 : K.x.e ≤ K.x.s.size := h0.pr.src.ok.es; omega))
 obtain ⟨f, hf⟩ : ∃ f, K.n.f = f := ⟨_, rfl⟩
 have HF := Hi hf
 rw [hf] at HWR HBY HFL ⊢
 have HBY := Hi (fun (τ : JS) v (c : Nat) (pl : Int) w0 (h0 : JAt w0 N K τ) (hv : 0 ≤ v ∧ v < 256) (hc : c ≤ K.each) (hx : τ.x + c ≤ K.n.W) (hy : τ.y < K.n.H) => (HBY.out τ v c pl w0 h0 hv hc hx hy).mono (R' := fun e w' => e = .returned (.agg (fc f (K.byteL v pl c 0 τ).2).toArray) ∧ JAt w' N K (K.byteL v pl c 0 τ).1 ∧ Chg (jS N K) w0 w') fun e w' hh => hh)
 obtain ⟨X, hX⟩ : ∃ X, K.n.X = X := ⟨_, rfl⟩
 have HXe := Hi hX
 rw [hX] at HAT HU8 HSK HFL
 obtain ⟨dp, hdp⟩ : ∃ dp, K.n.dp = dp := ⟨_, rfl⟩
 have HDP := Hi hdp
 obtain ⟨ea, hea⟩ : ∃ ea, K.each = ea := ⟨_, rfl⟩
 have HEAe := Hi hea
 rw [hdp, hea] at HEA
 obtain ⟨m, hm⟩ : ∃ m, K.bytes n = m := ⟨_, rfl⟩
 have HM := Hi hm
 have hbs : ∀ c, K.bytes c = (c + ea - 1) / ea := fun c => by rw [← hea]; rfl
 have HBS := Hi hbs
 rw [hm] at E0
 obtain ⟨RL, hRL⟩ : ∃ q, K.plainL m n σ = q := ⟨_, rfl⟩
 have HRLe := Hi hRL
 rw [hRL] at E0
 have HRE := Hi E0
 have HEA := Hi HEA
 clear h hC hf hX hdp hd hea hm hbs E0 hRL hes
 by_cases hroom : K.room σ n
 rotate_left
 · have E := Hi (show R = (σ, (2, a)) by have := HRE.out; rw [if_pos hroom] at this; exact this.symm)
   have HRM := Hi (fun w0 (h0 : JAt w0 N K σ) => (HRM.out w0 h0).mono (R' := fun e w' => e = .returned (.bool false) ∧ Chg (fun _ => False) w0 w') fun e w' hh => by
    rw [decide_eq_false (show ¬ (σ.y < K.n.H ∧ (n : Int) ≤ (K.n.W : Int) - σ.x) from fun hq => hroom ⟨hq.1, by have := hq.2; omega⟩)] at hh; exact hh)
   clear hroom hx
   go_enter Tryz.func153, Tryz.ntmps153
   go_upto_region 2 with (first
    | ((go_at_call 185; (with_reducible refine (HRM.out _ JA.out).mono ?_); rintro e w1 ⟨rfl, hc⟩); have JA := Hi (JA.out.keep hc); have OF := Hi (hc.obj OF.out (fun h => h)); have CH := Hi (CH.out.trans (hc.mono (fun _ _ h => h.elim))); clear hc))
   clear hd0
   go_wp2_with (first
    | ((go_at_call 186; (with_reducible refine (HWR.out _ _ JA.out).mono ?_); rintro e w2 ⟨rfl, hb⟩); have JA := Hi (JA.out.below hb); have OF := Hi (OF.out.below hb OF.out.lt); have CH := Hi (CH.out.trans (aB hb _)); clear hb)
    | (refine so 31 3 (d) (fc f (2, a)) OF.out ?_; intro ws hst hO; have OF := Hi hO; have JA := Hi (JA.out.stored JL.out hst (by omega)); have CH := Hi (Stored.chgS hst CH.out (Or.inr (by have := HDe.out; omega))); clear hst hO))
   refine bodyPost_ret (v := .agg (fc f (2, a)).toArray) ?_ rfl ⟨by rw [E.out]; rfl, by rw [E.out]; exact JA.out, CH.out⟩
   exact aD Tryz.results153 _ _ _ (fc f (2, a)) _ rfl OF.out.range0 Tryz.underlying31 rfl (by kernel_rfl)
 have HRE := Hi (show (if RL.2.1 = 0 then (if m % 2 = 1 then (if (K.next RL.1 1).2.2 = false then ((K.next RL.1 1).1, K.ft (K.next RL.1 1).1.l (K.next RL.1 1).1.a) else ((K.next RL.1 1).1, (0, 0))) else (RL.1, (0, 0))) else RL) = R by have := HRE.out; rw [if_neg (fun hq => hq hroom)] at this; exact this)
 have HRM := Hi (fun w0 (h0 : JAt w0 N K σ) => (HRM.out w0 h0).mono (R' := fun e w' => e = .returned (.bool true) ∧ Chg (fun _ => False) w0 w') fun e w' hh => by
  rw [decide_eq_true (show (σ.y < K.n.H ∧ (n : Int) ≤ (K.n.W : Int) - σ.x) from ⟨hroom.1, by have := hroom.2; omega⟩)] at hh; exact hh)
 have HROOM := Hi hroom
 clear hroom hx
 go_enter Tryz.func153, Tryz.ntmps153
 go_upto_region 3 with (first
  | ((go_at_call 185; (with_reducible refine (HRM.out _ JA.out).mono ?_); rintro e w1 ⟨rfl, hc⟩); have JA := Hi (JA.out.keep hc); have OF := Hi (hc.obj OF.out (fun h => h)); have CH := Hi (CH.out.trans (hc.mono (fun _ _ h => h.elim))); clear hc))
 clear hd0
 have k5 := JA.out.cell 5 (J I dp) (by rw [← HDP.out]; rfl)
 go_cut [7] from 21 to 26 (fun c wx => wx = w1 ∧ c = J I ea)
 case first =>
  rcases HEA.out with ⟨e1, e2⟩ | ⟨e1, e2⟩
  · have E2 := Hi e2
    clear e2
    go_wp2_with fail
    go_meet
    exact ⟨rfl, by rw [E2.out]; rfl⟩
  · have E2 := Hi e2
    clear e2
    go_wp2_with fail
    go_meet
    exact ⟨rfl, by rw [E2.out]; rfl⟩
 case rest =>
 obtain ⟨rfl, rfl⟩ := hcut
 clear k5
 go_upto_region 4 with (fail)
 go_cut [8] from 27 to 32 (fun c wx => wx = wc ∧ c = J I m)
 case first =>
  have hm1 : m = (n + ea - 1) / ea := by rw [← HM.out, HBS.out]
  rcases HEA.out with ⟨e1, e2⟩ | ⟨e1, e2⟩
  · subst e2
    have E2 := Hi (show ((m : Nat) : Int) = (n : Int) by omega)
    clear hm1
    go_wp2_with fail
    go_meet
    exact ⟨rfl, by rw [E2.out]⟩
  · subst e2
    have E2 := Hi (show ((m : Nat) : Int) = ((n : Int) + 1) / 2 by omega)
    clear hm1
    go_wp2_with fail
    go_meet
    exact ⟨rfl, by rw [E2.out]; congr 1; omega⟩
 case rest =>
 obtain ⟨rfl, rfl⟩ := hcut
 have HX := Hi HROOM.out.2
 have HY := Hi HROOM.out.1
 have HEQ := Hi (show (m = K.bytes (n - 0)) from HM.out.symm)
 go_upto_region 5 with (fail)
 go_wp2_with fail
 go_loopw [9] (fun cc wr => ∃ (i mm : Nat) (τ : JS), cc = J I i ∧ i ≤ n + 1 ∧ mm = K.bytes (n - i) ∧ K.plainL mm (n - i) τ = RL ∧ JAt wr N K τ ∧ Obj1 wr d #[J I 0, J I 0, J I 0] 31 ∧ Chg (jS N K) w wr ∧ τ.x + (n - i) ≤ K.n.W ∧ τ.y < K.n.H) (fun cc _ => n + 1 - (intOf cc).toNat)
 case atStart => exact ⟨0, m, σ, rfl, by omega, HEQ.out, HRLe.out, JA.out, OF.out, CH.out, HX.out, HY.out⟩
 case round =>
  obtain ⟨i, mm, τ, rfl, hin, hmm, hrl, hja, hof, hch, hx1, hy1⟩ := hrel
  have HMM := Hi hmm
  have HRL := Hi hrl
  have JA := Hi hja
  have OF := Hi hof
  have CH := Hi hch
  have HX := Hi hx1
  have HY := Hi hy1
  clear hmm hrl hja hof hch hx1 hy1
  by_cases hlt : i < n
  rotate_left
  · have hmm0 : mm = 0 := by
     rw [HMM.out, HBS.out, show n - i = 0 by omega]
     rcases HEA.out with ⟨_, e⟩ | ⟨_, e⟩ <;> rw [e]
    have HR0 := Hi (show RL = (τ, (0, 0)) by rw [← HRL.out, hmm0]; rfl)
    have HRE := Hi (show (if m % 2 = 1 then (if (K.next τ 1).2.2 = false then ((K.next τ 1).1, K.ft (K.next τ 1).1.l (K.next τ 1).1.a) else ((K.next τ 1).1, (0, 0))) else (τ, (0, 0))) = R by have := HRE.out; rw [HR0.out, if_pos rfl] at this; exact this)
    clear hmm0
    by_cases hodd : m % 2 = 1
    rotate_left
    · have hbm : ((m : Int) % 2 == 1) = false := by rw [beq_eq_false_iff_ne]; omega
      have E := Hi (show R = (τ, (0, 0)) by have := HRE.out; rw [if_neg hodd] at this; exact this.symm)
      clear hodd
      go_wp2_with (first
       | ((with_reducible refine aE rfl ?_ ?_); rfl; intro _)
       | (refine so 31 3 (d) (fc f (0, 0)) OF.out ?_; intro ws hst hO; have OF := Hi hO; have JA := Hi (JA.out.stored JL.out hst (by omega)); have CH := Hi (Stored.chgS hst CH.out (Or.inr (by have := HDe.out; omega))); clear hst hO))
      refine bodyPost_ret (v := .agg (fc f (0, 0)).toArray) ?_ rfl ⟨by rw [E.out]; rfl, by rw [E.out]; exact JA.out, CH.out⟩
      exact aD Tryz.results153 _ _ _ (fc f (0, 0)) _ rfl OF.out.range0 Tryz.underlying31 rfl (by kernel_rfl)
    have hbm : ((m : Int) % 2 == 1) = true := by rw [beq_iff_eq]; omega
    have HRE := Hi (show (if (K.next τ 1).2.2 = false then ((K.next τ 1).1, K.ft (K.next τ 1).1.l (K.next τ 1).1.a) else ((K.next τ 1).1, (0, 0))) = R by have := HRE.out; rw [if_pos hodd] at this; exact this)
    clear hodd
    have k0 := JA.out.cell 0 (Y (some ⟨X, 0, none⟩)) (by rw [← HXe.out]; rfl)
    cases hok : (K.next τ 1).2.2 with
    | true =>
      have HS := Hi (fun w0 (h0 : JAt w0 N K τ) => (HSK.out τ w0 h0).mono (R' := fun e w' => e = .returned (.bool true) ∧ JAt w' N K (K.next τ 1).1 ∧ Chg (jS N K) w0 w') fun e w' hh => by rw [hok] at hh; exact hh)
      have E := Hi (show R = ((K.next τ 1).1, (0, 0)) by have := HRE.out; rw [if_neg (by rw [hok]; decide)] at this; exact this.symm)
      clear hok
      go_wp2_with (first
       | ((go_at_call 128; (with_reducible refine (HS.out _ JA.out).mono ?_); rintro e w2 ⟨rfl, hj1, hc1⟩); have JA := Hi hj1; have OF := Hi (hc1.obj OF.out (not_jS JL.out (by omega))); have CH := Hi (CH.out.trans hc1); clear hj1 hc1)
       | (refine so 31 3 (d) (fc f (0, 0)) OF.out ?_; intro ws hst hO; have OF := Hi hO; have JA := Hi (JA.out.stored JL.out hst (by omega)); have CH := Hi (Stored.chgS hst CH.out (Or.inr (by have := HDe.out; omega))); clear hst hO))
      refine bodyPost_ret (v := .agg (fc f (0, 0)).toArray) ?_ rfl ⟨by rw [E.out]; rfl, by rw [E.out]; exact JA.out, CH.out⟩
      exact aD Tryz.results153 _ _ _ (fc f (0, 0)) _ rfl OF.out.range0 Tryz.underlying31 rfl (by kernel_rfl)
    | false =>
      have HS := Hi (fun w0 (h0 : JAt w0 N K τ) => (HSK.out τ w0 h0).mono (R' := fun e w' => e = .returned (.bool false) ∧ JAt w' N K (K.next τ 1).1 ∧ Chg (jS N K) w0 w') fun e w' hh => by rw [hok] at hh; exact hh)
      obtain ⟨υ, hυ⟩ : ∃ υ, (K.next τ 1).1 = υ := ⟨_, rfl⟩
      rw [hυ] at HS HRE
      obtain ⟨F, hF⟩ : ∃ F, K.ft υ.l υ.a = F := ⟨_, rfl⟩
      have HFL := Hi (HFL.out υ)
      rw [hF] at HFL HRE
      have E := Hi (show R = (υ, F) by have := HRE.out; rw [if_pos hok] at this; exact this.symm)
      clear hok hυ hF
      go_upto_region 16 with (first
       | ((go_at_call 128; (with_reducible refine (HS.out _ JA.out).mono ?_); rintro e w2 ⟨rfl, hj1, hc1⟩); have JA := Hi hj1; have OF := Hi (hc1.obj OF.out (not_jS JL.out (by omega))); have CH := Hi (CH.out.trans hc1); clear hj1 hc1))
      clear k0
      have k0 := JA.out.cell 0 (Y (some ⟨X, 0, none⟩)) (by rw [← HXe.out]; rfl)
      have k19 := JA.out.cell 19 (J I f) (by rw [← HF.out]; rfl)
      go_still_tail 8, (by kernel_rfl)
      rw [show (⟨w2.heap, w2.tape, w2.drawn + 1, w2.os, w2.output⟩ : World) = w2.drewN 1 from rfl]
      have JA := Hi (JA.out.drewN 1)
      have CH := Hi (CH.out.drewN 1)
      have OF := Hi (OF.out.drewN 1)
      generalize w2.drewN 1 = w3 at JA CH OF ⊢
      clear k0 k19
      go_wp2_with (first
       | ((go_at_call 37; (with_reducible refine (HFL.out _ JA.out).mono ?_); rintro e w4 ⟨rfl, hb⟩); have JA := Hi (JA.out.below hb); have OF := Hi (OF.out.below hb OF.out.lt); have CH := Hi (CH.out.trans (aB hb _)); clear hb)
       | (refine so 31 3 (d) (fc f F) OF.out ?_; intro ws hst hO; have OF := Hi hO; have JA := Hi (JA.out.stored JL.out hst (by omega)); have CH := Hi (Stored.chgS hst CH.out (Or.inr (by have := HDe.out; omega))); clear hst hO))
      refine bodyPost_ret (v := .agg (fc f F).toArray) ?_ rfl ⟨by rw [E.out]; rfl, by rw [E.out]; exact JA.out, CH.out⟩
      exact aD Tryz.results153 _ _ _ (fc f F) _ rfl OF.out.range0 Tryz.underlying31 rfl (by kernel_rfl)
  have hb := 0
  clear hb
  obtain ⟨m1, hm1⟩ : ∃ m1, mm = m1 + 1 := ⟨mm - 1, by
   have h1 := HMM.out
   rw [HBS.out] at h1
   rcases HEA.out with ⟨_, e⟩ | ⟨_, e⟩ <;> rw [e] at h1 <;> omega⟩
  have HM1 := Hi (show m1 = K.bytes (n - i - ea) by
   have h1 := HMM.out
   rw [HBS.out] at h1 ⊢
   rcases HEA.out with ⟨_, e⟩ | ⟨_, e⟩ <;> rw [e] at h1 ⊢ <;> omega)
  have HRL := Hi (show (if (K.next τ 1).2.2 = false then ((K.next τ 1).1, K.ft (K.next τ 1).1.l (K.next τ 1).1.a) else
   if (K.byteL (aG K.x.s τ.a) τ.a (min ea (n - i)) 0 (K.next τ 1).1).2.1 = 0 then K.plainL m1 (n - i - ea) (K.byteL (aG K.x.s τ.a) τ.a (min ea (n - i)) 0 (K.next τ 1).1).1 else K.byteL (aG K.x.s τ.a) τ.a (min ea (n - i)) 0 (K.next τ 1).1) = RL by
   have := HRL.out; rw [hm1, JK.plainL, HEAe.out] at this; exact this)
  clear hm1
  have k0 := JA.out.cell 0 (Y (some ⟨X, 0, none⟩)) (by rw [← HXe.out]; rfl)
  cases hok : (K.next τ 1).2.2 with
  | false =>
    have HU := Hi (fun w0 (h0 : JAt w0 N K τ) => (HU8.out τ w0 h0).mono (R' := fun e w' => e = .returned (.tuple #[J I 0, .bool false]) ∧ JAt w' N K (K.next τ 1).1 ∧ Chg (jS N K) w0 w') fun e w' hh => by rw [hok] at hh; exact hh)
    obtain ⟨υ, hυ⟩ : ∃ υ, (K.next τ 1).1 = υ := ⟨_, rfl⟩
    rw [hυ] at HU HRL
    obtain ⟨F, hF⟩ : ∃ F, K.ft υ.l υ.a = F := ⟨_, rfl⟩
    have HFL := Hi (HFL.out υ)
    rw [hF] at HFL HRL
    have hne : F.1 ≠ 0 := by rw [← hF]; exact ft_ne _ _ _
    have E := Hi (show R = (υ, F) by
     have h1 : (υ, F) = RL := by have := HRL.out; rw [if_pos hok] at this; exact this
     have := HRE.out
     rw [← h1, if_neg hne] at this
     exact this.symm)
    clear hυ hF hne hok
    go_upto_region 8 with (fail)
    go_upto_region 9 with (first
     | ((go_at_call 23; (with_reducible refine (HAT.out τ _ JA.out).mono ?_); rintro e ws1 ⟨rfl, rfl⟩)))
    go_upto_region 11 with (first
     | ((go_at_call 179; (with_reducible refine (HU.out _ JA.out).mono ?_); rintro e w2 ⟨rfl, hj1, hc1⟩); have JA := Hi hj1; have OF := Hi (hc1.obj OF.out (not_jS JL.out (by omega))); have CH := Hi (CH.out.trans hc1); clear hj1 hc1))
    clear k0
    have k0 := JA.out.cell 0 (Y (some ⟨X, 0, none⟩)) (by rw [← HXe.out]; rfl)
    have k19 := JA.out.cell 19 (J I f) (by rw [← HF.out]; rfl)
    go_still_tail 8, (by kernel_rfl)
    rw [show (⟨w2.heap, w2.tape, w2.drawn + 1, w2.os, w2.output⟩ : World) = w2.drewN 1 from rfl]
    have JA := Hi (JA.out.drewN 1)
    have CH := Hi (CH.out.drewN 1)
    have OF := Hi (OF.out.drewN 1)
    generalize w2.drewN 1 = w3 at JA CH OF ⊢
    clear k0 k19
    go_wp2_with (first
     | ((go_at_call 37; (with_reducible refine (HFL.out _ JA.out).mono ?_); rintro e w4 ⟨rfl, hb⟩); have JA := Hi (JA.out.below hb); have OF := Hi (OF.out.below hb OF.out.lt); have CH := Hi (CH.out.trans (aB hb _)); clear hb)
     | (refine so 31 3 (d) (fc f F) OF.out ?_; intro ws hst hO; have OF := Hi hO; have JA := Hi (JA.out.stored JL.out hst (by omega)); have CH := Hi (Stored.chgS hst CH.out (Or.inr (by have := HDe.out; omega))); clear hst hO))
    refine bodyPost_ret (v := .agg (fc f F).toArray) ?_ rfl ⟨by rw [E.out]; rfl, by rw [E.out]; exact JA.out, CH.out⟩
    exact aD Tryz.results153 _ _ _ (fc f F) _ rfl OF.out.range0 Tryz.underlying31 rfl (by kernel_rfl)
  | true =>
    have HU := Hi (fun w0 (h0 : JAt w0 N K τ) => (HU8.out τ w0 h0).mono (R' := fun e w' => e = .returned (.tuple #[J I (aG K.x.s τ.a), .bool true]) ∧ JAt w' N K (K.next τ 1).1 ∧ Chg (jS N K) w0 w') fun e w' hh => by rw [hok, if_pos rfl] at hh; exact hh)
    obtain ⟨j1, j2, j3, j4, j5, j6⟩ := jnext_str JA.out 1 hok
    obtain ⟨υ, hυ⟩ : ∃ υ, (K.next τ 1).1 = υ := ⟨_, rfl⟩
    rw [hυ] at HU HRL j3 j4
    obtain ⟨v, hv⟩ : ∃ v, aG K.x.s τ.a = v := ⟨_, rfl⟩
    have hvb := aS K.x.s τ.a
    rw [hv] at HU HRL hvb
    obtain ⟨c, hc⟩ : ∃ c, min ea (n - i) = c := ⟨_, rfl⟩
    rw [hc] at HRL
    have hce : c ≤ K.each := by rw [HEAe.out]; omega
    have hcx : υ.x + c ≤ K.n.W := by rw [j3]; have := HX.out; omega
    have hcy : υ.y < K.n.H := by rw [j4]; exact HY.out
    have HBC := Hi (fun w0 (h0 : JAt w0 N K υ) => HBY.out υ v c τ.a w0 h0 hvb hce hcx hcy)
    have HC := Hi hc
    have HOK := Hi hok
    have HUX := Hi j3
    have HCX := Hi hcx
    have HCY := Hi hcy
    clear hok hυ hv j1 j2 j3 j4 j5 j6 hc hce hcx hcy
    go_upto_region 8 with (fail)
    go_upto_region 9 with (first
     | ((go_at_call 23; (with_reducible refine (HAT.out τ _ JA.out).mono ?_); rintro e ws1 ⟨rfl, rfl⟩)))
    go_upto_region 12 with (first
     | ((go_at_call 179; (with_reducible refine (HU.out _ JA.out).mono ?_); rintro e w2 ⟨rfl, hj1, hc1⟩); have JA := Hi hj1; have OF := Hi (hc1.obj OF.out (not_jS JL.out (by omega))); have CH := Hi (CH.out.trans hc1); clear hj1 hc1))
    clear k0
    have HSUB := Hi (show IntKind.i64.wrap ((n : Int) - i) = (n : Int) - i from aF _ (by omega) (by omega))
    obtain ⟨Q, hQ⟩ : ∃ Q, K.byteL v τ.a c 0 υ = Q := ⟨_, rfl⟩
    rw [hQ] at HBC HRL
    have HQ := Hi hQ
    have HRL := Hi (show (if Q.2.1 = 0 then K.plainL m1 (n - i - ea) Q.1 else Q) = RL by have := HRL.out; rw [if_neg (by rw [HOK.out]; decide)] at this; exact this)
    clear hQ
    by_cases hmin : (ea : Int) ≤ (n : Int) - i
    · have HBV := Hi (fun w0 (h0 : JAt w0 N K υ) => (show Calls Tryz.prog 189 #[Y (some ⟨N, 0, none⟩), J I v, J I ((ea : Int)), J I (τ.a : Int)] w0 (fun e w' => e = .returned (.agg (fc f Q.2).toArray) ∧ JAt w' N K Q.1 ∧ Chg (jS N K) w0 w') from by
       have h := HBC.out w0 h0
       rw [show (c : Int) = (ea : Int) by have := HC.out; omega] at h
       exact h))
      have hsub := HSUB.out
      go_upto_region 13 with (fail)
      with_reducible refine (HBV.out _ JA.out).mono ?_
      rintro e w8 ⟨rfl, hj1, hc1⟩
      have JA := Hi hj1
      have OF := Hi (hc1.obj OF.out (not_jS JL.out (by omega)))
      have CH := Hi (CH.out.trans hc1)
      clear hj1 hc1
      clear hsub
      obtain ⟨dF, hdF⟩ : ∃ b, w8.heap.size = b := ⟨_, rfl⟩
      have lzdF := OF.out.lt
      have O13 := Hi (aA w8 #[J I 0, J I 0, J I 0] 31)
      rw [hdF] at O13 lzdF
      have JA := Hi (JA.out.alloc (.cells #[J I 0, J I 0, J I 0] 31))
      have CH := Hi (CH.out.alloc (.cells #[J I 0, J I 0, J I 0] 31))
      have OF := Hi (OF.out.alloc (.cells #[J I 0, J I 0, J I 0] 31))
      go_upto_region 13 with (first
       | (refine so 31 3 (dF) (fc f Q.2) O13.out ?_; intro ws hst hO; have O13 := Hi hO; have JA := Hi (JA.out.stored JL.out hst (by omega)); have OF := Hi (hst.oth OF.out (by omega)); have CH := Hi (Stored.chgS hst CH.out (Or.inr (by have := HDe.out; omega))); clear hst hO))
      clear hdF
      obtain ⟨z, hz⟩ : ∃ z, Q.2.1 = z := ⟨_, rfl⟩
      have q0 := (O13.out.cell 0).trans (show _ = some (J I z) by rw [← hz]; rfl)
      have HZ := Hi hz
      clear hz
      by_cases hz0 : z = 0
      · have hb : (z != 0) = false := by rw [hz0]; rfl
        have E := Hi (show K.plainL m1 (n - i - ea) Q.1 = RL by have := HRL.out; rw [if_pos (HZ.out.trans hz0)] at this; exact this)
        have HZ0 := Hi hz0
        clear hz0
        have hadd : IntKind.i64.wrap ((i : Int) + ea) = (i : Int) + ea := aF _ (by omega) (by omega)
        go_wp2_with fail
        go_roundw
        case rel =>
         have hxy := byteL_xy HQ.out (HZ.out.trans HZ0.out)
         have hcc := HC.out
         have hux := HCX.out
         have huy := HCY.out
         have hi2 : n - (i + ea) = n - i - ea := by omega
         exact ⟨i + ea, m1, Q.1, by go_num, by omega, by rw [hi2]; exact HM1.out, by rw [hi2]; exact E.out, JA.out, OF.out, CH.out, by rw [hi2, hxy.1]; have := HX.out; have := HUX.out; omega, by rw [hxy.2]; exact huy⟩
        case measure => simp [intOf]; omega
      · have hb : (z != 0) = true := by rw [bne_iff_ne]; exact hz0
        have E := Hi (show R = Q by
         have h1 : Q = RL := by have := HRL.out; rw [if_neg (by rw [HZ.out]; exact hz0)] at this; exact this
         have := HRE.out
         rw [← h1, if_neg (by rw [HZ.out]; exact hz0)] at this
         exact this.symm)
        clear hz0
        go_wp2_with (first
         | (refine aL (by kernel_rfl) 31 3 _ rfl (dF) (fc f Q.2) rfl rfl O13.out Tryz.underlying31 rfl (by kernel_rfl) ?_; intro _)
         | (refine so 31 3 (d) (fc f Q.2) OF.out ?_; intro ws hst hO; have OF := Hi hO; have JA := Hi (JA.out.stored JL.out hst (by omega)); have O13 := Hi (hst.oth O13.out (by omega)); have CH := Hi (Stored.chgS hst CH.out (Or.inr (by have := HDe.out; omega))); clear hst hO))
        refine bodyPost_ret (v := .agg (fc f Q.2).toArray) ?_ rfl ⟨by rw [E.out]; rfl, by rw [E.out]; exact JA.out, CH.out⟩
        exact aD Tryz.results153 _ _ _ (fc f Q.2) _ rfl OF.out.range0 Tryz.underlying31 rfl (by kernel_rfl)
    · have HBV := Hi (fun w0 (h0 : JAt w0 N K υ) => (show Calls Tryz.prog 189 #[Y (some ⟨N, 0, none⟩), J I v, J I (((n : Int) - i)), J I (τ.a : Int)] w0 (fun e w' => e = .returned (.agg (fc f Q.2).toArray) ∧ JAt w' N K Q.1 ∧ Chg (jS N K) w0 w') from by
       have h := HBC.out w0 h0
       rw [show (c : Int) = ((n : Int) - i) by have := HC.out; omega] at h
       exact h))
      have hsub := HSUB.out
      go_upto_region 13 with (fail)
      with_reducible refine (HBV.out _ JA.out).mono ?_
      rintro e w8 ⟨rfl, hj1, hc1⟩
      have JA := Hi hj1
      have OF := Hi (hc1.obj OF.out (not_jS JL.out (by omega)))
      have CH := Hi (CH.out.trans hc1)
      clear hj1 hc1
      clear hsub
      obtain ⟨dF, hdF⟩ : ∃ b, w8.heap.size = b := ⟨_, rfl⟩
      have lzdF := OF.out.lt
      have O13 := Hi (aA w8 #[J I 0, J I 0, J I 0] 31)
      rw [hdF] at O13 lzdF
      have JA := Hi (JA.out.alloc (.cells #[J I 0, J I 0, J I 0] 31))
      have CH := Hi (CH.out.alloc (.cells #[J I 0, J I 0, J I 0] 31))
      have OF := Hi (OF.out.alloc (.cells #[J I 0, J I 0, J I 0] 31))
      go_upto_region 13 with (first
       | (refine so 31 3 (dF) (fc f Q.2) O13.out ?_; intro ws hst hO; have O13 := Hi hO; have JA := Hi (JA.out.stored JL.out hst (by omega)); have OF := Hi (hst.oth OF.out (by omega)); have CH := Hi (Stored.chgS hst CH.out (Or.inr (by have := HDe.out; omega))); clear hst hO))
      clear hdF
      obtain ⟨z, hz⟩ : ∃ z, Q.2.1 = z := ⟨_, rfl⟩
      have q0 := (O13.out.cell 0).trans (show _ = some (J I z) by rw [← hz]; rfl)
      have HZ := Hi hz
      clear hz
      by_cases hz0 : z = 0
      · have hb : (z != 0) = false := by rw [hz0]; rfl
        have E := Hi (show K.plainL m1 (n - i - ea) Q.1 = RL by have := HRL.out; rw [if_pos (HZ.out.trans hz0)] at this; exact this)
        have HZ0 := Hi hz0
        clear hz0
        have hadd : IntKind.i64.wrap ((i : Int) + ea) = (i : Int) + ea := aF _ (by omega) (by omega)
        go_wp2_with fail
        go_roundw
        case rel =>
         have hxy := byteL_xy HQ.out (HZ.out.trans HZ0.out)
         have hcc := HC.out
         have hux := HCX.out
         have huy := HCY.out
         have hi2 : n - (i + ea) = n - i - ea := by omega
         exact ⟨i + ea, m1, Q.1, by go_num, by omega, by rw [hi2]; exact HM1.out, by rw [hi2]; exact E.out, JA.out, OF.out, CH.out, by rw [hi2, hxy.1]; have := HX.out; have := HUX.out; omega, by rw [hxy.2]; exact huy⟩
        case measure => simp [intOf]; omega
      · have hb : (z != 0) = true := by rw [bne_iff_ne]; exact hz0
        have E := Hi (show R = Q by
         have h1 : Q = RL := by have := HRL.out; rw [if_neg (by rw [HZ.out]; exact hz0)] at this; exact this
         have := HRE.out
         rw [← h1, if_neg (by rw [HZ.out]; exact hz0)] at this
         exact this.symm)
        clear hz0
        go_wp2_with (first
         | (refine aL (by kernel_rfl) 31 3 _ rfl (dF) (fc f Q.2) rfl rfl O13.out Tryz.underlying31 rfl (by kernel_rfl) ?_; intro _)
         | (refine so 31 3 (d) (fc f Q.2) OF.out ?_; intro ws hst hO; have OF := Hi hO; have JA := Hi (JA.out.stored JL.out hst (by omega)); have O13 := Hi (hst.oth O13.out (by omega)); have CH := Hi (Stored.chgS hst CH.out (Or.inr (by have := HDe.out; omega))); clear hst hO))
        refine bodyPost_ret (v := .agg (fc f Q.2).toArray) ?_ rfl ⟨by rw [E.out]; rfl, by rw [E.out]; exact JA.out, CH.out⟩
        exact aD Tryz.results153 _ _ _ (fc f Q.2) _ rfl OF.out.range0 Tryz.underlying31 rfl (by kernel_rfl)
theorem put_a (K : JK) (σ : JS) (c0 c1 c2 c3 : Int) : (K.put σ c0 c1 c2 c3).1.a = σ.a := by unfold JK.put; split <;> rfl
theorem putE_a (K : JK) (σ : JS) (e : Int) : (K.putE σ e).1.a = σ.a := put_a K σ _ _ _ _
theorem putsL_in (K : JK) (es : Nat → Int) : ∀ (c i : Nat) (σ : JS), (K.putsL es c i σ).2.1 = 0 → (K.putsL es c i σ).1.x = σ.x + c ∧ (K.putsL es c i σ).1.y = σ.y ∧ (K.putsL es c i σ).1.a = σ.a
 | 0, i, σ, h => ⟨rfl, rfl, rfl⟩
 | c + 1, i, σ, h => by
   rw [JK.putsL] at h ⊢
   by_cases h2 : (K.putE σ (es i)).2.1 = 0
   · rw [if_pos h2] at h ⊢
     have h3 := putsL_in K es c (i + 1) _ h
     have h4 := putE_xy h2
     have h5 := putE_a K σ (es i)
     exact ⟨by rw [h3.1, h4.1]; omega, by rw [h3.2.1, h4.2], by rw [h3.2.2, h5]⟩
   · rw [if_neg h2] at h; exact absurd h h2
theorem byteL_a (K : JK) (v pl : Int) : ∀ (c i : Nat) (σ : JS), (K.byteL v pl c i σ).1.a = σ.a
 | 0, i, σ => rfl
 | c + 1, i, σ => by
   rw [JK.byteL]
   by_cases h1 : K.p.has (aT v K.n.dp i) = false
   · rw [if_pos h1]
   · rw [if_neg h1]
     by_cases h2 : (K.putE σ (aT v K.n.dp i)).2.1 = 0
     · rw [if_pos h2, byteL_a K v pl c (i + 1) _, putE_a]
     · rw [if_neg h2, putE_a]
theorem next_in (K : JK) (σ : JS) (n : Nat) : (K.next σ n).1.x = σ.x ∧ (K.next σ n).1.y = σ.y ∧ σ.a ≤ (K.next σ n).1.a := by
 unfold JK.next; split
 · exact ⟨rfl, rfl, by show σ.a ≤ σ.a + n; omega⟩
 · exact ⟨rfl, rfl, Nat.le_refl _⟩
theorem plainL_in (K : JK) : ∀ (m c : Nat) (σ : JS), (K.plainL m c σ).2.1 = 0 → (K.plainL m c σ).1.x ≤ σ.x + c ∧ (K.plainL m c σ).1.y = σ.y ∧ σ.a ≤ (K.plainL m c σ).1.a
 | 0, c, σ, h => ⟨Nat.le_add_right _ _, rfl, Nat.le_refl _⟩
 | m + 1, c, σ, h => by
   rw [JK.plainL] at h ⊢
   obtain ⟨n1, n2, n3⟩ := next_in K σ 1
   by_cases h1 : (K.next σ 1).2.2 = false
   · rw [if_pos h1] at h; exact absurd h (ft_ne _ _ _)
   · rw [if_neg h1] at h ⊢
     have ha := byteL_a K (aG K.x.s σ.a) σ.a (min K.each c) 0 (K.next σ 1).1
     by_cases h2 : (K.byteL (aG K.x.s σ.a) σ.a (min K.each c) 0 (K.next σ 1).1).2.1 = 0
     · rw [if_pos h2] at h ⊢
       obtain ⟨g1, g2, g3⟩ := plainL_in K m (c - K.each) _ h
       have hb := byteL_xy' K _ _ _ _ _ h2
       refine ⟨?_, by rw [g2, hb.2, n2], by rw [ha] at g3; omega⟩
       rw [hb.1, n1] at g1; omega
     · rw [if_neg h2] at h; exact absurd h h2
theorem cmd_in (K : JK) (σ : JS) (n v a : Int) (hv : 0 ≤ v) (hx : σ.x ≤ K.n.W) (hy : σ.y ≤ K.n.H) (h : (K.cmd σ n v a).2.1 = 0) : (K.cmd σ n v a).1.x ≤ K.n.W ∧ (K.cmd σ n v a).1.y ≤ K.n.H ∧ σ.a ≤ (K.cmd σ n v a).1.a := by
 have mv : ∀ (τ : JS) (x y : Nat), (K.move τ x y a).2.1 = 0 → (K.move τ x y a).1.x ≤ K.n.W ∧ (K.move τ x y a).1.y ≤ K.n.H ∧ τ.a ≤ (K.move τ x y a).1.a := by
  intro τ x y hm
  unfold JK.move JK.ins at hm ⊢
  by_cases hh : K.n.W < x ∨ K.n.H < y
  · rw [if_pos hh] at hm; cases hm
  · exact ⟨by show x ≤ K.n.W; omega, by show y ≤ K.n.H; omega, Nat.le_refl _⟩
 unfold JK.cmd at h ⊢
 by_cases h1 : 0 < n
 · rw [if_pos h1] at h ⊢
   unfold JK.run at h ⊢
   by_cases hr : K.room σ n.toNat
   · rw [if_neg (fun hh => hh hr)] at h ⊢
     by_cases hb : K.p.has (aT v K.n.dp 0) = false ∨ K.p.has (aT v K.n.dp (if n.toNat = 1 then 0 else 1)) = false
     · rw [if_pos hb] at h; cases h
     · rw [if_neg hb] at h ⊢
       have := putsL_in K _ _ _ _ h
       unfold JK.runL
       exact ⟨by rw [this.1]; exact hr.2, by rw [this.2.1]; exact hy, by rw [this.2.2]; exact Nat.le_refl _⟩
   · rw [if_pos hr] at h; cases h
 rw [if_neg h1] at h ⊢
 by_cases h2 : v = 0
 · rw [if_pos h2] at h ⊢
   exact mv _ _ _ h
 rw [if_neg h2] at h ⊢
 by_cases h3 : v = 2
 · rw [if_pos h3] at h ⊢
   unfold JK.leap at h ⊢
   by_cases hk : (K.next σ 2).2.2 = false
   · rw [if_pos hk] at h; exact absurd h (ft_ne _ _ _)
   · rw [if_neg hk] at h ⊢
     have h4 := mv _ _ _ h
     have h5 := (next_in K σ 2).2.2
     exact ⟨h4.1, h4.2.1, by omega⟩
 rw [if_neg h3] at h ⊢
 unfold JK.plain at h ⊢
 by_cases hr : K.room σ v.toNat
 · rw [if_neg (fun hh => hh hr)] at h ⊢
   have hr2 : σ.x + v.toNat ≤ K.n.W := hr.2
   by_cases hz : (K.plainL (K.bytes v.toNat) v.toNat σ).2.1 = 0
   · rw [if_pos hz] at h ⊢
     obtain ⟨g1, g2, g3⟩ := plainL_in K _ _ _ hz
     by_cases ho : K.bytes v.toNat % 2 = 1
     · rw [if_pos ho] at h ⊢
       obtain ⟨n1, n2, n3⟩ := next_in K (K.plainL (K.bytes v.toNat) v.toNat σ).1 1
       by_cases hk : (K.next (K.plainL (K.bytes v.toNat) v.toNat σ).1 1).2.2 = false
       · rw [if_pos hk] at h; exact absurd h (ft_ne _ _ _)
       · rw [if_neg hk]
         exact ⟨by rw [n1]; exact Nat.le_trans g1 hr2, by rw [n2, g2]; exact hy, Nat.le_trans g3 n3⟩
     · rw [if_neg ho]
       exact ⟨Nat.le_trans g1 hr2, by rw [g2]; exact hy, g3⟩
   · rw [if_neg hz] at h; exact absurd h hz
 · rw [if_pos hr] at h; cases h
theorem JAt.setX {w : World} {N : Nat} {K : JK} {σ : JS} (h : JAt w N K σ) (x : Nat) : JAt (w.setCell ⟨N, 20, none⟩ (J I x)) N K ⟨x, σ.y, σ.a, σ.l, σ.d⟩ := by
 have hap := h.ap
 have hc := (Chg.refl (fun k => k = N) w).set ⟨N, 20, none⟩ (J I x) (Or.inl rfl)
 exact ⟨(Obj1.set h.pn 20 (J I x)).cells rfl, ⟨h.pr.src.chg hc (fun e => hap.a1 e.symm), h.pr.led.chg hc (fun e => hap.a2 e.symm)⟩, h.pal.chg hc (fun e => hap.a3 e.symm) (fun e => hap.a4 e.symm) (fun e => hap.a5 e.symm), h.ras.chg hc (fun e => hap.a6 e.symm) (fun e => hap.a7 e.symm) (fun e => hap.a8 e.symm), h.ap, h.op, h.rw_, h.rh⟩
theorem JAt.setY {w : World} {N : Nat} {K : JK} {σ : JS} (h : JAt w N K σ) (y : Nat) : JAt (w.setCell ⟨N, 21, none⟩ (J I y)) N K ⟨σ.x, y, σ.a, σ.l, σ.d⟩ := by
 have hap := h.ap
 have hc := (Chg.refl (fun k => k = N) w).set ⟨N, 21, none⟩ (J I y) (Or.inl rfl)
 exact ⟨(Obj1.set h.pn 21 (J I y)).cells rfl, ⟨h.pr.src.chg hc (fun e => hap.a1 e.symm), h.pr.led.chg hc (fun e => hap.a2 e.symm)⟩, h.pal.chg hc (fun e => hap.a3 e.symm) (fun e => hap.a4 e.symm) (fun e => hap.a5 e.symm), h.ras.chg hc (fun e => hap.a6 e.symm) (fun e => hap.a7 e.symm) (fun e => hap.a8 e.symm), h.ap, h.op, h.rw_, h.rh⟩
theorem JAt.setX' {w : World} {N : Nat} {K : JK} {σ : JS} (h : JAt w N K σ) (v : Int) (x : Nat) (e : v = x) : JAt (w.setCell ⟨N, 20, none⟩ (J I v)) N K ⟨x, σ.y, σ.a, σ.l, σ.d⟩ := by subst e; exact h.setX x
theorem JAt.setY' {w : World} {N : Nat} {K : JK} {σ : JS} (h : JAt w N K σ) (v : Int) (y : Nat) (e : v = y) : JAt (w.setCell ⟨N, 21, none⟩ (J I v)) N K ⟨σ.x, y, σ.a, σ.l, σ.d⟩ := by subst e; exact h.setY y
theorem jleap_any (N : Nat) (K : JK) (σ : JS) (a : Int) (w : World) (h : JAt w N K σ) (hx : σ.x ≤ 100000) (hy : σ.y ≤ 100000) :
 Calls Tryz.prog 152 #[Y (some ⟨N, 0, none⟩), J I a] w fun e w' => e = .returned (ftv K.n.f (K.leap σ a).2) ∧ JAt w' N K (K.leap σ a).1 ∧ Chg (jS N K) w w' := by
 have hC := (Chg.refl (fun _ => False) w).alloc (.cells #[J I 0, J I 0, J I 0] 31)
 have OF := Hi (aA w #[J I 0, J I 0, J I 0] 31)
 have JA := Hi (h.keep hC)
 have CH := Hi (hC.mono (S' := jS N K) (fun _ _ h => h.elim))
 have JL := Hi h.jlt
 obtain ⟨d, hd0⟩ : ∃ d, w.heap.size = d := ⟨_, rfl⟩
 have HDe := Hi hd0
 rw [hd0] at OF JL
 obtain ⟨f, hf⟩ : ∃ f, K.n.f = f := ⟨_, rfl⟩
 have HF := Hi hf
 rw [hf]
 have HTK := Hi (fun w0 (h0 : JAt w0 N K σ) => jtake2_any N K σ w0 h0)
 have HFL := Hi (fun w0 (τ : JS) (h0 : JAt w0 N K τ) => (jfault_any N K τ w0 h0).mono (R' := fun e w' => e = .returned (.agg (fc f (K.ft τ.l τ.a)).toArray) ∧ Below w0.heap.size w0 w') fun e w' hh => by rw [hf] at hh; exact hh)
 have HFL := Hi (fun (τ : JS) w0 (h0 : JAt w0 N K τ) => HFL.out w0 τ h0)
 rw [hf] at HFL
 obtain ⟨X, hX⟩ : ∃ X, K.n.X = X := ⟨_, rfl⟩
 have HXe := Hi hX
 rw [hX] at HTK HFL
 have k0 := JA.out.cell 0 (Y (some ⟨X, 0, none⟩)) (by rw [← hX]; rfl)
 unfold JK.leap
 cases hok : (K.next σ 2).2.2 with
 | false =>
   rw [if_pos rfl]
   have HTK := Hi (fun w0 h0 => (HTK.out w0 h0).mono (R' := fun e w' => e = .returned (.tuple #[.string (K.next σ 2).2.1, .bool false]) ∧ JAt w' N K (K.next σ 2).1 ∧ Chg (jS N K) w0 w') fun e w' hh => by rw [hok] at hh; exact hh)
   obtain ⟨τ, hτ⟩ : ∃ τ, (K.next σ 2).1 = τ := ⟨_, rfl⟩
   rw [hτ] at HTK ⊢
   have HT := Hi hτ
   obtain ⟨F, hF⟩ : ∃ F, K.ft τ.l τ.a = F := ⟨_, rfl⟩
   have HFL := Hi (HFL.out τ)
   rw [hF] at HFL ⊢
   clear hF hτ
   clear h hC hf hX hok
   go_enter Tryz.func152, Tryz.ntmps152
   go_upto_region 3 with (first
    | ((go_at_call 57; (with_reducible refine (HTK.out _ JA.out).mono ?_); rintro e w1 ⟨rfl, hj1, hc1⟩); have JA := Hi hj1; have OF := Hi (hc1.obj OF.out (not_jS JL.out (by omega))); have CH := Hi (CH.out.trans hc1); clear hj1 hc1))
   clear hd0 k0
   have k0 := JA.out.cell 0 (Y (some ⟨X, 0, none⟩)) (by rw [← HXe.out]; rfl)
   have k19 := JA.out.cell 19 (J I f) (by rw [← HF.out]; rfl)
   go_still_tail 8, (by kernel_rfl)
   rw [show (⟨w1.heap, w1.tape, w1.drawn + 1, w1.os, w1.output⟩ : World) = w1.drewN 1 from rfl]
   have JA := Hi (JA.out.drewN 1)
   have CH := Hi (CH.out.drewN 1)
   have OF := Hi (OF.out.drewN 1)
   generalize w1.drewN 1 = w2 at JA CH OF ⊢
   clear k0 k19
   go_wp2_with (first
    | ((go_at_call 37; (with_reducible refine (HFL.out _ JA.out).mono ?_); rintro e w3 ⟨rfl, hb⟩); have JA := Hi (JA.out.below hb); have OF := Hi (OF.out.below hb OF.out.lt); have CH := Hi (CH.out.trans (aB hb _)); clear hb)
    | (refine so 31 3 (d) (fc f F) OF.out ?_; intro ws hst hO; have OF := Hi hO; have JA := Hi (JA.out.stored JL.out hst (by omega)); have CH := Hi (Stored.chgS hst CH.out (Or.inr (by have := HDe.out; omega))); clear hst hO))
   refine bodyPost_ret (v := .agg (fc f F).toArray) ?_ rfl ⟨rfl, JA.out, CH.out⟩
   exact aD Tryz.results152 _ _ _ (fc f F) _ rfl OF.out.range0 Tryz.underlying31 rfl (by kernel_rfl)
 | true =>
   rw [if_neg (fun hh => by cases hh)]
   have HTK := Hi (fun w0 h0 => (HTK.out w0 h0).mono (R' := fun e w' => e = .returned (.tuple #[.string (K.next σ 2).2.1, .bool true]) ∧ JAt w' N K (K.next σ 2).1 ∧ Chg (jS N K) w0 w') fun e w' hh => by rw [hok] at hh; exact hh)
   obtain ⟨e1, e2, e3, e4, e5, e6⟩ := jnext_str h 2 hok
   have v0 := aS K.x.s σ.a
   have v1 := aS K.x.s (σ.a + 1)
   obtain ⟨b0, hb0⟩ : ∃ b, aG K.x.s σ.a = b := ⟨_, rfl⟩
   obtain ⟨b1, hb1⟩ : ∃ b, aG K.x.s (σ.a + 1) = b := ⟨_, rfl⟩
   have g0 := e2 0 (by decide)
   have g1 := e2 1 (by decide)
   rw [Nat.add_zero] at g0
   rw [hb0] at v0 g0 ⊢
   rw [hb1] at v1 g1 ⊢
   obtain ⟨S, hS⟩ : ∃ S, (K.next σ 2).2.1 = S := ⟨_, rfl⟩
   rw [hS] at e1 g0 g1 HTK
   obtain ⟨τ, hτ⟩ : ∃ τ, (K.next σ 2).1 = τ := ⟨_, rfl⟩
   rw [hτ] at HTK e3 e4 ⊢
   have i0 : 0 < S.size := by omega
   have i1 : 1 < S.size := by omega
   have q0 : ((S[0]).toNat : Int) = b0 := by rw [← g0]; exact aX S 0 i0
   have q1 : ((S[1]).toNat : Int) = b1 := by rw [← g1]; exact aX S 1 i1
   obtain ⟨px, hpx⟩ : ∃ v, σ.x = v := ⟨_, rfl⟩
   obtain ⟨py, hpy⟩ : ∃ v, σ.y = v := ⟨_, rfl⟩
   rw [hpx] at hx e3 ⊢
   rw [hpy] at hy e4 ⊢
   have E3 := Hi e3
   have E4 := Hi e4
   obtain ⟨nx, hnx⟩ : ∃ v : Int, (px : Int) + b0 = v := ⟨_, rfl⟩
   obtain ⟨ny, hny⟩ : ∃ v : Int, (py : Int) + b1 = v := ⟨_, rfl⟩
   have HNX := Hi (show nx = ((px + b0.toNat : Nat) : Int) by omega)
   have HNY := Hi (show ny = ((py + b1.toNat : Nat) : Int) by omega)
   have u0 : IntKind.i64.wrap ((px : Int) + b0) = nx := (aF _ (by omega) (by omega)).trans hnx
   have u1 : IntKind.i64.wrap ((py : Int) + b1) = ny := (aF _ (by omega) (by omega)).trans hny
   have U1 := Hi u1
   have z0 : IntKind.i64.wrap b0 = b0 := aF _ (by omega) (by omega)
   have z1 : IntKind.i64.wrap b1 = b1 := aF _ (by omega) (by omega)
   have QQ1 := Hi q1
   have Z1 := Hi z1
   obtain ⟨υ, hυ⟩ : ∃ υ : JS, (⟨px + b0.toNat, py + b1.toNat, τ.a, τ.l, τ.d⟩ : JS) = υ := ⟨_, rfl⟩
   have HU := Hi hυ
   have HIN := Hi (fun w0 (h0 : JAt w0 N K υ) => (jinside_any N K υ a w0 h0).mono (R' := fun e w' => e = .returned (.agg (fc f (K.ins υ a)).toArray) ∧ Chg (fun _ => False) w0 w') fun e w' hh => by rw [hf] at hh; exact hh)
   unfold JK.move
   rw [hυ]
   obtain ⟨F, hF⟩ : ∃ F, K.ins υ a = F := ⟨_, rfl⟩
   rw [hF] at HIN ⊢
   clear h hC hf hX hok e1 e2 e3 e4 e5 e6 g0 g1 hb0 hb1 hS hτ hpx hpy hnx hny u1 z1 q1 hυ hF
   go_enter Tryz.func152, Tryz.ntmps152
   go_upto_region 4 with (first
    | ((go_at_call 57; (with_reducible refine (HTK.out _ JA.out).mono ?_); rintro e w1 ⟨rfl, hj1, hc1⟩); have JA := Hi hj1; have OF := Hi (hc1.obj OF.out (not_jS JL.out (by omega))); have CH := Hi (CH.out.trans hc1); clear hj1 hc1))
   clear hd0 k0
   have k20 := JA.out.cell 20 (J I px) (by show some (Value.int .i64 ((τ.x : Nat) : Int)) = _; rw [E3.out])
   have f20 := Obj1.frozen JA.out.pn 20
   go_still_tail 8, (by kernel_rfl)
   rw [show (⟨w1.heap, w1.tape, w1.drawn + 1, w1.os, w1.output⟩ : World) = w1.drewN 1 from rfl]
   have JA := Hi (JA.out.drewN 1)
   have CH := Hi (CH.out.drewN 1)
   have OF := Hi (OF.out.drewN 1)
   generalize w1.drewN 1 = w2 at JA CH OF ⊢
   clear k20 f20
   have k20 := JA.out.cell 20 (J I px) (by show some (Value.int .i64 ((τ.x : Nat) : Int)) = _; rw [E3.out])
   have f20 := Obj1.frozen JA.out.pn 20
   go_upto_region 5 with (fail)
   have JA := Hi (JA.out.setX' nx (px + b0.toNat) HNX.out)
   have OF := Hi (OF.out.set_other ⟨N, 20, none⟩ (J I nx) (show ¬ d = N by have := JL.out.n; omega))
   have CH := Hi (CH.out.set ⟨N, 20, none⟩ (J I nx) (Or.inl (Or.inl rfl)))
   generalize World.setCell _ _ _ = w3 at JA OF CH ⊢
   clear k20 f20 u0 q0 z0
   have u1 := U1.out
   have q1 := QQ1.out
   have z1 := Z1.out
   have j1 : (1 : Int) < (S.size : Int) := by omega
   have k21 := JA.out.cell 21 (J I py) (by show some (Value.int .i64 ((τ.y : Nat) : Int)) = _; rw [E4.out])
   have f21 := Obj1.frozen JA.out.pn 21
   go_still_tail 8, (by kernel_rfl)
   rw [show (⟨w3.heap, w3.tape, w3.drawn + 1, w3.os, w3.output⟩ : World) = w3.drewN 1 from rfl]
   have JA := Hi (JA.out.drewN 1)
   have CH := Hi (CH.out.drewN 1)
   have OF := Hi (OF.out.drewN 1)
   generalize w3.drewN 1 = w4 at JA CH OF ⊢
   clear k21 f21
   have k21 := JA.out.cell 21 (J I py) (by show some (Value.int .i64 ((τ.y : Nat) : Int)) = _; rw [E4.out])
   have f21 := Obj1.frozen JA.out.pn 21
   go_upto_region 6 with (fail)
   have JA := Hi (JA.out.setY' ny (py + b1.toNat) HNY.out)
   have OF := Hi (OF.out.set_other ⟨N, 21, none⟩ (J I ny) (show ¬ d = N by have := JL.out.n; omega))
   have CH := Hi (CH.out.set ⟨N, 21, none⟩ (J I ny) (Or.inl (Or.inl rfl)))
   generalize World.setCell _ _ _ = w5 at JA OF CH ⊢
   clear k21 f21 u1 q1 z1
   have JA := Hi (show JAt w5 N K υ by rw [← HU.out]; exact JA.out)
   go_wp2_with (first
    | ((go_at_call 151; (with_reducible refine (HIN.out _ JA.out).mono ?_); rintro e w6 ⟨rfl, hc⟩); have JA := Hi (JA.out.keep hc); have OF := Hi (hc.obj OF.out (fun h => h)); have CH := Hi (CH.out.trans (hc.mono (fun _ _ h => h.elim))); clear hc)
    | (refine so 31 3 (d) (fc f F) OF.out ?_; intro ws hst hO; have OF := Hi hO; have JA := Hi (JA.out.stored JL.out hst (by omega)); have CH := Hi (Stored.chgS hst CH.out (Or.inr (by have := HDe.out; omega))); clear hst hO))
   refine bodyPost_ret (v := .agg (fc f F).toArray) ?_ rfl ⟨rfl, JA.out, CH.out⟩
   exact aD Tryz.results152 _ _ _ (fc f F) _ rfl OF.out.range0 Tryz.underlying31 rfl (by kernel_rfl)
end Go.Proofs.YtfchnibjjokmbaaGreat

/- The reference of layer 22: plain, walked. -/
import Derived.Test.YtlfbaggcfaenlaaGreatK47
import Derived.Test.YtlfbaggcfaenlaaGreatK0
namespace Go.Proofs.YtlfbaggcfaenlaaGreat
open Go.RowKit
set_option linter.unusedVariables false
set_option linter.unusedSimpArgs false
set_option maxRecDepth 100000 in
set_option maxHeartbeats 8000000 in
theorem plain22_any (sz : Int) (W H : Nat) (top : Bool) (dp mt co r g b q fr en : Int) (s : ByteArray) (x y pl n te N M gL cL gt ct bL bt : Nat) (xs tb : List Value) (w : World) (hN : N = W * H) (hW : W ≤ 40) (hH : H ≤ 40) (hn : 1 ≤ n) (hn2 : n ≤ 255) (hM : M ≤ 256) (hpl : pl + 2 ≤ te) (hte : te ≤ s.size) (hs : s.size ≤ 100000)
    (hx0 : x ≤ W) (hy0 : y ≤ H) (hdp : dp = 4 ∨ dp = 8)
    (hL : w.ownsRow bL 185 4 (.slice (some ⟨gL, 0, none⟩) N cL) N xs) (hx1 : ∀ u ∈ xs, u.oneCell' = true) (ht : w.ownsRow bt 185 4 (.slice (some ⟨gt, 0, none⟩) M ct) M tb) (ht1 : ∀ u ∈ tb, u.oneCell' = true) :
    Calls Tryz.prog 95 #[.agg (List.toArray (stL x y pl (.slice (some ⟨gL, 0, none⟩) N cL) 0 0)), .string s, .agg (List.toArray [.int .i64 sz, .int .i64 W, .int .i64 H, .bool top, .int .i64 dp, .int .i64 mt, .int .i64 co, .int .i64 r, .int .i64 g, .int .i64 b, .int .i64 q, .int .i64 fr, .int .i64 en, .int .i64 0, .int .i64 0]), .slice (some ⟨gt, 0, none⟩) M ct, .int .i64 n, .int .i64 te] w (St22Post w x y pl N gL cL (plain22 s tb M W H dp te ⟨x, y, pl, xs⟩ n)) := by
  obtain ⟨d, hd⟩ : ∃ d, w.heap.size = d := ⟨_, rfl⟩
  have lL := (owns_lt hL).2
  have lt := (owns_lt ht).2
  have htb : tb.length = 4 * M := by have := ht.1; omega
  rw [hd] at lL lt
  have HL := Hi hL
  have HT := Hi ht
  have HX1 := Hi hx1
  have HT1 := Hi ht1
  have HN := Hi hN
  have HDP := Hi hdp
  clear hL ht hx1 ht1 hN hdp
  unfold stL
  have O3 := Hi (((obj1_new w (List.toArray [.int .i64 x, .int .i64 y, .int .i64 pl, .slice (some ⟨gL, 0, none⟩) N cL, .int .i64 0, .int .i64 0]) 168).alloc (.cells (List.toArray [.int .i64 sz, .int .i64 W, .int .i64 H, .bool top, .int .i64 dp, .int .i64 mt, .int .i64 co, .int .i64 r, .int .i64 g, .int .i64 b, .int .i64 q, .int .i64 fr, .int .i64 en, .int .i64 0, .int .i64 0]) 52)).alloc (.cells (List.toArray [.int .i64 0, .int .i64 0, .int .i64 0, .slice none 0 0, .int .i64 0, .int .i64 0]) 168))
  have O4 := Hi ((obj1_new (w.alloc (.cells (List.toArray [.int .i64 x, .int .i64 y, .int .i64 pl, .slice (some ⟨gL, 0, none⟩) N cL, .int .i64 0, .int .i64 0]) 168)) (List.toArray [.int .i64 sz, .int .i64 W, .int .i64 H, .bool top, .int .i64 dp, .int .i64 mt, .int .i64 co, .int .i64 r, .int .i64 g, .int .i64 b, .int .i64 q, .int .i64 fr, .int .i64 en, .int .i64 0, .int .i64 0]) 52).alloc (.cells (List.toArray [.int .i64 0, .int .i64 0, .int .i64 0, .slice none 0 0, .int .i64 0, .int .i64 0]) 168))
  have O5 := Hi (obj1_new ((w.alloc (.cells (List.toArray [.int .i64 x, .int .i64 y, .int .i64 pl, .slice (some ⟨gL, 0, none⟩) N cL, .int .i64 0, .int .i64 0]) 168)).alloc (.cells (List.toArray [.int .i64 sz, .int .i64 W, .int .i64 H, .bool top, .int .i64 dp, .int .i64 mt, .int .i64 co, .int .i64 r, .int .i64 g, .int .i64 b, .int .i64 q, .int .i64 fr, .int .i64 en, .int .i64 0, .int .i64 0]) 52)) (List.toArray [.int .i64 0, .int .i64 0, .int .i64 0, .slice none 0 0, .int .i64 0, .int .i64 0]) 168)
  rw [show (w.alloc (.cells (List.toArray [.int .i64 x, .int .i64 y, .int .i64 pl, .slice (some ⟨gL, 0, none⟩) N cL, .int .i64 0, .int .i64 0]) 168)).heap.size = d + 1 by rw [← hd]; simp] at O4
  rw [show ((w.alloc (.cells (List.toArray [.int .i64 x, .int .i64 y, .int .i64 pl, .slice (some ⟨gL, 0, none⟩) N cL, .int .i64 0, .int .i64 0]) 168)).alloc (.cells (List.toArray [.int .i64 sz, .int .i64 W, .int .i64 H, .bool top, .int .i64 dp, .int .i64 mt, .int .i64 co, .int .i64 r, .int .i64 g, .int .i64 b, .int .i64 q, .int .i64 fr, .int .i64 en, .int .i64 0, .int .i64 0]) 52)).heap.size = d + 1 + 1 by rw [← hd]; simp] at O5
  rw [hd] at O3
  have BL := Hi ((((Below.refl w.heap.size w).alloc (Nat.le_refl _) (.cells (List.toArray [.int .i64 x, .int .i64 y, .int .i64 pl, .slice (some ⟨gL, 0, none⟩) N cL, .int .i64 0, .int .i64 0]) 168)).alloc (by simp) (.cells (List.toArray [.int .i64 sz, .int .i64 W, .int .i64 H, .bool top, .int .i64 dp, .int .i64 mt, .int .i64 co, .int .i64 r, .int .i64 g, .int .i64 b, .int .i64 q, .int .i64 fr, .int .i64 en, .int .i64 0, .int .i64 0]) 52)).alloc (by simp; omega) (.cells (List.toArray [.int .i64 0, .int .i64 0, .int .i64 0, .slice none 0 0, .int .i64 0, .int .i64 0]) 168))
  have hz3 : (((w.alloc (.cells (List.toArray [.int .i64 x, .int .i64 y, .int .i64 pl, .slice (some ⟨gL, 0, none⟩) N cL, .int .i64 0, .int .i64 0]) 168)).alloc (.cells (List.toArray [.int .i64 sz, .int .i64 W, .int .i64 H, .bool top, .int .i64 dp, .int .i64 mt, .int .i64 co, .int .i64 r, .int .i64 g, .int .i64 b, .int .i64 q, .int .i64 fr, .int .i64 en, .int .i64 0, .int .i64 0]) 52)).alloc (.cells (List.toArray [.int .i64 0, .int .i64 0, .int .i64 0, .slice none 0 0, .int .i64 0, .int .i64 0]) 168)).heap.size = d + 1 + 1 + 1 := by rw [← hd]; simp
  have HL := Hi (owns_under HL.out BL.out)
  have HT := Hi (owns_under HT.out BL.out)
  rw [hd] at BL
  obtain ⟨R, hR⟩ : ∃ R, plain22 s tb M W H dp te ⟨x, y, pl, xs⟩ n = R := ⟨_, rfl⟩
  rw [hR]
  have HR := Hi hR
  have HD0 := Hi hd
  clear hR
  go_enter Tryz.func95, Tryz.ntmps95
  go_upto_region 1 with (fail)
  clear hd
  generalize World.alloc _ _ = w3 at O3 O4 O5 BL HL HT hz3 ⊢
  have HZ3 := Hi hz3
  have lO5 := O5.out.lt
  have c32 : w3.cell? ⟨d, 2, none⟩ = some (.int .i64 pl) := (O3.out.cell 2).trans rfl
  have c31 : w3.cell? ⟨d, 1, none⟩ = some (.int .i64 y) := (O3.out.cell 1).trans rfl
  have c30 : w3.cell? ⟨d, 0, none⟩ = some (.int .i64 x) := (O3.out.cell 0).trans rfl
  have c42 : w3.cell? ⟨d + 1, 2, none⟩ = some (.int .i64 H) := (O4.out.cell 2).trans rfl
  have c41 : w3.cell? ⟨d + 1, 1, none⟩ = some (.int .i64 W) := (O4.out.cell 1).trans rfl
  clear hz3
  have HBD := Hi (fun w0 (p k a : Int) => (show Calls Tryz.prog 161 #[.agg (List.toArray [.int .i64 x, .int .i64 y, .int .i64 p, .slice (some ⟨gL, 0, none⟩) N cL, .int .i64 0, .int .i64 0]), .int .i64 k, .int .i64 a] w0 (RA w0 [.int .i64 x, .int .i64 y, .int .i64 p, .slice (some ⟨gL, 0, none⟩) N cL, .int .i64 k, .int .i64 a]) from bad22_any x y p 0 0 k a (some ⟨gL, 0, none⟩) N cL w0))
  have hcase : (H ≤ y) ∨ (¬ H ≤ y ∧ W < x + n) ∨ (¬ H ≤ y ∧ ¬ W < x + n) := by omega
  rcases hcase with h1 | ⟨h1, h2⟩ | ⟨h1, h2⟩
  · as_aux_lemma =>
      have HRE := Hi (show R = .error (2, (pl : Int)) by rw [← HR.out]; unfold plain22; rw [if_pos (Or.inl h1)])
      go_wp2_with (first
        | ((with_reducible refine skip_g rfl ?_ ?_); rfl; intro _)
        | (refine load_u (by kernel_rfl) 168 6 _ rfl d [.int .i64 x, .int .i64 y, .int .i64 pl, .slice (some ⟨gL, 0, none⟩) N cL, .int .i64 0, .int .i64 0] rfl rfl O3.out Tryz.underlying168 rfl (by kernel_rfl) ?_; intro _)
        | ((go_at_call 161; (with_reducible refine (HBD.out _ pl 2 pl).mono ?_); rintro e wb ⟨rfl, hb⟩); have O5 := Hi (O5.out.below hb O5.out.lt); have BL := Hi (bthen hb BL.out (by omega)); clear hb)
        | (refine store_o rfl 168 6 _ _ rfl (d + 1 + 1) [.int .i64 x, .int .i64 y, .int .i64 pl, .slice (some ⟨gL, 0, none⟩) N cL, .int .i64 2, .int .i64 pl] rfl rfl (by kernel_rfl) (by kernel_rfl) (by kernel_rfl) O5.out (by first | rfl | simp) ?_; intro ws hst hO; have O5 := Hi hO; have BL := Hi (hst.below BL.out (by omega)); clear hst hO))
      refine bodyPost_ret (v := .agg (List.toArray [.int .i64 x, .int .i64 y, .int .i64 pl, .slice (some ⟨gL, 0, none⟩) N cL, .int .i64 2, .int .i64 pl])) ?_ rfl ?_
      · exact results_c Tryz.results95 _ _ _ [.int .i64 x, .int .i64 y, .int .i64 pl, .slice (some ⟨gL, 0, none⟩) N cL, .int .i64 2, .int .i64 pl] _ rfl O5.out.range0 Tryz.underlying168 rfl (by kernel_rfl)
      · rw [show R = .error (2, pl) from HRE.out]
        exact ⟨_, by rfl, by rw [HD0.out]; exact BL.out⟩
  · as_aux_lemma =>
      have HRE := Hi (show R = .error (2, (pl : Int)) by rw [← HR.out]; unfold plain22; rw [if_pos (Or.inr h2)])
      have h3 : (W : Int) < (x : Int) + n := by omega
      go_wp2_with (first
        | ((with_reducible refine skip_g rfl ?_ ?_); rfl; intro _)
        | (refine load_u (by kernel_rfl) 168 6 _ rfl d [.int .i64 x, .int .i64 y, .int .i64 pl, .slice (some ⟨gL, 0, none⟩) N cL, .int .i64 0, .int .i64 0] rfl rfl O3.out Tryz.underlying168 rfl (by kernel_rfl) ?_; intro _)
        | ((go_at_call 161; (with_reducible refine (HBD.out _ pl 2 pl).mono ?_); rintro e wb ⟨rfl, hb⟩); have O5 := Hi (O5.out.below hb O5.out.lt); have BL := Hi (bthen hb BL.out (by omega)); clear hb)
        | (refine store_o rfl 168 6 _ _ rfl (d + 1 + 1) [.int .i64 x, .int .i64 y, .int .i64 pl, .slice (some ⟨gL, 0, none⟩) N cL, .int .i64 2, .int .i64 pl] rfl rfl (by kernel_rfl) (by kernel_rfl) (by kernel_rfl) O5.out (by first | rfl | simp) ?_; intro ws hst hO; have O5 := Hi hO; have BL := Hi (hst.below BL.out (by omega)); clear hst hO))
      refine bodyPost_ret (v := .agg (List.toArray [.int .i64 x, .int .i64 y, .int .i64 pl, .slice (some ⟨gL, 0, none⟩) N cL, .int .i64 2, .int .i64 pl])) ?_ rfl ?_
      · exact results_c Tryz.results95 _ _ _ [.int .i64 x, .int .i64 y, .int .i64 pl, .slice (some ⟨gL, 0, none⟩) N cL, .int .i64 2, .int .i64 pl] _ rfl O5.out.range0 Tryz.underlying168 rfl (by kernel_rfl)
      · rw [show R = .error (2, pl) from HRE.out]
        exact ⟨_, by rfl, by rw [HD0.out]; exact BL.out⟩
  · obtain ⟨ea, hea⟩ : ∃ ea : Nat, (8 / dp).toNat = ea := ⟨_, rfl⟩
    have hea2 : (8 : Int) / dp = ea ∧ (ea = 1 ∨ ea = 2) ∧ dp ≠ 0 ∧ 0 < dp := by
      rcases HDP.out with rfl | rfl
      · have : ea = 2 := hea.symm.trans (by decide)
        subst this; exact ⟨rfl, Or.inr rfl, by decide, by decide⟩
      · have : ea = 1 := hea.symm.trans (by decide)
        subst this; exact ⟨rfl, Or.inl rfl, by decide, by decide⟩
    obtain ⟨eq8, hea3, hdp0, hdp1⟩ := hea2
    have eT : Int.tdiv 8 dp = (ea : Int) := by rw [Int.tdiv_eq_ediv_of_nonneg (by decide)]; exact eq8
    have hea0 : (ea : Int) ≠ 0 := by omega
    have hea1 : 1 ≤ ea := by omega
    have HRE := Hi (show plain22 s tb M W H dp te ⟨x, y, pl, xs⟩ n = match plainP s tb M dp pl te n with
      | .error e => .error e
      | .ok p => if te < pl + 2 + sizeP dp n + sizeP dp n % 2 then .error (1, te) else .ok ⟨x + n, y, pl + 2 + sizeP dp n + sizeP dp n % 2, putC xs (4 * ((H - 1 - y) * W + x)) p⟩ by unfold plain22; rw [if_neg (show ¬ (H ≤ y ∨ W < x + n) by omega)]; rfl)
    have HEA := Hi hea
    have h3 : ¬ (W : Int) < (x : Int) + n := by omega
    have c44 : w3.cell? ⟨d + 1, 4, none⟩ = some (.int .i64 dp) := (O4.out.cell 4).trans rfl
    have HE := Hi (owns_empty3' w3 185 4)
    clear hea eq8
    go_upto_region 5 with ((with_reducible refine skip_g rfl ?_ ?_); rfl; intro _)
    clear h3 c32 c31 c30 c42 c41 c44
    go_wp2_with fail
    go_loopw [15, 16] (fun v c wr => ∃ (i : Nat) (ps : List Value), i ≤ n ∧ c = .int .i64 i ∧ plainP s tb M dp pl te i = .ok ps ∧ wr.ownsRow (d + 1 + 1 + 1) 185 4 v i ps ∧ Below (d + 1 + 1 + 1) w3 wr) (fun _ c _ => n - (intOf c).toNat)
    case atStart => exact ⟨0, [], by omega, by first | rfl | simp, rfl, owns_keep HE.out (by rw [HZ3.out]; omega) (fun _ _ _ => rfl), (Below.refl _ _).alloc (by rw [HZ3.out]; omega) _⟩
    case round =>
      obtain ⟨i, ps, hi, rfl, hps, hown, hb3⟩ := hrel
      have HPS := Hi hps
      have OW := Hi hown
      have BB := Hi hb3
      have hsz := hb3.size
      have O3 := Hi (O3.out.below hb3 (by omega))
      have O4 := Hi (O4.out.below hb3 (by omega))
      have O5 := Hi (O5.out.below hb3 (by omega))
      have HTR := Hi (range_below (owns_range HT.out) hb3 (by omega))
      have HL := Hi (owns_down HL.out hb3 (fun g hg => by
        have : gL = g := by simpa [Value.ownBlock] using hg
        omega))
      have lt4 := O5.out.lt
      clear hps hown hb3
      by_cases hlt : i < n
      rotate_left
      · obtain rfl : i = n := by omega
        rw [HPS.out] at HRE
        obtain ⟨gp, cp, rfl, hgp1, hgp2⟩ := owns_form4 OW.out (by omega)
        have HPA := Hi (plainP_all s tb M dp pl te HT1.out i ps HPS.out)
        have BL := Hi (bthen BB.out BL.out (by omega))
        obtain ⟨z, hz⟩ : ∃ z, sizeP dp i = z := ⟨_, rfl⟩
        have hz2 : (i + ea - 1) / ea = z := by rw [← hz]; unfold sizeP; rw [HEA.out]
        have eZ : Int.tdiv ((i : Int) + (ea : Int) - 1) (ea : Int) = (z : Int) := by
          rw [Int.tdiv_eq_ediv_of_nonneg (by omega), show (i : Int) + (ea : Int) - 1 = ((i + ea - 1 : Nat) : Int) by omega, ← Int.natCast_ediv, hz2]
        have hzb : z ≤ 300 := by
          rw [← hz2]
          exact Nat.le_trans (Nat.div_le_self _ _) (by omega)
        obtain ⟨zr, hzr⟩ : ∃ zr, z % 2 = zr := ⟨_, rfl⟩
        have hzr2 : zr < 2 := by omega
        have eR : Int.tmod (z : Int) 2 = (zr : Int) := by
          rw [Int.tmod_eq_emod_of_nonneg (by omega)]; omega
        rw [hz, hzr] at HRE
        clear hlt hi hz hz2 hzr
        have c32 : wr.cell? ⟨d, 2, none⟩ = some (.int .i64 pl) := (O3.out.cell 2).trans rfl
        have f32 : wr.frozen? ⟨d, 2, none⟩ = false := O3.out.frozen 2
        go_upto_region 18 with (fail)
        obtain ⟨V2, hV2⟩ : ∃ V2 : Int, (pl : Int) + (2 + (z : Int) + (zr : Int)) = V2 := ⟨_, rfl⟩
        rw [hV2]
        have HV2 := Hi (show V2 = ((pl + 2 + z + zr : Nat) : Int) by omega)
        have O3 := Hi ((O3.out.set 2 (.int .i64 V2)).cells (show _ = List.toArray [.int .i64 x, .int .i64 y, .int .i64 V2, .slice (some ⟨gL, 0, none⟩) N cL, .int .i64 0, .int .i64 0] from rfl))
        have O4 := Hi (O4.out.set_other ⟨d, 2, none⟩ (.int .i64 V2) (by simp))
        have O5 := Hi (O5.out.set_other ⟨d, 2, none⟩ (.int .i64 V2) (by simp; omega))
        have OW := Hi (owns_set3 (o := 2) (OB := d) OW.out (.int .i64 V2) (by omega))
        have HL := Hi (owns_set3 (o := 2) (OB := d) HL.out (.int .i64 V2) (by omega))
        have BL := Hi ((show Stored wr d 2 [.int .i64 V2] (wr.setCell ⟨d, 2, none⟩ (.int .i64 V2)) from rfl).below BL.out (by omega))
        have hzv : d + 1 + 1 < (wr.setCell ⟨d, 2, none⟩ (.int .i64 V2)).heap.size := by simp; omega
        generalize World.setCell _ _ _ = wv at O3 O4 O5 OW HL BL hzv ⊢
        clear c32 f32 hV2 eZ eR
        have c32 : wv.cell? ⟨d, 2, none⟩ = some (.int .i64 V2) := (O3.out.cell 2).trans rfl
        by_cases hout : te < pl + 2 + z + zr
        · as_aux_lemma =>
            have HRE := Hi (show R = .error (1, (te : Int)) by rw [← HR.out, HRE.out]; dsimp only; rw [if_pos hout])
            have h5 : (te : Int) < V2 := by rw [HV2.out]; omega
            go_wp2_with (first
              | ((with_reducible refine skip_g rfl ?_ ?_); rfl; intro _)
              | (refine load_u (by kernel_rfl) 168 6 _ rfl d [.int .i64 x, .int .i64 y, .int .i64 V2, .slice (some ⟨gL, 0, none⟩) N cL, .int .i64 0, .int .i64 0] rfl rfl O3.out Tryz.underlying168 rfl (by kernel_rfl) ?_; intro _)
              | ((go_at_call 161; (with_reducible refine (HBD.out _ V2 1 te).mono ?_); rintro e wb ⟨rfl, hb⟩); have O5 := Hi (O5.out.below hb O5.out.lt); have BL := Hi (bthen hb BL.out (by omega)); clear hb)
              | (refine store_o rfl 168 6 _ _ rfl (d + 1 + 1) [.int .i64 x, .int .i64 y, .int .i64 V2, .slice (some ⟨gL, 0, none⟩) N cL, .int .i64 1, .int .i64 te] rfl rfl (by kernel_rfl) (by kernel_rfl) (by kernel_rfl) O5.out (by first | rfl | simp) ?_; intro ws hst hO; have O5 := Hi hO; have BL := Hi (hst.below BL.out (by omega)); clear hst hO))
            refine bodyPost_ret (v := .agg (List.toArray [.int .i64 x, .int .i64 y, .int .i64 V2, .slice (some ⟨gL, 0, none⟩) N cL, .int .i64 1, .int .i64 te])) ?_ rfl ?_
            · exact results_c Tryz.results95 _ _ _ [.int .i64 x, .int .i64 y, .int .i64 V2, .slice (some ⟨gL, 0, none⟩) N cL, .int .i64 1, .int .i64 te] _ rfl O5.out.range0 Tryz.underlying168 rfl (by kernel_rfl)
            · rw [show R = .error (1, te) from HRE.out]
              exact ⟨_, by rfl, by rw [HD0.out]; exact BL.out⟩
        have HRE := Hi (show R = .ok ⟨x + i, y, pl + 2 + z + zr, putC xs (4 * ((H - 1 - y) * W + x)) ps⟩ by rw [← HR.out, HRE.out]; dsimp only; rw [if_neg hout])
        have h5 : ¬ (te : Int) < V2 := by rw [HV2.out]; omega
        have HPUT := Hi (fun w0 (h1 : w0.ownsRow bL 185 4 (.slice (some ⟨gL, 0, none⟩) N cL) N xs) (h2 : w0.ownsRow (d + 1 + 1 + 1) 185 4 (.slice (some ⟨gp, 0, none⟩) i cp) i ps) => (show Calls Tryz.prog 163 #[.agg (List.toArray [.int .i64 x, .int .i64 y, .int .i64 V2, .slice (some ⟨gL, 0, none⟩) N cL, .int .i64 0, .int .i64 0]), .agg (List.toArray [.int .i64 sz, .int .i64 W, .int .i64 H, .bool top, .int .i64 dp, .int .i64 mt, .int .i64 co, .int .i64 r, .int .i64 g, .int .i64 b, .int .i64 q, .int .i64 fr, .int .i64 en, .int .i64 0, .int .i64 0]), .slice (some ⟨gp, 0, none⟩) i cp] w0 (Put22Post w0 (x + i) y V2 N (putC xs (4 * ((H - 1 - y) * W + x)) ps)) from
          put22_any sz W H top dp mt co r g b q fr en x y i N gL cL gp cp bL (d + 1 + 1 + 1) V2 xs ps w0 (by omega) (by omega) HN.out hW hH hn h1 HX1.out h2 HPA.out))
        go_wp2_with (first
          | (refine load_u (by kernel_rfl) 168 6 _ rfl d [.int .i64 x, .int .i64 y, .int .i64 V2, .slice (some ⟨gL, 0, none⟩) N cL, .int .i64 0, .int .i64 0] rfl rfl O3.out Tryz.underlying168 rfl (by kernel_rfl) ?_; intro _)
          | (refine load_u (by kernel_rfl) 52 15 _ rfl (d + 1) [.int .i64 sz, .int .i64 W, .int .i64 H, .bool top, .int .i64 dp, .int .i64 mt, .int .i64 co, .int .i64 r, .int .i64 g, .int .i64 b, .int .i64 q, .int .i64 fr, .int .i64 en, .int .i64 0, .int .i64 0] rfl rfl O4.out Tryz.underlying52 rfl (by kernel_rfl) ?_; intro _)
          | ((go_at_call 163; (with_reducible refine (HPUT.out _ HL.out OW.out).mono ?_); rintro e wb ⟨gz, cz, rfl, hz, hb⟩); have OZ := Hi hz; have O5 := Hi (O5.out.below hb O5.out.lt); have BL := Hi (bthen hb BL.out (by omega)); have hgz := owns_lt hz; clear hb hz)
          | (refine store_o rfl 168 6 _ _ rfl (d + 1 + 1) (stL ((x + i : Nat) : Int) y V2 (.slice (some ⟨gz, 0, none⟩) N cz) 0 0) rfl rfl (by kernel_rfl) (by kernel_rfl) (by kernel_rfl) O5.out (by first | rfl | simp) ?_; intro ws hst hO; have O5 := Hi hO; have OZ := Hi (hst.owns OZ.out (by omega)); have BL := Hi (hst.below BL.out (by omega)); clear hst hO))
        refine bodyPost_ret (v := .agg (List.toArray (stL ((x + i : Nat) : Int) y V2 (.slice (some ⟨gz, 0, none⟩) N cz) 0 0))) ?_ rfl ?_
        · exact results_c Tryz.results95 _ _ _ (stL ((x + i : Nat) : Int) y V2 (.slice (some ⟨gz, 0, none⟩) N cz) 0 0) _ rfl O5.out.range0 Tryz.underlying168 rfl (by kernel_rfl)
        · rw [HRE.out]
          exact ⟨gz, cz, by show _ = Ending.returned (.agg (List.toArray (stL ((x + i : Nat) : Int) y ((pl + 2 + z + zr : Nat) : Int) (.slice (some ⟨gz, 0, none⟩) N cz) 0 0))); rw [← HV2.out], owns_keep OZ.out (by rw [HD0.out]; omega) (fun _ _ _ => rfl), by rw [HD0.out]; exact BL.out⟩
      · obtain ⟨qi, hqi⟩ : ∃ qi, i / ea = qi := ⟨_, rfl⟩
        have hqb : qi ≤ i := by rw [← hqi]; exact Nat.div_le_self _ _
        have eI : Int.tdiv (i : Int) (ea : Int) = (qi : Int) := by
          rw [Int.tdiv_eq_ediv_of_nonneg (by omega), ← Int.natCast_ediv, hqi]
        obtain ⟨bb, hbb⟩ : ∃ bb, pl + 2 + qi = bb := ⟨_, rfl⟩
        have hq8 : i / (8 / dp).toNat = qi := by rw [HEA.out]; exact hqi
        have HQ8 := Hi hq8
        have HBB := Hi hbb
        clear hqi hq8
        go_upto_region 9 with (fail)
        go_cut [17] from 48 to 53 (fun c wx => c = .int .i64 bb ∧ wx = wr)
        case first => as_aux_lemma =>
          go_wp2_with fail
          go_meet
          exact ⟨by rw [← hbb, show ((pl + 2 + qi : Nat) : Int) = (pl : Int) + 2 + (qi : Int) by omega], rfl⟩
        case rest =>
        obtain ⟨rfl, rfl⟩ := hcut
        obtain ⟨wr, rfl⟩ : ∃ z, z = wc := ⟨_, rfl⟩
        by_cases hte2 : te ≤ bb
        · as_aux_lemma =>
            have h6 := plainP_err s tb M dp pl te (i + 1) (n - (i + 1)) (1, (te : Int)) (by rw [plainP, HPS.out]; dsimp only; rw [HQ8.out, HBB.out, if_pos hte2])
            rw [show i + 1 + (n - (i + 1)) = n by omega] at h6
            rw [h6] at HRE
            have HRE := Hi (show R = .error (1, (te : Int)) from HR.out.symm.trans HRE.out)
            have BL := Hi (bthen BB.out BL.out (by omega))
            clear h6
            go_wp2_with (first
              | ((with_reducible refine skip_g rfl ?_ ?_); rfl; intro _)
              | (refine load_u (by kernel_rfl) 168 6 _ rfl d [.int .i64 x, .int .i64 y, .int .i64 pl, .slice (some ⟨gL, 0, none⟩) N cL, .int .i64 0, .int .i64 0] rfl rfl O3.out Tryz.underlying168 rfl (by kernel_rfl) ?_; intro _)
              | ((go_at_call 161; (with_reducible refine (HBD.out _ pl 1 te).mono ?_); rintro e wb ⟨rfl, hb⟩); have O5 := Hi (O5.out.below hb O5.out.lt); have BL := Hi (bthen hb BL.out (by omega)); clear hb)
              | (refine store_o rfl 168 6 _ _ rfl (d + 1 + 1) [.int .i64 x, .int .i64 y, .int .i64 pl, .slice (some ⟨gL, 0, none⟩) N cL, .int .i64 1, .int .i64 te] rfl rfl (by kernel_rfl) (by kernel_rfl) (by kernel_rfl) O5.out (by first | rfl | simp) ?_; intro ws hst hO; have O5 := Hi hO; have BL := Hi (hst.below BL.out (by omega)); clear hst hO))
            refine bodyPost_ret (v := .agg (List.toArray [.int .i64 x, .int .i64 y, .int .i64 pl, .slice (some ⟨gL, 0, none⟩) N cL, .int .i64 1, .int .i64 te])) ?_ rfl ?_
            · exact results_c Tryz.results95 _ _ _ [.int .i64 x, .int .i64 y, .int .i64 pl, .slice (some ⟨gL, 0, none⟩) N cL, .int .i64 1, .int .i64 te] _ rfl O5.out.range0 Tryz.underlying168 rfl (by kernel_rfl)
            · rw [show R = .error (1, te) from HRE.out]
              exact ⟨_, by rfl, by rw [HD0.out]; exact BL.out⟩
        have hb0 := byN_bd s bb
        have hbs : bb < s.size := by omega
        have HEN := Hi (fun w0 => entry22_any (byN s bb) dp i w0 hb0.1 hb0.2)
        have hk0 : 0 ≤ entR (byN s bb) dp i ∧ entR (byN s bb) dp i < 256 := by unfold entR; split <;> (try split) <;> omega
        obtain ⟨k, hk⟩ : ∃ k : Nat, entR (byN s bb) dp i = k := ⟨(entR (byN s bb) dp i).toNat, by omega⟩
        have HK := Hi hk
        rw [hk] at HEN
        have hget := byN_get s bb hbs
        clear hk hb0 hbb eI
        go_upto_region 12 with (fail)
        refine wp_region_noPanic ?_
        refine wp_region_held_drew (S := fun w' => Chg (fun _ => False) wr w') (by kernel_rfl) (Chg.refl _ _).drew (fun hHeld => ?_)
        refine wpAnyH_take (i := 0) (v := .string s) rfl (by kernel_rfl) (by kernel_rfl) (by kernel_rfl) (fun _ _ _ h => h) (Or.inl ⟨by rfl, fun w hS => by (go_simp) <;> first | rfl | assumption | (intro hh; exfalso; omega) | (exact (i64_wraps _ (by omega) (by omega)).trans (by omega)) | omega⟩) hHeld ?_
        simp only [Act.put, zq1, zq2, zq3, zq4, zq5, zq6]
        refine wpAnyH_take (i := 1) (v := .int .i64 (bb : Int)) rfl (by kernel_rfl) (by kernel_rfl) (by kernel_rfl) (fun _ _ _ h => h) (Or.inl ⟨by rfl, fun w hS => by (go_simp) <;> first | rfl | assumption | (intro hh; exfalso; omega) | (exact (i64_wraps _ (by omega) (by omega)).trans (by omega)) | omega⟩) hHeld ?_
        simp only [Act.put, zq1, zq2, zq3, zq4, zq5, zq6]
        refine wpAnyH_take (i := 2) (v := .int .u8 (byN s bb)) rfl (by kernel_rfl) (by kernel_rfl) (by kernel_rfl) (fun _ _ _ h => h) (Or.inl ⟨by rfl, fun w hS => by (go_simp) <;> first | rfl | assumption | (intro hh; exfalso; omega) | (exact (i64_wraps _ (by omega) (by omega)).trans (by omega)) | omega⟩) hHeld ?_
        simp only [Act.put, zq1, zq2, zq3, zq4, zq5, zq6]
        refine wpAnyH_take (i := 3) (v := .pointer (some ⟨d + 1, 4, none⟩)) rfl (by kernel_rfl) (by kernel_rfl) (by kernel_rfl) (fun _ _ _ h => h) (Or.inl ⟨by rfl, fun w hS => by (go_simp) <;> first | rfl | assumption | (intro hh; exfalso; omega) | (exact (i64_wraps _ (by omega) (by omega)).trans (by omega)) | omega⟩) hHeld ?_
        simp only [Act.put, zq1, zq2, zq3, zq4, zq5, zq6]
        refine wpAnyH_take (i := 4) (v := .int .i64 dp) rfl (by kernel_rfl) (by kernel_rfl) (by kernel_rfl) (fun _ _ _ h => h) (Or.inl ⟨by rfl, fun w hS => by (have hc : w.cell? ⟨d + 1, 4, none⟩ = some (.int .i64 dp) := (hS.cell (b := d + 1) (o := 4) (by omega) (fun h => h)).trans ((O4.out.cell 4).trans rfl); go_simp)⟩) hHeld ?_
        simp only [Act.put, zq1, zq2, zq3, zq4, zq5, zq6]
        refine wpAnyH_take (i := 5) (v := .int .i64 (i : Int)) rfl (by kernel_rfl) (by kernel_rfl) (by kernel_rfl) (fun _ _ _ h => h) (Or.inl ⟨by rfl, fun w hS => by (go_simp) <;> first | rfl | assumption | (intro hh; exfalso; omega) | (exact (i64_wraps _ (by omega) (by omega)).trans (by omega)) | omega⟩) hHeld ?_
        simp only [Act.put, zq1, zq2, zq3, zq4, zq5, zq6]
        have hS := (Chg.refl (fun _ => False) wr).drew
        generalize World.drew _ = wk at hS ⊢
        refine wpAnyH_ready (rs := [6]) (by kernel_rfl) (by simp) ?_
        refine AllReadyH.cons (o := _) rfl (fun K' hK => ?_) AllReadyH.nil
        rw [if_pos (by rfl)]
        go_simp
        refine (HEN.out _).mono ?_
        rintro x5 w5 ⟨rfl, rfl⟩
        obtain ⟨wk, rfl⟩ : ∃ z, z = w5 := ⟨_, rfl⟩
        go_wp2_with fail
        refine hK _ _ hS (fun hH1 => ?_)
        clear hK K'
        refine wpAnyH_take (i := 7) (v := .int .i64 (k : Int)) rfl (by kernel_rfl) (by kernel_rfl) (by kernel_rfl) (fun _ _ _ h => h) (Or.inl ⟨by rfl, fun w hS => by (go_simp) <;> first | rfl | assumption | (intro hh; exfalso; omega) | (exact (i64_wraps _ (by omega) (by omega)).trans (by omega)) | omega⟩) hH1 ?_
        simp only [Act.put, zq1, zq2, zq3, zq4, zq5, zq6]
        refine wpAnyH_done (by kernel_rfl) ?_ _
        refine NoPanic.normal ?_
        have hchk := BB.out.trans (hS.below (B := d + 1 + 1 + 1) (by omega) (fun _ h => h.elim))
        have hsz5 := hS.size
        by_cases hkM : k < M
        · have hkt : (entR (byN s bb) dp i).toNat = k := by rw [HK.out]; rfl
          obtain ⟨c0, c1, c2, c3, hck⟩ : ∃ c0 c1 c2 c3, pxC tb k = [c0, c1, c2, c3] := four_of (pxC_len tb M k htb hkM)
          have HR1 := Hi (show plainP s tb M dp pl te (i + 1) = .ok (ps ++ [c0, c1, c2, c3]) by rw [plainP, HPS.out]; dsimp only; rw [HQ8.out, HBB.out, if_neg hte2, hkt, if_pos hkM, hck])
          have HCK := Hi (range_chg (range_part (L2 := [c0, c1, c2, c3]) HTR.out (k * 4) (fun j v hv => by
            rw [← hck] at hv; unfold pxC at hv; rw [List.getElem?_take] at hv
            split at hv
            · rw [List.getElem?_drop] at hv; rw [Nat.mul_comm]; exact hv
            · cases hv)) hS (by omega) (fun h => h))
          rw [Nat.zero_add] at HCK
          have HC1 := Hi (show ∀ u ∈ [c0, c1, c2, c3], u.oneCell' = true by rw [← hck]; exact pxC_all HT1.out)
          have HOW := Hi (owns_down (B := wr.heap.size) OW.out (hS.below (Nat.le_refl _) (fun _ h => h.elim)) (fun g hg => (owns_blk OW.out hg).2))
          have hp5 := (owns_blk (g := d) OW.out)
          clear hkt hck hk0 HEN hp5 hget
          go_wp2_with (first
            | (refine load_r rfl 185 _ rfl gt (k * 4) [c0, c1, c2, c3] rfl HCK.out Tryz.underlying185 rfl (by kernel_rfl) ?_; intro _)
            | (at_builtin; refine appS rfl (.tmp 74) (.tmp 79) 54 rfl (d + 1 + 1 + 1) 185 (.agg #[.int .u8 0, .int .u8 0, .int .u8 0, .int .u8 0]) 4 4 Tryz.underlying54 (by kernel_rfl) rfl (by decide) _ _ _ rfl HOW.out [c0, c1, c2, c3] HC1.out rfl _ rfl (by omega) (by unfold maxLen; omega) (by omega) ?_; intro v' w1 hown1 hB1 hz1; have O1 := Hi hown1; have B1 := Hi hB1; clear hown1 hB1))
          go_roundw
          case rel => exact ⟨i + 1, ps ++ [c0, c1, c2, c3], by omega, by go_num, HR1.out, O1.out, B1.out w3 hchk⟩
          case measure => simp [intOf]; omega
        · as_aux_lemma =>
            have hkt : (entR (byN s bb) dp i).toNat = k := by rw [HK.out]; rfl
            have h5 : plainP s tb M dp pl te (i + 1) = .error (2, (bb : Int)) := by rw [show (bb : Int) = (pl : Int) + 2 + (i / (8 / dp).toNat : Nat) by rw [HQ8.out, ← HBB.out]; omega, plainP, HPS.out]; dsimp only; rw [HQ8.out, HBB.out, if_neg hte2, hkt, if_neg hkM]
            have h6 := plainP_err s tb M dp pl te (i + 1) (n - (i + 1)) _ h5
            rw [show i + 1 + (n - (i + 1)) = n by omega] at h6
            rw [h6] at HRE
            have HRE := Hi (show R = .error (2, (bb : Int)) from HR.out.symm.trans HRE.out)
            have hb5 : Below wr.heap.size wr wk := hS.below (Nat.le_refl _) (fun _ h => h.elim)
            have O3 := Hi (O3.out.below hb5 O3.out.lt)
            have O5 := Hi (O5.out.below hb5 O5.out.lt)
            have BL := Hi (bthen hchk BL.out (by omega))
            clear h5 h6 hkt hb5
            go_wp2_with (first
              | ((with_reducible refine skip_g rfl ?_ ?_); rfl; intro _)
              | (refine load_u (by kernel_rfl) 168 6 _ rfl d [.int .i64 x, .int .i64 y, .int .i64 pl, .slice (some ⟨gL, 0, none⟩) N cL, .int .i64 0, .int .i64 0] rfl rfl O3.out Tryz.underlying168 rfl (by kernel_rfl) ?_; intro _)
              | ((go_at_call 161; (with_reducible refine (HBD.out _ pl 2 bb).mono ?_); rintro e wb ⟨rfl, hb⟩); have O5 := Hi (O5.out.below hb O5.out.lt); have BL := Hi (bthen hb BL.out (by omega)); clear hb)
              | (refine store_o rfl 168 6 _ _ rfl (d + 1 + 1) [.int .i64 x, .int .i64 y, .int .i64 pl, .slice (some ⟨gL, 0, none⟩) N cL, .int .i64 2, .int .i64 bb] rfl rfl (by kernel_rfl) (by kernel_rfl) (by kernel_rfl) O5.out (by first | rfl | simp) ?_; intro ws hst hO; have O5 := Hi hO; have BL := Hi (hst.below BL.out (by omega)); clear hst hO))
            refine bodyPost_ret (v := .agg (List.toArray [.int .i64 x, .int .i64 y, .int .i64 pl, .slice (some ⟨gL, 0, none⟩) N cL, .int .i64 2, .int .i64 bb])) ?_ rfl ?_
            · exact results_c Tryz.results95 _ _ _ [.int .i64 x, .int .i64 y, .int .i64 pl, .slice (some ⟨gL, 0, none⟩) N cL, .int .i64 2, .int .i64 bb] _ rfl O5.out.range0 Tryz.underlying168 rfl (by kernel_rfl)
            · rw [show R = .error (2, bb) from HRE.out]
              exact ⟨_, by rfl, by rw [HD0.out]; exact BL.out⟩
end Go.Proofs.YtlfbaggcfaenlaaGreat

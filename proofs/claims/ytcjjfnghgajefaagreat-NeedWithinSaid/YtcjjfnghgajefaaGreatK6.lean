/- pnmhead.kind, number, small functions, walked. -/
import Derived.Test.YtcjjfnghgajefaaGreatK5
import Derived.Test.YtcjjfnghgajefaaGreatK0
namespace Go.Proofs.YtcjjfnghgajefaaGreat
open Go.RowKit
set_option linter.unusedVariables false
set_option linter.unusedSimpArgs false
def Sr.kind (x : Sr) (l : Led) : SL × (Int × (Int × Int)) :=
  if (x.next l 1).2.2 = false then ((x.next l 1).1, (0, (x.next l 1).1.1.ftc (x.next l 1).1.2))
  else if byN x.s x.p ≠ 80 then ((x.next l 1).1, (0, (2, (x.p : Int))))
  else if ((x.next l 1).1.1.next (x.next l 1).1.2 1).2.2 = false then (((x.next l 1).1.1.next (x.next l 1).1.2 1).1, (0, ((x.next l 1).1.1.next (x.next l 1).1.2 1).1.1.ftc ((x.next l 1).1.1.next (x.next l 1).1.2 1).1.2))
  else if byN (x.next l 1).1.1.s (x.next l 1).1.1.p < 49 ∨ 54 < byN (x.next l 1).1.1.s (x.next l 1).1.1.p then (((x.next l 1).1.1.next (x.next l 1).1.2 1).1, (0, (2, ((x.next l 1).1.1.p : Int))))
  else (((x.next l 1).1.1.next (x.next l 1).1.2 1).1, (byN (x.next l 1).1.1.s (x.next l 1).1.1.p - 48, (0, 0)))
def Sr.hnum (x : Sr) (l : Led) (most above : Int) : SL × (Int × (Int × Int)) :=
  if (x.number l).2.2.1 ≠ 0 then ((x.number l).1, (0, (x.number l).2.2))
  else if (x.number l).2.1.1 = 0 then ((x.number l).1, (0, (2, (x.number l).2.1.2)))
  else if most < (x.number l).2.1.1 then ((x.number l).1, (0, (above, (x.number l).2.1.2)))
  else ((x.number l).1, ((x.number l).2.1.1, (0, 0)))
theorem number_zero (x : Sr) (l : Led) (h : (x.number l).2.2.1 = 0) : (x.number l).2.2 = (0, 0) := by
  unfold Sr.number at h ⊢
  by_cases h1 : (x.first l).2.2.1 ≠ 0
  · rw [if_pos h1] at h; exact absurd h h1
  rw [if_neg h1] at h ⊢
  by_cases h2 : (x.first l).2.1.1 < 48 ∨ 57 < (x.first l).2.1.1
  · rw [if_pos h2] at h; exact absurd h (show ¬ (2 : Int) = 0 by decide)
  rw [if_neg h2] at h ⊢
  by_cases h3 : ((x.first l).1.1.digits (x.first l).1.2 ((x.first l).2.1.1 - 48)).2.2.1 ≠ 0
  · rw [if_pos h3] at h; exact absurd h h3
  rw [if_neg h3]
def pbitB (k : Int) : Bool := decide (k = 1 ∨ k = 4)
def ptxtB (k : Int) : Bool := decide (1 ≤ k ∧ k ≤ 3)
theorem pbad_any (k a : Int) (w : World) (hk : k ≠ 0) : Calls Tryz.prog 100 #[.int .i64 k, .int .i64 a] w fun e w' => e = .returned (.agg (pf (k, a)).toArray) ∧ Below w.heap.size w w' := by
  have E := Hi (show pf (k, a) = [.int .i64 k, .int .i64 3, .int .i64 a] by unfold pf; rw [if_neg hk])
  rw [E.out]
  clear hk
  go_enter Tryz.func100, Tryz.ntmps100
  go_wp2
  refine bodyPost_ret (v := .agg #[.int .i64 k, .int .i64 3, .int .i64 a]) (by simp [results, Tryz.results100, go_sem]) rfl ⟨rfl, ?_⟩
  exact (Below.refl _ _).alloc (Nat.le_refl _) _
theorem pbit_any (k : Int) (w : World) : Calls Tryz.prog 63 #[.int .i64 k] w fun e w' => e = .returned (.bool (pbitB k)) ∧ w = w' := by
  rcases (show k = 1 ∨ k = 4 ∨ (k ≠ 1 ∧ k ≠ 4) by omega) with rfl | rfl | ⟨h1, h2⟩
  · go_enter Tryz.func63, Tryz.ntmps63
    go_wp2_with ((with_reducible refine skip_g rfl ?_ ?_); rfl; intro _)
    go_ret
    exact ⟨rfl, rfl⟩
  · go_enter Tryz.func63, Tryz.ntmps63
    go_wp2
    go_ret
    exact ⟨rfl, rfl⟩
  · have E := Hi (show pbitB k = false by unfold pbitB; rw [decide_eq_false_iff_not]; omega)
    rw [E.out]
    have g1 : (k == 1) = false := by rw [beq_eq_false_iff_ne]; exact h1
    have g2 : (k == 4) = false := by rw [beq_eq_false_iff_ne]; exact h2
    clear h1 h2
    go_enter Tryz.func63, Tryz.ntmps63
    go_wp2
    go_ret
    exact ⟨rfl, rfl⟩
theorem ptxt_any (k : Int) (w : World) : Calls Tryz.prog 64 #[.int .i64 k] w fun e w' => e = .returned (.bool (ptxtB k)) ∧ w = w' := by
  rcases (show k < 1 ∨ (1 ≤ k ∧ k ≤ 3) ∨ (1 ≤ k ∧ 3 < k) by omega) with h | ⟨h, h2⟩ | ⟨h, h2⟩
  · rw [show ptxtB k = false by unfold ptxtB; rw [decide_eq_false_iff_not]; omega]
    have g : decide (k ≥ 1) = false := by rw [decide_eq_false_iff_not]; omega
    clear h
    go_enter Tryz.func64, Tryz.ntmps64
    go_wp2_with ((with_reducible refine skip_g rfl ?_ ?_); rfl; intro _)
    go_ret
    exact ⟨rfl, rfl⟩
  · rw [show ptxtB k = true by unfold ptxtB; rw [decide_eq_true_iff]; omega]
    have g : decide (k ≥ 1) = true := by rw [decide_eq_true_iff]; omega
    have g2 : decide (k ≤ 3) = true := by rw [decide_eq_true_iff]; omega
    clear h h2
    go_enter Tryz.func64, Tryz.ntmps64
    go_wp2
    go_ret
    exact ⟨rfl, rfl⟩
  · rw [show ptxtB k = false by unfold ptxtB; rw [decide_eq_false_iff_not]; omega]
    have g : decide (k ≥ 1) = true := by rw [decide_eq_true_iff]; omega
    have g2 : decide (k ≤ 3) = false := by rw [decide_eq_false_iff_not]; omega
    clear h h2
    go_enter Tryz.func64, Tryz.ntmps64
    go_wp2
    go_ret
    exact ⟨rfl, rfl⟩
set_option maxRecDepth 100000 in
set_option maxHeartbeats 4000000 in
theorem kind_any {d0 : Nat} {w : World} {X : Nat} {x y : Sr} {m : Led} (h : Rdr d0 w X x y m) : Calls Tryz.prog 61 #[.pointer (some ⟨X, 0, none⟩)] w (RdPost d0 w X x (y.kind m).1 (.tuple #[.int .i64 (y.kind m).2.1, .agg (pf (y.kind m).2.2).toArray])) := by
  suffices H : Calls Tryz.prog 61 #[.pointer (some ⟨X, 0, none⟩)] w (RdPost w.heap.size w X x (y.kind m).1 (.tuple #[.int .i64 (y.kind m).2.1, .agg (pf (y.kind m).2.2).toArray])) from H.mono fun e w' hh => ⟨hh.1, hh.2.1.to h, hh.2.2⟩
  have PX := Hi (h.self.alloc (.cells #[.int .i64 0, .int .i64 0, .int .i64 0] 36))
  have OF := Hi (obj1_new w #[.int .i64 0, .int .i64 0, .int .i64 0] 36)
  have CH := Hi ((Chg.refl (two X x) w).alloc (.cells #[.int .i64 0, .int .i64 0, .int .i64 0] 36))
  have HSY := Hi h.es
  obtain ⟨R, hR⟩ : ∃ R, y.kind m = R := ⟨_, rfl⟩
  rw [hR]
  have HRE := Hi hR
  obtain ⟨d, hd⟩ : ∃ d, w.heap.size = d := ⟨_, rfl⟩
  have HDe := Hi hd
  rw [hd] at PX OF ⊢
  clear h hR
  go_enter Tryz.func61, Tryz.ntmps61
  go_upto_region 1 with (fail)
  clear hd
  generalize World.alloc _ _ = wr at PX OF CH ⊢
  replace HRE := Hi (show (if (y.next m 1).2.2 = false then ((y.next m 1).1, ((0 : Int), (y.next m 1).1.1.ftc (y.next m 1).1.2))
  else if byN y.s y.p ≠ 80 then ((y.next m 1).1, (0, (2, (y.p : Int))))
  else if ((y.next m 1).1.1.next (y.next m 1).1.2 1).2.2 = false then (((y.next m 1).1.1.next (y.next m 1).1.2 1).1, (0, ((y.next m 1).1.1.next (y.next m 1).1.2 1).1.1.ftc ((y.next m 1).1.1.next (y.next m 1).1.2 1).1.2))
  else if byN (y.next m 1).1.1.s (y.next m 1).1.1.p < 49 ∨ 54 < byN (y.next m 1).1.1.s (y.next m 1).1.1.p then (((y.next m 1).1.1.next (y.next m 1).1.2 1).1, (0, (2, ((y.next m 1).1.1.p : Int))))
  else (((y.next m 1).1.1.next (y.next m 1).1.2 1).1, (byN (y.next m 1).1.1.s (y.next m 1).1.1.p - 48, (0, 0)))) = R from HRE.out)
  cases hok : (y.next m 1).2.2 with
  | false =>
      have HU := Hi (fun w0 (h0 : Rdr d w0 X x y m) => rd_no h0 hok)
      have e1 := (n1_no hok).1
      obtain ⟨n1, hn1⟩ : ∃ n1, (y.next m 1).1.2 = n1 := ⟨_, rfl⟩
      have e2 : (y.next m 1).1 = (y, n1) := Prod.ext e1 hn1
      rw [hn1] at HU
      obtain ⟨F, hF⟩ : ∃ F, y.ftc n1 = F := ⟨_, rfl⟩
      have HFL := Hi (fun w0 (h0 : Rdr d w0 X x y n1) => (rd_fault h0).mono (R' := fun e w' => e = .returned (.agg (pf F).toArray) ∧ Below w0.heap.size w0 w') fun e w' hh => by rw [hF] at hh; exact hh)
      have E := Hi (show R = ((y, n1), (0, F)) by have := HRE.out; rw [if_pos hok, e2, hF] at this; exact this.symm)
      clear hok e1 e2 hn1 hF
      go_wp2_with (first
        | ((go_at_call 48; (with_reducible refine (rd_at PX.out).mono ?_); rintro e ws1 ⟨rfl, rfl⟩))
        | ((go_at_call 99; (with_reducible refine (HU.out _ PX.out).mono ?_); rintro e wp ⟨rfl, hp1, hc1⟩); have OF := Hi (hc1.obj OF.out (not_two PX.out (by omega))); have PX := Hi hp1; have CH := Hi (CH.out.trans hc1); clear hp1 hc1)
        | ((go_at_call 50; (with_reducible refine (HFL.out _ PX.out).mono ?_); rintro e wb ⟨rfl, hb⟩); have PX := Hi (PX.out.upon hb); have OF := Hi (OF.out.below hb OF.out.lt); have CH := Hi (CH.out.trans (chg_of_below hb _)); clear hb)
        | (refine store_o rfl 36 3 _ _ rfl (d) (pf F) rfl rfl (by kernel_rfl) (by kernel_rfl) (by kernel_rfl) OF.out (by first | rfl | simp) ?_; intro ws hst hO; have OF := Hi hO; have PX := Hi (PX.out.into hst (by omega)); have CH := Hi (Stored.chg hst CH.out (by have := HDe.out; omega)); clear hst hO))
      refine bodyPost_ret (v := .tuple #[.int .i64 0, .agg (pf F).toArray]) ?_ rfl ⟨by rw [E.out], by rw [E.out]; exact PX.out, CH.out⟩
      exact rs_1c Tryz.results61 _ _ _ (pf F) _ rfl OF.out.range0 Tryz.underlying36 rfl (by kernel_rfl)
  | true =>
      have HU := Hi (fun w0 (h0 : Rdr d w0 X x y m) => rd_yes h0 hok)
      obtain ⟨b, hb⟩ : ∃ b, byN y.s y.p = b := ⟨_, rfl⟩
      obtain ⟨n1, hn1⟩ : ∃ n1, (y.next m 1).1.2 = n1 := ⟨_, rfl⟩
      rw [hn1, hb] at HU
      have e2 : (y.next m 1).1 = ({ y with p := y.p + 1 }, n1) := Prod.ext (n1_ok PX.out.pr.src.ok hok).2.1 hn1
      obtain ⟨z1, hz1⟩ : ∃ q, ({ y with p := y.p + 1 } : Sr) = q := ⟨_, rfl⟩
      rw [hz1] at HU e2
      replace HRE := Hi (show (if b ≠ 80 then ((z1, n1), ((0 : Int), ((2 : Int), (y.p : Int))))
        else if (z1.next n1 1).2.2 = false then ((z1.next n1 1).1, (0, (z1.next n1 1).1.1.ftc (z1.next n1 1).1.2))
        else if byN z1.s z1.p < 49 ∨ 54 < byN z1.s z1.p then ((z1.next n1 1).1, (0, (2, (z1.p : Int))))
        else ((z1.next n1 1).1, (byN z1.s z1.p - 48, (0, 0)))) = R by have := HRE.out; rw [if_neg (by rw [hok]; decide), e2, hb] at this; exact this)
      clear hok hb hn1 e2 hz1
      by_cases h8 : b = 80
      rotate_left
      · have g1 : (b != 80) = true := by rw [bne_iff_ne]; exact h8
        have E := Hi (show R = ((z1, n1), (0, (2, (y.p : Int)))) by have := HRE.out; rw [if_pos h8] at this; exact this.symm)
        have HB2 := Hi (fun w0 => pbad_any 2 (y.p : Int) w0 (by decide))
        clear h8
        go_wp2_with (first
          | ((go_at_call 48; (with_reducible refine (rd_at PX.out).mono ?_); rintro e ws1 ⟨rfl, rfl⟩))
          | ((go_at_call 99; (with_reducible refine (HU.out _ PX.out).mono ?_); rintro e wp ⟨rfl, hp1, hc1⟩); have OF := Hi (hc1.obj OF.out (not_two PX.out (by omega))); have PX := Hi hp1; have CH := Hi (CH.out.trans hc1); clear hp1 hc1)
          | ((go_at_call 100; (with_reducible refine (HB2.out _).mono ?_); rintro e wb ⟨rfl, hb⟩); have PX := Hi (PX.out.upon hb); have OF := Hi (OF.out.below hb OF.out.lt); have CH := Hi (CH.out.trans (chg_of_below hb _)); clear hb)
          | (refine store_o rfl 36 3 _ _ rfl (d) (pf (2, (y.p : Int))) rfl rfl (by kernel_rfl) (by kernel_rfl) (by kernel_rfl) OF.out (by first | rfl | simp) ?_; intro ws hst hO; have OF := Hi hO; have PX := Hi (PX.out.into hst (by omega)); have CH := Hi (Stored.chg hst CH.out (by have := HDe.out; omega)); clear hst hO))
        refine bodyPost_ret (v := .tuple #[.int .i64 0, .agg (pf (2, (y.p : Int))).toArray]) ?_ rfl ⟨by rw [E.out], by rw [E.out]; exact PX.out, CH.out⟩
        exact rs_1c Tryz.results61 _ _ _ (pf (2, (y.p : Int))) _ rfl OF.out.range0 Tryz.underlying36 rfl (by kernel_rfl)
      have g1 : (b != 80) = false := by rw [h8]; rfl
      replace HRE := Hi (show (if (z1.next n1 1).2.2 = false then ((z1.next n1 1).1, ((0 : Int), (z1.next n1 1).1.1.ftc (z1.next n1 1).1.2))
        else if byN z1.s z1.p < 49 ∨ 54 < byN z1.s z1.p then ((z1.next n1 1).1, (0, (2, (z1.p : Int))))
        else ((z1.next n1 1).1, (byN z1.s z1.p - 48, (0, 0)))) = R by have := HRE.out; rw [if_neg (by rw [h8]; decide)] at this; exact this)
      clear h8
      go_upto_region 7 with (first
        | ((go_at_call 48; (with_reducible refine (rd_at PX.out).mono ?_); rintro e ws1 ⟨rfl, rfl⟩))
        | ((go_at_call 99; (with_reducible refine (HU.out _ PX.out).mono ?_); rintro e wp ⟨rfl, hp1, hc1⟩); have OF := Hi (hc1.obj OF.out (not_two PX.out (by omega))); have PX := Hi hp1; have CH := Hi (CH.out.trans hc1); clear hp1 hc1))
      clear g1 HU
      obtain ⟨u, hu⟩ : ∃ u, z1 = u := ⟨_, rfl⟩
      obtain ⟨n, hn⟩ : ∃ u, n1 = u := ⟨_, rfl⟩
      rw [hu, hn] at PX HRE
      clear hu hn
      skip
      cases hok : (u.next n 1).2.2 with
      | false =>
        have HU := Hi (fun w0 (h0 : Rdr d w0 X x u n) => rd_no h0 hok)
        have e1 := (n1_no hok).1
        obtain ⟨n1, hn1⟩ : ∃ n1, (u.next n 1).1.2 = n1 := ⟨_, rfl⟩
        have e2 : (u.next n 1).1 = (u, n1) := Prod.ext e1 hn1
        rw [hn1] at HU
        obtain ⟨F, hF⟩ : ∃ F, u.ftc n1 = F := ⟨_, rfl⟩
        have HFL := Hi (fun w0 (h0 : Rdr d w0 X x u n1) => (rd_fault h0).mono (R' := fun e w' => e = .returned (.agg (pf F).toArray) ∧ Below w0.heap.size w0 w') fun e w' hh => by rw [hF] at hh; exact hh)
        have E := Hi (show R = ((u, n1), (0, F)) by have := HRE.out; rw [if_pos hok, e2, hF] at this; exact this.symm)
        clear hok e1 e2 hn1 hF
        go_wp2_with (first
          | ((go_at_call 48; (with_reducible refine (rd_at PX.out).mono ?_); rintro e ws1 ⟨rfl, rfl⟩))
          | ((go_at_call 99; (with_reducible refine (HU.out _ PX.out).mono ?_); rintro e wp ⟨rfl, hp1, hc1⟩); have OF := Hi (hc1.obj OF.out (not_two PX.out (by omega))); have PX := Hi hp1; have CH := Hi (CH.out.trans hc1); clear hp1 hc1)
          | ((go_at_call 50; (with_reducible refine (HFL.out _ PX.out).mono ?_); rintro e wb ⟨rfl, hb⟩); have PX := Hi (PX.out.upon hb); have OF := Hi (OF.out.below hb OF.out.lt); have CH := Hi (CH.out.trans (chg_of_below hb _)); clear hb)
          | (refine store_o rfl 36 3 _ _ rfl (d) (pf F) rfl rfl (by kernel_rfl) (by kernel_rfl) (by kernel_rfl) OF.out (by first | rfl | simp) ?_; intro ws hst hO; have OF := Hi hO; have PX := Hi (PX.out.into hst (by omega)); have CH := Hi (Stored.chg hst CH.out (by have := HDe.out; omega)); clear hst hO))
        refine bodyPost_ret (v := .tuple #[.int .i64 0, .agg (pf F).toArray]) ?_ rfl ⟨by rw [E.out], by rw [E.out]; exact PX.out, CH.out⟩
        exact rs_1c Tryz.results61 _ _ _ (pf F) _ rfl OF.out.range0 Tryz.underlying36 rfl (by kernel_rfl)
      | true =>
        have HU := Hi (fun w0 (h0 : Rdr d w0 X x u n) => rd_yes h0 hok)
        obtain ⟨b, hb⟩ : ∃ b, byN u.s u.p = b := ⟨_, rfl⟩
        obtain ⟨n1, hn1⟩ : ∃ n1, (u.next n 1).1.2 = n1 := ⟨_, rfl⟩
        rw [hn1, hb] at HU
        have e2 : (u.next n 1).1 = ({ u with p := u.p + 1 }, n1) := Prod.ext (n1_ok PX.out.pr.src.ok hok).2.1 hn1
        obtain ⟨z1, hz1⟩ : ∃ q, ({ u with p := u.p + 1 } : Sr) = q := ⟨_, rfl⟩
        rw [hz1] at HU e2
        replace HRE := Hi (show (if b < 49 ∨ 54 < b then ((z1, n1), ((0 : Int), ((2 : Int), (u.p : Int)))) else ((z1, n1), (b - 48, (0, 0)))) = R by have := HRE.out; rw [if_neg (by rw [hok]; decide), e2, hb] at this; exact this)
        have HBB := Hi (byN_bd u.s u.p)
        rw [hb] at HBB
        clear hok hb hn1 e2 hz1
        have HB2 := Hi (fun w0 => pbad_any 2 (u.p : Int) w0 (by decide))
        by_cases h1 : b < 49
        · have g2 : decide (b < 49) = true := by rw [decide_eq_true_iff]; exact h1
          have E := Hi (show R = ((z1, n1), (0, (2, (u.p : Int)))) by have := HRE.out; rw [if_pos (Or.inl h1)] at this; exact this.symm)
          clear h1
          go_wp2_with (first
            | ((with_reducible refine skip_g rfl ?_ ?_); rfl; intro _)
            | ((go_at_call 48; (with_reducible refine (rd_at PX.out).mono ?_); rintro e ws1 ⟨rfl, rfl⟩))
            | ((go_at_call 99; (with_reducible refine (HU.out _ PX.out).mono ?_); rintro e wp ⟨rfl, hp1, hc1⟩); have OF := Hi (hc1.obj OF.out (not_two PX.out (by omega))); have PX := Hi hp1; have CH := Hi (CH.out.trans hc1); clear hp1 hc1)
            | ((go_at_call 100; (with_reducible refine (HB2.out _).mono ?_); rintro e wb ⟨rfl, hb⟩); have PX := Hi (PX.out.upon hb); have OF := Hi (OF.out.below hb OF.out.lt); have CH := Hi (CH.out.trans (chg_of_below hb _)); clear hb)
            | (refine store_o rfl 36 3 _ _ rfl (d) (pf (2, (u.p : Int))) rfl rfl (by kernel_rfl) (by kernel_rfl) (by kernel_rfl) OF.out (by first | rfl | simp) ?_; intro ws hst hO; have OF := Hi hO; have PX := Hi (PX.out.into hst (by omega)); have CH := Hi (Stored.chg hst CH.out (by have := HDe.out; omega)); clear hst hO))
          refine bodyPost_ret (v := .tuple #[.int .i64 0, .agg (pf (2, (u.p : Int))).toArray]) ?_ rfl ⟨by rw [E.out], by rw [E.out]; exact PX.out, CH.out⟩
          exact rs_1c Tryz.results61 _ _ _ (pf (2, (u.p : Int))) _ rfl OF.out.range0 Tryz.underlying36 rfl (by kernel_rfl)
        have g2 : decide (b < 49) = false := by rw [decide_eq_false_iff_not]; exact h1
        by_cases h2 : 54 < b
        · have g3 : decide (b > 54) = true := by rw [decide_eq_true_iff]; exact h2
          have E := Hi (show R = ((z1, n1), (0, (2, (u.p : Int)))) by have := HRE.out; rw [if_pos (Or.inr h2)] at this; exact this.symm)
          clear h1 h2
          go_wp2_with (first
            | ((go_at_call 48; (with_reducible refine (rd_at PX.out).mono ?_); rintro e ws1 ⟨rfl, rfl⟩))
            | ((go_at_call 99; (with_reducible refine (HU.out _ PX.out).mono ?_); rintro e wp ⟨rfl, hp1, hc1⟩); have OF := Hi (hc1.obj OF.out (not_two PX.out (by omega))); have PX := Hi hp1; have CH := Hi (CH.out.trans hc1); clear hp1 hc1)
            | ((go_at_call 100; (with_reducible refine (HB2.out _).mono ?_); rintro e wb ⟨rfl, hb⟩); have PX := Hi (PX.out.upon hb); have OF := Hi (OF.out.below hb OF.out.lt); have CH := Hi (CH.out.trans (chg_of_below hb _)); clear hb)
            | (refine store_o rfl 36 3 _ _ rfl (d) (pf (2, (u.p : Int))) rfl rfl (by kernel_rfl) (by kernel_rfl) (by kernel_rfl) OF.out (by first | rfl | simp) ?_; intro ws hst hO; have OF := Hi hO; have PX := Hi (PX.out.into hst (by omega)); have CH := Hi (Stored.chg hst CH.out (by have := HDe.out; omega)); clear hst hO))
          refine bodyPost_ret (v := .tuple #[.int .i64 0, .agg (pf (2, (u.p : Int))).toArray]) ?_ rfl ⟨by rw [E.out], by rw [E.out]; exact PX.out, CH.out⟩
          exact rs_1c Tryz.results61 _ _ _ (pf (2, (u.p : Int))) _ rfl OF.out.range0 Tryz.underlying36 rfl (by kernel_rfl)
        have g3 : decide (b > 54) = false := by rw [decide_eq_false_iff_not]; exact h2
        have E := Hi (show R = ((z1, n1), (b - 48, (0, 0))) by have := HRE.out; rw [if_neg (by omega)] at this; exact this.symm)
        have w1 : IntKind.i64.wrap (b - 48) = b - 48 := i64_wrap_id _ (by omega) (by omega)
        clear h1 h2
        go_wp2_with (first
          | ((go_at_call 48; (with_reducible refine (rd_at PX.out).mono ?_); rintro e ws1 ⟨rfl, rfl⟩))
          | ((go_at_call 99; (with_reducible refine (HU.out _ PX.out).mono ?_); rintro e wp ⟨rfl, hp1, hc1⟩); have OF := Hi (hc1.obj OF.out (not_two PX.out (by omega))); have PX := Hi hp1; have CH := Hi (CH.out.trans hc1); clear hp1 hc1)
          | (refine store_o rfl 36 3 _ _ rfl (d) (pf (0, 0)) rfl rfl (by kernel_rfl) (by kernel_rfl) (by kernel_rfl) OF.out (by first | rfl | simp) ?_; intro ws hst hO; have OF := Hi hO; have PX := Hi (PX.out.into hst (by omega)); have CH := Hi (Stored.chg hst CH.out (by have := HDe.out; omega)); clear hst hO))
        refine bodyPost_ret (v := .tuple #[.int .i64 (b - 48), .agg (pf (0, 0)).toArray]) ?_ rfl ⟨by rw [E.out], by rw [E.out]; exact PX.out, CH.out⟩
        exact rs_1c Tryz.results61 _ _ _ (pf (0, 0)) _ rfl OF.out.range0 Tryz.underlying36 rfl (by kernel_rfl)
end Go.Proofs.YtcjjfnghgajefaaGreat

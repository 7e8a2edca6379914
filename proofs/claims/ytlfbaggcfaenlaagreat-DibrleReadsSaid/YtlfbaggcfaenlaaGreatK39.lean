/- What a command of the painter leaves: plain. -/
import Derived.Test.YtlfbaggcfaenlaaGreatK38
import Derived.Test.YtlfbaggcfaenlaaGreatK28
import Derived.Test.YtlfbaggcfaenlaaGreatK0
namespace Go.Proofs.YtlfbaggcfaenlaaGreat
open Go.RowKit
set_option linter.unusedVariables false
set_option linter.unusedSimpArgs false
theorem put_a (K : JK) (σ : JS) (c0 c1 c2 c3 : Int) : (K.put σ c0 c1 c2 c3).1.a = σ.a := by unfold JK.put; split <;> rfl
theorem putE_a (K : JK) (σ : JS) (e : Int) : (K.putE σ e).1.a = σ.a := put_a K σ _ _ _ _
theorem putsL_in (K : JK) (es : Nat → Int) : ∀ (c i : Nat) (σ : JS), (K.putsL es c i σ).2.1 = 0 → (K.putsL es c i σ).1.x = σ.x + c ∧ (K.putsL es c i σ).1.y = σ.y ∧ (K.putsL es c i σ).1.a = σ.a
  | 0, i, σ, h => ⟨rfl, rfl, rfl⟩
  | c + 1, i, σ, h => by
    rw [JK.putsL] at h ⊢
    by_cases h2 : (K.putE σ (es i)).2.1 = 0
    · rw [if_pos h2] at h ⊢
      have h3 := putsL_in K es c (i + 1) _ h
      have h4 := putE_xy h2
      have h5 := putE_a K σ (es i)
      exact ⟨by rw [h3.1, h4.1]; omega, by rw [h3.2.1, h4.2], by rw [h3.2.2, h5]⟩
    · rw [if_neg h2] at h; exact absurd h h2
theorem byteL_a (K : JK) (v pl : Int) : ∀ (c i : Nat) (σ : JS), (K.byteL v pl c i σ).1.a = σ.a
  | 0, i, σ => rfl
  | c + 1, i, σ => by
    rw [JK.byteL]
    by_cases h1 : K.p.has (entR v K.n.dp i) = false
    · rw [if_pos h1]
    · rw [if_neg h1]
      by_cases h2 : (K.putE σ (entR v K.n.dp i)).2.1 = 0
      · rw [if_pos h2, byteL_a K v pl c (i + 1) _, putE_a]
      · rw [if_neg h2, putE_a]
theorem next_in (K : JK) (σ : JS) (n : Nat) : (K.next σ n).1.x = σ.x ∧ (K.next σ n).1.y = σ.y ∧ σ.a ≤ (K.next σ n).1.a := by
  unfold JK.next; split
  · exact ⟨rfl, rfl, by show σ.a ≤ σ.a + n; omega⟩
  · exact ⟨rfl, rfl, Nat.le_refl _⟩
theorem plainL_in (K : JK) : ∀ (m c : Nat) (σ : JS), (K.plainL m c σ).2.1 = 0 → (K.plainL m c σ).1.x ≤ σ.x + c ∧ (K.plainL m c σ).1.y = σ.y ∧ σ.a ≤ (K.plainL m c σ).1.a
  | 0, c, σ, h => ⟨Nat.le_add_right _ _, rfl, Nat.le_refl _⟩
  | m + 1, c, σ, h => by
    rw [JK.plainL] at h ⊢
    obtain ⟨n1, n2, n3⟩ := next_in K σ 1
    by_cases h1 : (K.next σ 1).2.2 = false
    · rw [if_pos h1] at h; exact absurd h (ft_ne _ _ _)
    · rw [if_neg h1] at h ⊢
      have ha := byteL_a K (byN K.x.s σ.a) σ.a (min K.each c) 0 (K.next σ 1).1
      by_cases h2 : (K.byteL (byN K.x.s σ.a) σ.a (min K.each c) 0 (K.next σ 1).1).2.1 = 0
      · rw [if_pos h2] at h ⊢
        obtain ⟨g1, g2, g3⟩ := plainL_in K m (c - K.each) _ h
        have hb := byteL_xy' K _ _ _ _ _ h2
        refine ⟨?_, by rw [g2, hb.2, n2], by rw [ha] at g3; omega⟩
        rw [hb.1, n1] at g1; omega
      · rw [if_neg h2] at h; exact absurd h h2
theorem cmd_in (K : JK) (σ : JS) (n v a : Int) (hv : 0 ≤ v) (hx : σ.x ≤ K.n.W) (hy : σ.y ≤ K.n.H) (h : (K.cmd σ n v a).2.1 = 0) : (K.cmd σ n v a).1.x ≤ K.n.W ∧ (K.cmd σ n v a).1.y ≤ K.n.H ∧ σ.a ≤ (K.cmd σ n v a).1.a := by
  have mv : ∀ (τ : JS) (x y : Nat), (K.move τ x y a).2.1 = 0 → (K.move τ x y a).1.x ≤ K.n.W ∧ (K.move τ x y a).1.y ≤ K.n.H ∧ τ.a ≤ (K.move τ x y a).1.a := by
    intro τ x y hm
    unfold JK.move JK.ins at hm ⊢
    by_cases hh : K.n.W < x ∨ K.n.H < y
    · rw [if_pos hh] at hm; cases hm
    · exact ⟨by show x ≤ K.n.W; omega, by show y ≤ K.n.H; omega, Nat.le_refl _⟩
  unfold JK.cmd at h ⊢
  by_cases h1 : 0 < n
  · rw [if_pos h1] at h ⊢
    unfold JK.run at h ⊢
    by_cases hr : K.room σ n.toNat
    · rw [if_neg (fun hh => hh hr)] at h ⊢
      by_cases hb : K.p.has (entR v K.n.dp 0) = false ∨ K.p.has (entR v K.n.dp (if n.toNat = 1 then 0 else 1)) = false
      · rw [if_pos hb] at h; cases h
      · rw [if_neg hb] at h ⊢
        have := putsL_in K _ _ _ _ h
        unfold JK.runL
        exact ⟨by rw [this.1]; exact hr.2, by rw [this.2.1]; exact hy, by rw [this.2.2]; exact Nat.le_refl _⟩
    · rw [if_pos hr] at h; cases h
  rw [if_neg h1] at h ⊢
  by_cases h2 : v = 0
  · rw [if_pos h2] at h ⊢
    exact mv _ _ _ h
  rw [if_neg h2] at h ⊢
  by_cases h3 : v = 2
  · rw [if_pos h3] at h ⊢
    unfold JK.leap at h ⊢
    by_cases hk : (K.next σ 2).2.2 = false
    · rw [if_pos hk] at h; exact absurd h (ft_ne _ _ _)
    · rw [if_neg hk] at h ⊢
      have h4 := mv _ _ _ h
      have h5 := (next_in K σ 2).2.2
      exact ⟨h4.1, h4.2.1, by omega⟩
  rw [if_neg h3] at h ⊢
  unfold JK.plain at h ⊢
  by_cases hr : K.room σ v.toNat
  · rw [if_neg (fun hh => hh hr)] at h ⊢
    have hr2 : σ.x + v.toNat ≤ K.n.W := hr.2
    by_cases hz : (K.plainL (K.bytes v.toNat) v.toNat σ).2.1 = 0
    · rw [if_pos hz] at h ⊢
      obtain ⟨g1, g2, g3⟩ := plainL_in K _ _ _ hz
      by_cases ho : K.bytes v.toNat % 2 = 1
      · rw [if_pos ho] at h ⊢
        obtain ⟨n1, n2, n3⟩ := next_in K (K.plainL (K.bytes v.toNat) v.toNat σ).1 1
        by_cases hk : (K.next (K.plainL (K.bytes v.toNat) v.toNat σ).1 1).2.2 = false
        · rw [if_pos hk] at h; exact absurd h (ft_ne _ _ _)
        · rw [if_neg hk]
          exact ⟨by rw [n1]; exact Nat.le_trans g1 hr2, by rw [n2, g2]; exact hy, Nat.le_trans g3 n3⟩
      · rw [if_neg ho]
        exact ⟨Nat.le_trans g1 hr2, by rw [g2]; exact hy, g3⟩
    · rw [if_neg hz] at h; exact absurd h hz
  · rw [if_pos hr] at h; cases h
theorem JAt.setX {w : World} {N : Nat} {K : JK} {σ : JS} (h : JAt w N K σ) (x : Nat) : JAt (w.setCell ⟨N, 20, none⟩ (.int .i64 x)) N K ⟨x, σ.y, σ.a, σ.l, σ.d⟩ := by
  have hap := h.ap
  have hc := (Chg.refl (fun k => k = N) w).set ⟨N, 20, none⟩ (.int .i64 x) (Or.inl rfl)
  exact ⟨(Obj1.set h.pn 20 (.int .i64 x)).cells rfl, ⟨h.pr.src.chg hc (fun e => hap.a1 e.symm), h.pr.led.chg hc (fun e => hap.a2 e.symm)⟩, h.pal.chg hc (fun e => hap.a3 e.symm) (fun e => hap.a4 e.symm) (fun e => hap.a5 e.symm), h.ras.chg hc (fun e => hap.a6 e.symm) (fun e => hap.a7 e.symm) (fun e => hap.a8 e.symm), h.ap, h.op, h.rw_, h.rh⟩
theorem JAt.setY {w : World} {N : Nat} {K : JK} {σ : JS} (h : JAt w N K σ) (y : Nat) : JAt (w.setCell ⟨N, 21, none⟩ (.int .i64 y)) N K ⟨σ.x, y, σ.a, σ.l, σ.d⟩ := by
  have hap := h.ap
  have hc := (Chg.refl (fun k => k = N) w).set ⟨N, 21, none⟩ (.int .i64 y) (Or.inl rfl)
  exact ⟨(Obj1.set h.pn 21 (.int .i64 y)).cells rfl, ⟨h.pr.src.chg hc (fun e => hap.a1 e.symm), h.pr.led.chg hc (fun e => hap.a2 e.symm)⟩, h.pal.chg hc (fun e => hap.a3 e.symm) (fun e => hap.a4 e.symm) (fun e => hap.a5 e.symm), h.ras.chg hc (fun e => hap.a6 e.symm) (fun e => hap.a7 e.symm) (fun e => hap.a8 e.symm), h.ap, h.op, h.rw_, h.rh⟩
theorem JAt.setX' {w : World} {N : Nat} {K : JK} {σ : JS} (h : JAt w N K σ) (v : Int) (x : Nat) (e : v = x) : JAt (w.setCell ⟨N, 20, none⟩ (.int .i64 v)) N K ⟨x, σ.y, σ.a, σ.l, σ.d⟩ := by subst e; exact h.setX x
theorem JAt.setY' {w : World} {N : Nat} {K : JK} {σ : JS} (h : JAt w N K σ) (v : Int) (y : Nat) (e : v = y) : JAt (w.setCell ⟨N, 21, none⟩ (.int .i64 v)) N K ⟨σ.x, y, σ.a, σ.l, σ.d⟩ := by subst e; exact h.setY y
set_option maxRecDepth 100000 in
set_option maxHeartbeats 8000000 in
theorem jleap_any (N : Nat) (K : JK) (σ : JS) (a : Int) (w : World) (h : JAt w N K σ) (hx : σ.x ≤ 100000) (hy : σ.y ≤ 100000) :
    Calls Tryz.prog 83 #[.pointer (some ⟨N, 0, none⟩), .int .i64 a] w fun e w' => e = .returned (ftv K.n.f (K.leap σ a).2) ∧ JAt w' N K (K.leap σ a).1 ∧ Chg (jS N K) w w' := by
  have hC := (Chg.refl (fun _ => False) w).alloc (.cells #[.int .i64 0, .int .i64 0, .int .i64 0] 39)
  have OF := Hi (obj1_new w #[.int .i64 0, .int .i64 0, .int .i64 0] 39)
  have JA := Hi (h.keep hC)
  have CH := Hi (hC.mono (S' := jS N K) (fun _ _ h => h.elim))
  have JL := Hi h.jlt
  obtain ⟨d, hd0⟩ : ∃ d, w.heap.size = d := ⟨_, rfl⟩
  have HDe := Hi hd0
  rw [hd0] at OF JL
  obtain ⟨f, hf⟩ : ∃ f, K.n.f = f := ⟨_, rfl⟩
  have HF := Hi hf
  rw [hf]
  have HTK := Hi (fun w0 (h0 : JAt w0 N K σ) => jtake2_any N K σ w0 h0)
  have HFL := Hi (fun w0 (τ : JS) (h0 : JAt w0 N K τ) => (jfault_any N K τ w0 h0).mono (R' := fun e w' => e = .returned (.agg (fc f (K.ft τ.l τ.a)).toArray) ∧ Below w0.heap.size w0 w') fun e w' hh => by rw [hf] at hh; exact hh)
  have HFL := Hi (fun (τ : JS) w0 (h0 : JAt w0 N K τ) => HFL.out w0 τ h0)
  rw [hf] at HFL
  obtain ⟨X, hX⟩ : ∃ X, K.n.X = X := ⟨_, rfl⟩
  have HXe := Hi hX
  rw [hX] at HTK HFL
  have k0 := JA.out.cell 0 (.pointer (some ⟨X, 0, none⟩)) (by rw [← hX]; rfl)
  unfold JK.leap
  cases hok : (K.next σ 2).2.2 with
  | false =>
    rw [if_pos rfl]
    have HTK := Hi (fun w0 h0 => (HTK.out w0 h0).mono (R' := fun e w' => e = .returned (.tuple #[.string (K.next σ 2).2.1, .bool false]) ∧ JAt w' N K (K.next σ 2).1 ∧ Chg (jS N K) w0 w') fun e w' hh => by rw [hok] at hh; exact hh)
    obtain ⟨τ, hτ⟩ : ∃ τ, (K.next σ 2).1 = τ := ⟨_, rfl⟩
    rw [hτ] at HTK ⊢
    have HT := Hi hτ
    obtain ⟨F, hF⟩ : ∃ F, K.ft τ.l τ.a = F := ⟨_, rfl⟩
    have HFL := Hi (HFL.out τ)
    rw [hF] at HFL ⊢
    clear hF hτ
    clear h hC hf hX hok
    go_enter Tryz.func83, Tryz.ntmps83
    go_upto_region 3 with (first
      | ((go_at_call 66; (with_reducible refine (HTK.out _ JA.out).mono ?_); rintro e w1 ⟨rfl, hj1, hc1⟩); have JA := Hi hj1; have OF := Hi (hc1.obj OF.out (not_jS JL.out (by omega))); have CH := Hi (CH.out.trans hc1); clear hj1 hc1))
    clear hd0 k0
    have k0 := JA.out.cell 0 (.pointer (some ⟨X, 0, none⟩)) (by rw [← HXe.out]; rfl)
    have k19 := JA.out.cell 19 (.int .i64 f) (by rw [← HF.out]; rfl)
    go_still_tail 8, (by kernel_rfl)
    rw [show (⟨w1.heap, w1.tape, w1.drawn + 1, w1.os, w1.output⟩ : World) = w1.drewN 1 from rfl]
    have JA := Hi (JA.out.drewN 1)
    have CH := Hi (CH.out.drewN 1)
    have OF := Hi (OF.out.drewN 1)
    generalize w1.drewN 1 = w2 at JA CH OF ⊢
    clear k0 k19
    go_wp2_with (first
      | ((go_at_call 67; (with_reducible refine (HFL.out _ JA.out).mono ?_); rintro e w3 ⟨rfl, hb⟩); have JA := Hi (JA.out.below hb); have OF := Hi (OF.out.below hb OF.out.lt); have CH := Hi (CH.out.trans (chg_of_below hb _)); clear hb)
      | (refine store_o rfl 39 3 _ _ rfl (d) (fc f F) rfl rfl (by kernel_rfl) (by kernel_rfl) (by kernel_rfl) OF.out (by first | rfl | simp) ?_; intro ws hst hO; have OF := Hi hO; have JA := Hi (JA.out.stored JL.out hst (by omega)); have CH := Hi (Stored.chgS hst CH.out (Or.inr (by have := HDe.out; omega))); clear hst hO))
    refine bodyPost_ret (v := .agg (fc f F).toArray) ?_ rfl ⟨rfl, JA.out, CH.out⟩
    exact results_c Tryz.results83 _ _ _ (fc f F) _ rfl OF.out.range0 Tryz.underlying39 rfl (by kernel_rfl)
  | true =>
    rw [if_neg (fun hh => by cases hh)]
    have HTK := Hi (fun w0 h0 => (HTK.out w0 h0).mono (R' := fun e w' => e = .returned (.tuple #[.string (K.next σ 2).2.1, .bool true]) ∧ JAt w' N K (K.next σ 2).1 ∧ Chg (jS N K) w0 w') fun e w' hh => by rw [hok] at hh; exact hh)
    obtain ⟨e1, e2, e3, e4, e5, e6⟩ := jnext_str h 2 hok
    have v0 := byN_bd K.x.s σ.a
    have v1 := byN_bd K.x.s (σ.a + 1)
    obtain ⟨b0, hb0⟩ : ∃ b, byN K.x.s σ.a = b := ⟨_, rfl⟩
    obtain ⟨b1, hb1⟩ : ∃ b, byN K.x.s (σ.a + 1) = b := ⟨_, rfl⟩
    have g0 := e2 0 (by decide)
    have g1 := e2 1 (by decide)
    rw [Nat.add_zero] at g0
    rw [hb0] at v0 g0 ⊢
    rw [hb1] at v1 g1 ⊢
    obtain ⟨S, hS⟩ : ∃ S, (K.next σ 2).2.1 = S := ⟨_, rfl⟩
    rw [hS] at e1 g0 g1 HTK
    obtain ⟨τ, hτ⟩ : ∃ τ, (K.next σ 2).1 = τ := ⟨_, rfl⟩
    rw [hτ] at HTK e3 e4 ⊢
    have i0 : 0 < S.size := by omega
    have i1 : 1 < S.size := by omega
    have q0 : ((S[0]).toNat : Int) = b0 := by rw [← g0]; exact byN_get S 0 i0
    have q1 : ((S[1]).toNat : Int) = b1 := by rw [← g1]; exact byN_get S 1 i1
    obtain ⟨px, hpx⟩ : ∃ v, σ.x = v := ⟨_, rfl⟩
    obtain ⟨py, hpy⟩ : ∃ v, σ.y = v := ⟨_, rfl⟩
    rw [hpx] at hx e3 ⊢
    rw [hpy] at hy e4 ⊢
    have E3 := Hi e3
    have E4 := Hi e4
    obtain ⟨nx, hnx⟩ : ∃ v : Int, (px : Int) + b0 = v := ⟨_, rfl⟩
    obtain ⟨ny, hny⟩ : ∃ v : Int, (py : Int) + b1 = v := ⟨_, rfl⟩
    have HNX := Hi (show nx = ((px + b0.toNat : Nat) : Int) by omega)
    have HNY := Hi (show ny = ((py + b1.toNat : Nat) : Int) by omega)
    have u0 : IntKind.i64.wrap ((px : Int) + b0) = nx := (i64_wraps _ (by omega) (by omega)).trans hnx
    have u1 : IntKind.i64.wrap ((py : Int) + b1) = ny := (i64_wraps _ (by omega) (by omega)).trans hny
    have U1 := Hi u1
    have z0 : IntKind.i64.wrap b0 = b0 := i64_wraps _ (by omega) (by omega)
    have z1 : IntKind.i64.wrap b1 = b1 := i64_wraps _ (by omega) (by omega)
    have QQ1 := Hi q1
    have Z1 := Hi z1
    obtain ⟨υ, hυ⟩ : ∃ υ : JS, (⟨px + b0.toNat, py + b1.toNat, τ.a, τ.l, τ.d⟩ : JS) = υ := ⟨_, rfl⟩
    have HU := Hi hυ
    have HIN := Hi (fun w0 (h0 : JAt w0 N K υ) => (jinside_any N K υ a w0 h0).mono (R' := fun e w' => e = .returned (.agg (fc f (K.ins υ a)).toArray) ∧ Chg (fun _ => False) w0 w') fun e w' hh => by rw [hf] at hh; exact hh)
    unfold JK.move
    rw [hυ]
    obtain ⟨F, hF⟩ : ∃ F, K.ins υ a = F := ⟨_, rfl⟩
    rw [hF] at HIN ⊢
    clear h hC hf hX hok e1 e2 e3 e4 e5 e6 g0 g1 hb0 hb1 hS hτ hpx hpy hnx hny u1 z1 q1 hυ hF
    go_enter Tryz.func83, Tryz.ntmps83
    go_upto_region 4 with (first
      | ((go_at_call 66; (with_reducible refine (HTK.out _ JA.out).mono ?_); rintro e w1 ⟨rfl, hj1, hc1⟩); have JA := Hi hj1; have OF := Hi (hc1.obj OF.out (not_jS JL.out (by omega))); have CH := Hi (CH.out.trans hc1); clear hj1 hc1))
    clear hd0 k0
    have k20 := JA.out.cell 20 (.int .i64 px) (by show some (Value.int .i64 ((τ.x : Nat) : Int)) = _; rw [E3.out])
    have f20 := Obj1.frozen JA.out.pn 20
    go_still_tail 8, (by kernel_rfl)
    rw [show (⟨w1.heap, w1.tape, w1.drawn + 1, w1.os, w1.output⟩ : World) = w1.drewN 1 from rfl]
    have JA := Hi (JA.out.drewN 1)
    have CH := Hi (CH.out.drewN 1)
    have OF := Hi (OF.out.drewN 1)
    generalize w1.drewN 1 = w2 at JA CH OF ⊢
    clear k20 f20
    have k20 := JA.out.cell 20 (.int .i64 px) (by show some (Value.int .i64 ((τ.x : Nat) : Int)) = _; rw [E3.out])
    have f20 := Obj1.frozen JA.out.pn 20
    go_upto_region 5 with (fail)
    have JA := Hi (JA.out.setX' nx (px + b0.toNat) HNX.out)
    have OF := Hi (OF.out.set_other ⟨N, 20, none⟩ (.int .i64 nx) (show ¬ d = N by have := JL.out.n; omega))
    have CH := Hi (CH.out.set ⟨N, 20, none⟩ (.int .i64 nx) (Or.inl (Or.inl rfl)))
    generalize World.setCell _ _ _ = w3 at JA OF CH ⊢
    clear k20 f20 u0 q0 z0
    have u1 := U1.out
    have q1 := QQ1.out
    have z1 := Z1.out
    have j1 : (1 : Int) < (S.size : Int) := by omega
    have k21 := JA.out.cell 21 (.int .i64 py) (by show some (Value.int .i64 ((τ.y : Nat) : Int)) = _; rw [E4.out])
    have f21 := Obj1.frozen JA.out.pn 21
    go_still_tail 8, (by kernel_rfl)
    rw [show (⟨w3.heap, w3.tape, w3.drawn + 1, w3.os, w3.output⟩ : World) = w3.drewN 1 from rfl]
    have JA := Hi (JA.out.drewN 1)
    have CH := Hi (CH.out.drewN 1)
    have OF := Hi (OF.out.drewN 1)
    generalize w3.drewN 1 = w4 at JA CH OF ⊢
    clear k21 f21
    have k21 := JA.out.cell 21 (.int .i64 py) (by show some (Value.int .i64 ((τ.y : Nat) : Int)) = _; rw [E4.out])
    have f21 := Obj1.frozen JA.out.pn 21
    go_upto_region 6 with (fail)
    have JA := Hi (JA.out.setY' ny (py + b1.toNat) HNY.out)
    have OF := Hi (OF.out.set_other ⟨N, 21, none⟩ (.int .i64 ny) (show ¬ d = N by have := JL.out.n; omega))
    have CH := Hi (CH.out.set ⟨N, 21, none⟩ (.int .i64 ny) (Or.inl (Or.inl rfl)))
    generalize World.setCell _ _ _ = w5 at JA OF CH ⊢
    clear k21 f21 u1 q1 z1
    have JA := Hi (show JAt w5 N K υ by rw [← HU.out]; exact JA.out)
    go_wp2_with (first
      | ((go_at_call 82; (with_reducible refine (HIN.out _ JA.out).mono ?_); rintro e w6 ⟨rfl, hc⟩); have JA := Hi (JA.out.keep hc); have OF := Hi (hc.obj OF.out (fun h => h)); have CH := Hi (CH.out.trans (hc.mono (fun _ _ h => h.elim))); clear hc)
      | (refine store_o rfl 39 3 _ _ rfl (d) (fc f F) rfl rfl (by kernel_rfl) (by kernel_rfl) (by kernel_rfl) OF.out (by first | rfl | simp) ?_; intro ws hst hO; have OF := Hi hO; have JA := Hi (JA.out.stored JL.out hst (by omega)); have CH := Hi (Stored.chgS hst CH.out (Or.inr (by have := HDe.out; omega))); clear hst hO))
    refine bodyPost_ret (v := .agg (fc f F).toArray) ?_ rfl ⟨rfl, JA.out, CH.out⟩
    exact results_c Tryz.results83 _ _ _ (fc f F) _ rfl OF.out.range0 Tryz.underlying39 rfl (by kernel_rfl)
end Go.Proofs.YtlfbaggcfaenlaaGreat

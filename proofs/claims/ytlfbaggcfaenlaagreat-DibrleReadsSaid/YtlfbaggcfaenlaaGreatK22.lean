/- dibrle: a painter as an object; wrong, room, inside; walked. -/
import Derived.Test.YtlfbaggcfaenlaaGreatK21
import Derived.Test.YtlfbaggcfaenlaaGreatK0
namespace Go.Proofs.YtlfbaggcfaenlaaGreat
open Go.RowKit
set_option linter.unusedVariables false
set_option linter.unusedSimpArgs false
structure Pn where
  X : Nat
  P : Nat
  R : Nat
  W : Nat
  H : Nat
  dp : Int
  f : Int
  x : Nat
  y : Nat
  q : Nat → Value
def Pn.cells (n : Pn) : List Value := [.pointer (some ⟨n.X, 0, none⟩), n.q 0, .int .i64 n.W, .int .i64 n.H, n.q 1, .int .i64 n.dp, n.q 2, n.q 3, n.q 4, n.q 5, n.q 6, n.q 7, n.q 8, n.q 9, n.q 10, n.q 11, n.q 12, .pointer (some ⟨n.P, 0, none⟩), .pointer (some ⟨n.R, 0, none⟩), .int .i64 n.f, .int .i64 n.x, .int .i64 n.y]
abbrev PnAt (w : World) (N : Nat) (n : Pn) : Prop := Obj1 w N n.cells.toArray 159
def flt (k f a : Int) : Value := .agg #[.int .i64 k, .int .i64 f, .int .i64 a]
set_option maxRecDepth 100000 in
theorem pwrong_any (N : Nat) (n : Pn) (at_ : Int) (w : World) (h : PnAt w N n) : Calls Tryz.prog 154 #[.pointer (some ⟨N, 0, none⟩), .int .i64 at_] w fun e w' => e = .returned (flt 2 n.f at_) ∧ Below w.heap.size w w' := by
  have h1 := h.alloc (.cells #[.int .i64 0, .int .i64 0, .int .i64 0] 39)
  have k19 := (h1.cell 19).trans (show _ = some (.int .i64 n.f) from rfl)
  have OF := Hi (obj1_new w #[.int .i64 0, .int .i64 0, .int .i64 0] 39)
  have BL := Hi ((Below.refl w.heap.size w).alloc (Nat.le_refl _) (.cells #[.int .i64 0, .int .i64 0, .int .i64 0] 39))
  obtain ⟨f, hf⟩ : ∃ f, n.f = f := ⟨_, rfl⟩
  rw [hf] at k19 ⊢
  clear h h1 hf
  go_enter Tryz.func154, Tryz.ntmps154
  go_wp2_with (refine store_o rfl 39 3 _ _ rfl w.heap.size [.int .i64 2, .int .i64 f, .int .i64 at_] rfl rfl (by kernel_rfl) (by kernel_rfl) (by kernel_rfl) OF.out (by first | rfl | simp) ?_; intro ws hst hO; have OF := Hi hO; have BL := Hi (hst.below BL.out (Nat.le_refl _)); clear hst hO)
  refine bodyPost_ret (v := .agg (List.toArray [.int .i64 2, .int .i64 f, .int .i64 at_])) ?_ rfl ⟨rfl, BL.out⟩
  exact results_c Tryz.results154 _ _ _ [.int .i64 2, .int .i64 f, .int .i64 at_] _ rfl OF.out.range0 Tryz.underlying39 rfl (by kernel_rfl)
set_option maxRecDepth 100000 in
set_option maxHeartbeats 4000000 in
theorem proom_any (N : Nat) (n : Pn) (c : Int) (w : World) (h : PnAt w N n) (hx : n.x ≤ n.W) (hw : n.W ≤ 16384) : Calls Tryz.prog 153 #[.pointer (some ⟨N, 0, none⟩), .int .i64 c] w fun e w' => e = .returned (.bool (decide (n.y < n.H ∧ c ≤ (n.W : Int) - n.x))) ∧ Chg (fun _ => False) w w' := by
  have k21 := (h.cell 21).trans (show _ = some (.int .i64 (n.y : Int)) from rfl)
  have k20 := (h.cell 20).trans (show _ = some (.int .i64 (n.x : Int)) from rfl)
  have k2 := (h.cell 2).trans (show _ = some (.int .i64 (n.W : Int)) from rfl)
  have k3 := (h.cell 3).trans (show _ = some (.int .i64 (n.H : Int)) from rfl)
  obtain ⟨y, hy⟩ : ∃ y, n.y = y := ⟨_, rfl⟩
  obtain ⟨x, hxx⟩ : ∃ y, n.x = y := ⟨_, rfl⟩
  obtain ⟨W, hW⟩ : ∃ y, n.W = y := ⟨_, rfl⟩
  obtain ⟨H, hH⟩ : ∃ y, n.H = y := ⟨_, rfl⟩
  rw [hy] at k21 ⊢
  rw [hxx] at k20 hx ⊢
  rw [hW] at k2 hx hw ⊢
  rw [hH] at k3 ⊢
  clear h hy hxx hW hH
  rcases (show ¬ y < H ∨ (y < H ∧ ¬ c ≤ (W : Int) - x) ∨ (y < H ∧ c ≤ (W : Int) - x) by omega) with h1 | ⟨h1, h2⟩ | ⟨h1, h2⟩
  · have E := Hi (show decide (y < H ∧ c ≤ (W : Int) - x) = false by rw [decide_eq_false_iff_not]; omega)
    rw [E.out]
    go_enter Tryz.func153, Tryz.ntmps153
    go_upto_region 1 with (fail)
    go_quiet (fail)
    go_wp2_with fail
    go_ret
    exact ⟨rfl, (Chg.refl _ _).drewN _⟩
  · have E := Hi (show decide (y < H ∧ c ≤ (W : Int) - x) = false by rw [decide_eq_false_iff_not]; omega)
    rw [E.out]
    go_enter Tryz.func153, Tryz.ntmps153
    go_upto_region 1 with (fail)
    go_quiet (fail)
    go_wp2_with fail
    go_ret
    exact ⟨rfl, (Chg.refl _ _).drewN _⟩
  · have E := Hi (show decide (y < H ∧ c ≤ (W : Int) - x) = true by rw [decide_eq_true_iff]; omega)
    rw [E.out]
    go_enter Tryz.func153, Tryz.ntmps153
    go_upto_region 1 with (fail)
    go_quiet (fail)
    go_wp2_with fail
    go_ret
    exact ⟨rfl, (Chg.refl _ _).drewN _⟩
set_option maxRecDepth 100000 in
set_option maxHeartbeats 4000000 in
theorem pinside_any (N : Nat) (n : Pn) (at_ : Int) (w : World) (h : PnAt w N n) : Calls Tryz.prog 82 #[.pointer (some ⟨N, 0, none⟩), .int .i64 at_] w fun e w' => e = .returned (if n.W < n.x ∨ n.H < n.y then flt 2 n.f at_ else flt 0 0 0) ∧ Chg (fun _ => False) w w' := by
  have hC := (Chg.refl (fun _ => False) w).alloc (.cells #[.int .i64 0, .int .i64 0, .int .i64 0] 39)
  have h1 := h.alloc (.cells #[.int .i64 0, .int .i64 0, .int .i64 0] 39)
  have k21 := (h1.cell 21).trans (show _ = some (.int .i64 (n.y : Int)) from rfl)
  have k20 := (h1.cell 20).trans (show _ = some (.int .i64 (n.x : Int)) from rfl)
  have k2 := (h1.cell 2).trans (show _ = some (.int .i64 (n.W : Int)) from rfl)
  have k3 := (h1.cell 3).trans (show _ = some (.int .i64 (n.H : Int)) from rfl)
  have HN := Hi h1
  have CH := Hi hC
  have OF := Hi (obj1_new w #[.int .i64 0, .int .i64 0, .int .i64 0] 39)
  obtain ⟨d, hd⟩ : ∃ d, w.heap.size = d := ⟨_, rfl⟩
  have HDe := Hi hd
  rw [hd] at OF
  obtain ⟨y, hy⟩ : ∃ y, n.y = y := ⟨_, rfl⟩
  obtain ⟨x, hxx⟩ : ∃ y, n.x = y := ⟨_, rfl⟩
  obtain ⟨W, hW⟩ : ∃ y, n.W = y := ⟨_, rfl⟩
  obtain ⟨H, hH⟩ : ∃ y, n.H = y := ⟨_, rfl⟩
  obtain ⟨f, hf⟩ : ∃ f, n.f = f := ⟨_, rfl⟩
  have HW := Hi (fun w0 (h0 : PnAt w0 N n) => (pwrong_any N n at_ w0 h0).mono (R' := fun e w' => e = .returned (.agg (List.toArray [.int .i64 2, .int .i64 f, .int .i64 at_])) ∧ Below w0.heap.size w0 w') fun e w' hh => by unfold flt at hh; rw [hf] at hh; exact hh)
  rw [hy] at k21 ⊢
  rw [hxx] at k20 ⊢
  rw [hW] at k2 ⊢
  rw [hH] at k3 ⊢
  rw [hf]
  obtain ⟨V, hV⟩ : ∃ V, (if W < x ∨ H < y then flt 2 f at_ else flt 0 0 0) = V := ⟨_, rfl⟩
  rw [hV]
  clear h h1 hy hxx hW hH hC hf
  rcases (show W < x ∨ (¬ W < x ∧ H < y) ∨ (¬ W < x ∧ ¬ H < y) by omega) with h1 | ⟨h1, h2⟩ | ⟨h1, h2⟩
  · have HE := Hi (show V = flt 2 f at_ by rw [← hV, if_pos (Or.inl h1)])
    clear hV
    go_enter Tryz.func82, Tryz.ntmps82
    go_upto_region 1 with (fail)
    generalize World.alloc _ _ = wr at OF CH HN k20 k21 k2 k3 ⊢
    go_quiet (fail)
    have OF := Hi (OF.out.drewN nq)
    have CH := Hi (CH.out.drewN nq)
    have HN := Hi (HN.out.drewN nq)
    generalize wr.drewN nq = wv at OF CH HN ⊢
    clear k20 k21 k2 k3
    go_wp2_with (first
      | ((with_reducible refine skip_g rfl ?_ ?_); rfl; intro _)
      | ((go_at_call 154; (with_reducible refine (HW.out _ HN.out).mono ?_); rintro e w2 ⟨rfl, hb⟩); have OF := Hi (OF.out.below hb OF.out.lt); have CH := Hi (CH.out.trans (chg_of_below hb _)); clear hb)
      | (refine store_o rfl 39 3 _ _ rfl d [.int .i64 2, .int .i64 f, .int .i64 at_] rfl rfl (by kernel_rfl) (by kernel_rfl) (by kernel_rfl) OF.out (by first | rfl | simp) ?_; intro ws hst hO; have OF := Hi hO; have CH := Hi (Stored.chgS hst CH.out (Or.inr (by have := HDe.out; omega))); clear hst hO))
    refine bodyPost_ret (v := .agg (List.toArray [.int .i64 2, .int .i64 f, .int .i64 at_])) ?_ rfl ⟨by rw [HE.out]; rfl, CH.out⟩
    exact results_c Tryz.results82 _ _ _ [.int .i64 2, .int .i64 f, .int .i64 at_] _ rfl OF.out.range0 Tryz.underlying39 rfl (by kernel_rfl)
  · have HE := Hi (show V = flt 2 f at_ by rw [← hV, if_pos (Or.inr h2)])
    clear hV
    go_enter Tryz.func82, Tryz.ntmps82
    go_upto_region 1 with (fail)
    generalize World.alloc _ _ = wr at OF CH HN k20 k21 k2 k3 ⊢
    go_quiet (fail)
    have OF := Hi (OF.out.drewN nq)
    have CH := Hi (CH.out.drewN nq)
    have HN := Hi (HN.out.drewN nq)
    generalize wr.drewN nq = wv at OF CH HN ⊢
    clear k20 k21 k2 k3
    go_wp2_with (first
      | ((with_reducible refine skip_g rfl ?_ ?_); rfl; intro _)
      | ((go_at_call 154; (with_reducible refine (HW.out _ HN.out).mono ?_); rintro e w2 ⟨rfl, hb⟩); have OF := Hi (OF.out.below hb OF.out.lt); have CH := Hi (CH.out.trans (chg_of_below hb _)); clear hb)
      | (refine store_o rfl 39 3 _ _ rfl d [.int .i64 2, .int .i64 f, .int .i64 at_] rfl rfl (by kernel_rfl) (by kernel_rfl) (by kernel_rfl) OF.out (by first | rfl | simp) ?_; intro ws hst hO; have OF := Hi hO; have CH := Hi (Stored.chgS hst CH.out (Or.inr (by have := HDe.out; omega))); clear hst hO))
    refine bodyPost_ret (v := .agg (List.toArray [.int .i64 2, .int .i64 f, .int .i64 at_])) ?_ rfl ⟨by rw [HE.out]; rfl, CH.out⟩
    exact results_c Tryz.results82 _ _ _ [.int .i64 2, .int .i64 f, .int .i64 at_] _ rfl OF.out.range0 Tryz.underlying39 rfl (by kernel_rfl)
  · have HE := Hi (show V = flt 0 0 0 by rw [← hV, if_neg (by omega)])
    clear hV
    go_enter Tryz.func82, Tryz.ntmps82
    go_upto_region 1 with (fail)
    generalize World.alloc _ _ = wr at OF CH HN k20 k21 k2 k3 ⊢
    go_quiet (fail)
    have OF := Hi (OF.out.drewN nq)
    have CH := Hi (CH.out.drewN nq)
    have HN := Hi (HN.out.drewN nq)
    generalize wr.drewN nq = wv at OF CH HN ⊢
    clear k20 k21 k2 k3
    go_wp2_with (first
      | ((with_reducible refine skip_g rfl ?_ ?_); rfl; intro _)
      | (refine store_o rfl 39 3 _ _ rfl d [.int .i64 0, .int .i64 0, .int .i64 0] rfl rfl (by kernel_rfl) (by kernel_rfl) (by kernel_rfl) OF.out (by first | rfl | simp) ?_; intro ws hst hO; have OF := Hi hO; have CH := Hi (Stored.chgS hst CH.out (Or.inr (by have := HDe.out; omega))); clear hst hO))
    refine bodyPost_ret (v := .agg (List.toArray [.int .i64 0, .int .i64 0, .int .i64 0])) ?_ rfl ⟨by rw [HE.out]; rfl, CH.out⟩
    exact results_c Tryz.results82 _ _ _ [.int .i64 0, .int .i64 0, .int .i64 0] _ rfl OF.out.range0 Tryz.underlying39 rfl (by kernel_rfl)
end Go.Proofs.YtlfbaggcfaenlaaGreat

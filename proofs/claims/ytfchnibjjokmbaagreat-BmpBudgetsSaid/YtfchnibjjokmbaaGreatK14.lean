/- Parts. -/
import Derived.Test.YtfchnibjjokmbaaGreatK13
import Derived.Lib.ConvBytes
import Derived.Lib.AppendStr
import Derived.Laws.EntriesVeiled
set_option linter.all false
set_option maxRecDepth 100000
set_option maxHeartbeats 16000000
open Go.Value renaming int → J, pointer → Y
open Go.IntKind renaming i64 → I, u8 → U
namespace Go.Proofs.YtfchnibjjokmbaaGreat
open Go.RowKit
structure Pn where
 X : Nat
 P : Nat
 R : Nat
 W : Nat
 H : Nat
 dp : Int
 f : Int
 x : Nat
 y : Nat
 q : Nat → Value
def Pn.cells (n : Pn) : List Value := [Y (some ⟨n.X, 0, none⟩), n.q 0, J I n.W, J I n.H, n.q 1, J I n.dp, n.q 2, n.q 3, n.q 4, n.q 5, n.q 6, n.q 7, n.q 8, n.q 9, n.q 10, n.q 11, n.q 12, Y (some ⟨n.P, 0, none⟩), Y (some ⟨n.R, 0, none⟩), J I n.f, J I n.x, J I n.y]
abbrev PnAt (w : World) (N : Nat) (n : Pn) : Prop := Obj1 w N n.cells.toArray 231
def flt (k f a : Int) : Value := .agg #[J I k, J I f, J I a]
theorem pwrong_any (N : Nat) (n : Pn) (at_ : Int) (w : World) (h : PnAt w N n) : Calls Tryz.prog 186 #[Y (some ⟨N, 0, none⟩), J I at_] w fun e w' => e = .returned (flt 2 n.f at_) ∧ Below w.heap.size w w' := by
 have h1 := h.alloc (.cells #[J I 0, J I 0, J I 0] 31)
 have k19 := (h1.cell 19).trans (show _ = some (J I n.f) from rfl)
 have OF := Hi (aA w #[J I 0, J I 0, J I 0] 31)
 have BL := Hi ((Below.refl w.heap.size w).alloc (Nat.le_refl _) (.cells #[J I 0, J I 0, J I 0] 31))
 obtain ⟨f, hf⟩ : ∃ f, n.f = f := ⟨_, rfl⟩
 rw [hf] at k19 ⊢
 clear h h1 hf
 go_enter Tryz.func186, Tryz.ntmps186
 go_wp2_with (refine so 31 3 w.heap.size [J I 2, J I f, J I at_] OF.out ?_; intro ws hst hO; have OF := Hi hO; have BL := Hi (hst.below BL.out (Nat.le_refl _)); clear hst hO)
 refine bodyPost_ret (v := .agg (List.toArray [J I 2, J I f, J I at_])) ?_ rfl ⟨rfl, BL.out⟩
 exact aD Tryz.results186 _ _ _ [J I 2, J I f, J I at_] _ rfl OF.out.range0 Tryz.underlying31 rfl (by kernel_rfl)
theorem proom_any (N : Nat) (n : Pn) (c : Int) (w : World) (h : PnAt w N n) (hx : n.x ≤ n.W) (hw : n.W ≤ 16384) : Calls Tryz.prog 185 #[Y (some ⟨N, 0, none⟩), J I c] w fun e w' => e = .returned (.bool (decide (n.y < n.H ∧ c ≤ (n.W : Int) - n.x))) ∧ Chg (fun _ => False) w w' := by
 have k21 := (h.cell 21).trans (show _ = some (J I (n.y : Int)) from rfl)
 have k20 := (h.cell 20).trans (show _ = some (J I (n.x : Int)) from rfl)
 have k2 := (h.cell 2).trans (show _ = some (J I (n.W : Int)) from rfl)
 have k3 := (h.cell 3).trans (show _ = some (J I (n.H : Int)) from rfl)
 obtain ⟨y, hy⟩ : ∃ y, n.y = y := ⟨_, rfl⟩
 obtain ⟨x, hxx⟩ : ∃ y, n.x = y := ⟨_, rfl⟩
 obtain ⟨W, hW⟩ : ∃ y, n.W = y := ⟨_, rfl⟩
 obtain ⟨H, hH⟩ : ∃ y, n.H = y := ⟨_, rfl⟩
 rw [hy] at k21 ⊢
 rw [hxx] at k20 hx ⊢
 rw [hW] at k2 hx hw ⊢
 rw [hH] at k3 ⊢
 clear h hy hxx hW hH
 rcases (show ¬ y < H ∨ (y < H ∧ ¬ c ≤ (W : Int) - x) ∨ (y < H ∧ c ≤ (W : Int) - x) by omega) with h1 | ⟨h1, h2⟩ | ⟨h1, h2⟩
 · have E := Hi (show decide (y < H ∧ c ≤ (W : Int) - x) = false by rw [decide_eq_false_iff_not]; omega)
   rw [E.out]
   go_enter Tryz.func185, Tryz.ntmps185
   go_upto_region 1 with (fail)
   go_quiet (fail)
   go_wp2_with fail
   go_ret
   exact ⟨rfl, (Chg.refl _ _).drewN _⟩
 · have E := Hi (show decide (y < H ∧ c ≤ (W : Int) - x) = false by rw [decide_eq_false_iff_not]; omega)
   rw [E.out]
   go_enter Tryz.func185, Tryz.ntmps185
   go_upto_region 1 with (fail)
   go_quiet (fail)
   go_wp2_with fail
   go_ret
   exact ⟨rfl, (Chg.refl _ _).drewN _⟩
 · have E := Hi (show decide (y < H ∧ c ≤ (W : Int) - x) = true by rw [decide_eq_true_iff]; omega)
   rw [E.out]
   go_enter Tryz.func185, Tryz.ntmps185
   go_upto_region 1 with (fail)
   go_quiet (fail)
   go_wp2_with fail
   go_ret
   exact ⟨rfl, (Chg.refl _ _).drewN _⟩
theorem pinside_any (N : Nat) (n : Pn) (at_ : Int) (w : World) (h : PnAt w N n) : Calls Tryz.prog 151 #[Y (some ⟨N, 0, none⟩), J I at_] w fun e w' => e = .returned (if n.W < n.x ∨ n.H < n.y then flt 2 n.f at_ else flt 0 0 0) ∧ Chg (fun _ => False) w w' := by
 have hC := (Chg.refl (fun _ => False) w).alloc (.cells #[J I 0, J I 0, J I 0] 31)
 have h1 := h.alloc (.cells #[J I 0, J I 0, J I 0] 31)
 have k21 := (h1.cell 21).trans (show _ = some (J I (n.y : Int)) from rfl)
 have k20 := (h1.cell 20).trans (show _ = some (J I (n.x : Int)) from rfl)
 have k2 := (h1.cell 2).trans (show _ = some (J I (n.W : Int)) from rfl)
 have k3 := (h1.cell 3).trans (show _ = some (J I (n.H : Int)) from rfl)
 have HN := Hi h1
 have CH := Hi hC
 have OF := Hi (aA w #[J I 0, J I 0, J I 0] 31)
 obtain ⟨d, hd⟩ : ∃ d, w.heap.size = d := ⟨_, rfl⟩
 have HDe := Hi hd
 rw [hd] at OF
 obtain ⟨y, hy⟩ : ∃ y, n.y = y := ⟨_, rfl⟩
 obtain ⟨x, hxx⟩ : ∃ y, n.x = y := ⟨_, rfl⟩
 obtain ⟨W, hW⟩ : ∃ y, n.W = y := ⟨_, rfl⟩
 obtain ⟨H, hH⟩ : ∃ y, n.H = y := ⟨_, rfl⟩
 obtain ⟨f, hf⟩ : ∃ f, n.f = f := ⟨_, rfl⟩
 have HW := Hi (fun w0 (h0 : PnAt w0 N n) => (pwrong_any N n at_ w0 h0).mono (R' := fun e w' => e = .returned (.agg (List.toArray [J I 2, J I f, J I at_])) ∧ Below w0.heap.size w0 w') fun e w' hh => by unfold flt at hh; rw [hf] at hh; exact hh)
 rw [hy] at k21 ⊢
 rw [hxx] at k20 ⊢
 rw [hW] at k2 ⊢
 rw [hH] at k3 ⊢
 rw [hf]
 obtain ⟨V, hV⟩ : ∃ V, (if W < x ∨ H < y then flt 2 f at_ else flt 0 0 0) = V := ⟨_, rfl⟩
 rw [hV]
 clear h h1 hy hxx hW hH hC hf
 rcases (show W < x ∨ (¬ W < x ∧ H < y) ∨ (¬ W < x ∧ ¬ H < y) by omega) with h1 | ⟨h1, h2⟩ | ⟨h1, h2⟩
 · have HE := Hi (show V = flt 2 f at_ by rw [← hV, if_pos (Or.inl h1)])
   clear hV
   go_enter Tryz.func151, Tryz.ntmps151
   go_upto_region 1 with (fail)
   generalize World.alloc _ _ = wr at OF CH HN k20 k21 k2 k3 ⊢
   go_quiet (fail)
   have OF := Hi (OF.out.drewN nq)
   have CH := Hi (CH.out.drewN nq)
   have HN := Hi (HN.out.drewN nq)
   generalize wr.drewN nq = wv at OF CH HN ⊢
   clear k20 k21 k2 k3
   go_wp2_with (first
    | ((with_reducible refine aE rfl ?_ ?_); rfl; intro _)
    | ((go_at_call 186; (with_reducible refine (HW.out _ HN.out).mono ?_); rintro e w2 ⟨rfl, hb⟩); have OF := Hi (OF.out.below hb OF.out.lt); have CH := Hi (CH.out.trans (aB hb _)); clear hb)
    | (refine so 31 3 d [J I 2, J I f, J I at_] OF.out ?_; intro ws hst hO; have OF := Hi hO; have CH := Hi (Stored.chgS hst CH.out (Or.inr (by have := HDe.out; omega))); clear hst hO))
   refine bodyPost_ret (v := .agg (List.toArray [J I 2, J I f, J I at_])) ?_ rfl ⟨by rw [HE.out]; rfl, CH.out⟩
   exact aD Tryz.results151 _ _ _ [J I 2, J I f, J I at_] _ rfl OF.out.range0 Tryz.underlying31 rfl (by kernel_rfl)
 · have HE := Hi (show V = flt 2 f at_ by rw [← hV, if_pos (Or.inr h2)])
   clear hV
   go_enter Tryz.func151, Tryz.ntmps151
   go_upto_region 1 with (fail)
   generalize World.alloc _ _ = wr at OF CH HN k20 k21 k2 k3 ⊢
   go_quiet (fail)
   have OF := Hi (OF.out.drewN nq)
   have CH := Hi (CH.out.drewN nq)
   have HN := Hi (HN.out.drewN nq)
   generalize wr.drewN nq = wv at OF CH HN ⊢
   clear k20 k21 k2 k3
   go_wp2_with (first
    | ((with_reducible refine aE rfl ?_ ?_); rfl; intro _)
    | ((go_at_call 186; (with_reducible refine (HW.out _ HN.out).mono ?_); rintro e w2 ⟨rfl, hb⟩); have OF := Hi (OF.out.below hb OF.out.lt); have CH := Hi (CH.out.trans (aB hb _)); clear hb)
    | (refine so 31 3 d [J I 2, J I f, J I at_] OF.out ?_; intro ws hst hO; have OF := Hi hO; have CH := Hi (Stored.chgS hst CH.out (Or.inr (by have := HDe.out; omega))); clear hst hO))
   refine bodyPost_ret (v := .agg (List.toArray [J I 2, J I f, J I at_])) ?_ rfl ⟨by rw [HE.out]; rfl, CH.out⟩
   exact aD Tryz.results151 _ _ _ [J I 2, J I f, J I at_] _ rfl OF.out.range0 Tryz.underlying31 rfl (by kernel_rfl)
 · have HE := Hi (show V = flt 0 0 0 by rw [← hV, if_neg (by omega)])
   clear hV
   go_enter Tryz.func151, Tryz.ntmps151
   go_upto_region 1 with (fail)
   generalize World.alloc _ _ = wr at OF CH HN k20 k21 k2 k3 ⊢
   go_quiet (fail)
   have OF := Hi (OF.out.drewN nq)
   have CH := Hi (CH.out.drewN nq)
   have HN := Hi (HN.out.drewN nq)
   generalize wr.drewN nq = wv at OF CH HN ⊢
   clear k20 k21 k2 k3
   go_wp2_with (first
    | ((with_reducible refine aE rfl ?_ ?_); rfl; intro _)
    | (refine so 31 3 d [J I 0, J I 0, J I 0] OF.out ?_; intro ws hst hO; have OF := Hi hO; have CH := Hi (Stored.chgS hst CH.out (Or.inr (by have := HDe.out; omega))); clear hst hO))
   refine bodyPost_ret (v := .agg (List.toArray [J I 0, J I 0, J I 0])) ?_ rfl ⟨by rw [HE.out]; rfl, CH.out⟩
   exact aD Tryz.results151 _ _ _ [J I 0, J I 0, J I 0] _ rfl OF.out.range0 Tryz.underlying31 rfl (by kernel_rfl)
theorem range_chgU {S : Nat → Prop} {w w' : World} {b o : Nat} {L : List Value} (h : w.rangeAt b o L) (hc : Chg S w w') (hlt : b < w.heap.size) (hn : ¬ S b) : w'.rangeAt b o L := fun j v hv => (hc.cell hlt hn).trans (h j v hv)
structure PnApart (N : Nat) (n : Pn) (x : Sr) (p : Pal) (r : Ras) : Prop where
 rl : r.L = x.L
 a1 : N ≠ n.X
 a2 : N ≠ x.L
 a3 : N ≠ n.P
 a4 : N ≠ p.B
 a5 : N ≠ p.b.g
 a6 : N ≠ n.R
 a7 : N ≠ r.B
 a8 : N ≠ r.b.g
 b1 : n.X ≠ r.b.g
 b2 : n.P ≠ r.b.g
 b3 : p.B ≠ r.b.g
 b4 : p.b.g ≠ r.b.g
 c1 : n.P ≠ x.L
 c2 : p.B ≠ x.L
 c3 : p.b.g ≠ x.L
 d1 : n.P ≠ n.X
 d2 : p.B ≠ n.X
 d3 : p.b.g ≠ n.X
 e1 : n.R ≠ n.X
 e2 : r.B ≠ n.X
def PutPost (w : World) (N : Nat) (n : Pn) (x : Sr) (l : Led) (r : Ras) (c0 c1 c2 c3 : Int) (e : Ending) (w' : World) : Prop :=
 (if (r.set l n.x ((n.H : Int) - 1 - n.y) c0 c1 c2 c3).2 = true then e = .returned (flt 0 0 0) ∧ PnAt w' N { n with x := n.x + 1 } else e = .returned (.agg (aK x (r.set l n.x ((n.H : Int) - 1 - n.y) c0 c1 c2 c3).1.2 n.f).toArray) ∧ PnAt w' N n) ∧
 Pair w' n.X x (r.set l n.x ((n.H : Int) - 1 - n.y) c0 c1 c2 c3).1.2 ∧ RasAt w' n.R (r.set l n.x ((n.H : Int) - 1 - n.y) c0 c1 c2 c3).1.1 ∧ Chg (fun k => k = N ∨ k = x.L ∨ k = r.b.g) w w'
theorem pput_any (N : Nat) (n : Pn) (x : Sr) (l : Led) (p : Pal) (r : Ras) (c0 c1 c2 c3 : Int) (w : World) (h : PnAt w N n) (hx : Pair w n.X x l) (hr : RasAt w n.R r) (ha : PnApart N n x p r) (hxb : n.x ≤ 100000) (hHb : n.H ≤ 100000) (hyb : n.y ≤ 100000) (hro : r.op = true)
 (h0 : 0 ≤ c0 ∧ c0 < 256) (h1 : 0 ≤ c1 ∧ c1 < 256) (h2 : 0 ≤ c2 ∧ c2 < 256) (h3 : 0 ≤ c3 ∧ c3 < 256) : Calls Tryz.prog 188 #[Y (some ⟨N, 0, none⟩), .agg #[J U c0, J U c1, J U c2, J U c3]] w (PutPost w N n x l r c0 c1 c2 c3) := by
 have hC := ((Chg.refl (fun _ => False) w).alloc (.cells #[J U c0, J U c1, J U c2, J U c3] 104)).alloc (.cells #[J I 0, J I 0, J I 0] 31)
 have HN := Hi (hC.obj h (fun h => h))
 have O3 := Hi ((aA w #[J U c0, J U c1, J U c2, J U c3] 104).alloc (.cells #[J I 0, J I 0, J I 0] 31))
 have OF := Hi (aA (w.alloc (.cells #[J U c0, J U c1, J U c2, J U c3] 104)) #[J I 0, J I 0, J I 0] 31)
 obtain ⟨d, hd⟩ : ∃ d, w.heap.size = d := ⟨_, rfl⟩
 have HDe := Hi hd
 rw [show (w.alloc (.cells #[J U c0, J U c1, J U c2, J U c3] 104)).heap.size = d + 1 by rw [← hd]; simp] at OF
 rw [hd] at O3
 have HPR := Hi (show Pair _ n.X x l from ⟨hx.src.chg hC (fun h => h), hx.led.chg hC (fun h => h)⟩)
 have HRA := Hi (hr.chg hC (fun h => h) (fun h => h) (fun h => h))
 have CH := Hi (hC.mono (S' := fun k => k = N ∨ k = x.L ∨ k = r.b.g) (fun _ _ h => h.elim))
 have HA := Hi ha
 have lN := h.lt
 have lX := hx.src.lt
 have lL := hx.led.lt
 have lR := hr.lt
 have lg := hr.buf.glt (hr.opn.trans hro)
 have lB := hr.buf.lt
 rw [hd] at lN lX lL lR lg lB
 have hNL := ha.a2
 have hNg := ha.a8
 have hNR := ha.a6
 have hNB := ha.a7
 have hNX := ha.a1
 have hrl := ha.rl
 have HST := Hi (fun w0 (hA : RasAt w0 n.R r) (hL : LedAt w0 x.L l) => (rset_any n.R r l n.x ((n.H : Int) - 1 - n.y) c0 c1 c2 c3 w0 hA (by rw [hrl]; exact hL) h0 h1 h2 h3).mono (R' := fun e w' => e = .returned (.bool (r.set l n.x ((n.H : Int) - 1 - n.y) c0 c1 c2 c3).2) ∧ RasAt w' n.R (r.set l n.x ((n.H : Int) - 1 - n.y) c0 c1 c2 c3).1.1 ∧ LedAt w' x.L (r.set l n.x ((n.H : Int) - 1 - n.y) c0 c1 c2 c3).1.2 ∧ Chg (fun k => k = x.L ∨ k = r.b.g) w0 w') fun e w' hh => by
  unfold rsS at hh; rw [hrl] at hh; exact hh)
 obtain ⟨Q, hQ⟩ : ∃ Q, r.set l n.x ((n.H : Int) - 1 - n.y) c0 c1 c2 c3 = Q := ⟨_, rfl⟩
 have HQ := Hi hQ
 rw [hQ] at HST
 have HQB := Hi (show Q.1.1.B = r.B ∧ Q.1.1.b.g = r.b.g by rw [← hQ]; unfold Ras.set; split <;> (try split) <;> exact ⟨rfl, rfl⟩)
 have HXLn := Hi hx.src.ne
 have HXG := Hi ha.b1
 obtain ⟨px, hpx⟩ : ∃ v, n.x = v := ⟨_, rfl⟩
 obtain ⟨py, hpy⟩ : ∃ v, n.y = v := ⟨_, rfl⟩
 obtain ⟨H, hH⟩ : ∃ v, n.H = v := ⟨_, rfl⟩
 obtain ⟨LL, hLL⟩ : ∃ v, x.L = v := ⟨_, rfl⟩
 obtain ⟨g, hg⟩ : ∃ v, r.b.g = v := ⟨_, rfl⟩
 obtain ⟨RR, hRR⟩ : ∃ v, n.R = v := ⟨_, rfl⟩
 obtain ⟨XX, hXX⟩ : ∃ v, n.X = v := ⟨_, rfl⟩
 obtain ⟨f, hf⟩ : ∃ v, n.f = v := ⟨_, rfl⟩
 have EN := Hi (show n.cells = [Y (some ⟨XX, 0, none⟩), n.q 0, J I n.W, J I H, n.q 1, J I n.dp, n.q 2, n.q 3, n.q 4, n.q 5, n.q 6, n.q 7, n.q 8, n.q 9, n.q 10, n.q 11, n.q 12, Y (some ⟨n.P, 0, none⟩), Y (some ⟨RR, 0, none⟩), J I f, J I px, J I py] by unfold Pn.cells; rw [hXX, hH, hRR, hf, hpx, hpy])
 have EN2 := Hi (show Pn.cells { n with x := n.x + 1 } = [Y (some ⟨XX, 0, none⟩), n.q 0, J I n.W, J I H, n.q 1, J I n.dp, n.q 2, n.q 3, n.q 4, n.q 5, n.q 6, n.q 7, n.q 8, n.q 9, n.q 10, n.q 11, n.q 12, Y (some ⟨n.P, 0, none⟩), Y (some ⟨RR, 0, none⟩), J I f, J I ((px : Int) + 1), J I py] by
  have e1 : ((n.x + 1 : Nat) : Int) = (px : Int) + 1 := by rw [hpx]; omega
  show [Value.pointer (some ⟨n.X, 0, none⟩), n.q 0, J I n.W, J I n.H, n.q 1, J I n.dp, n.q 2, n.q 3, n.q 4, n.q 5, n.q 6, n.q 7, n.q 8, n.q 9, n.q 10, n.q 11, n.q 12, Y (some ⟨n.P, 0, none⟩), Y (some ⟨n.R, 0, none⟩), J I n.f, J I ((n.x + 1 : Nat) : Int), J I n.y] = _
  rw [e1, hXX, hH, hRR, hf, hpy])
 have HPN := Hi (show ∀ e w', (if Q.2 = true then e = .returned (flt 0 0 0) ∧ PnAt w' N { n with x := n.x + 1 } else e = .returned (.agg (aK x Q.1.2 f).toArray) ∧ PnAt w' N n) ∧ Pair w' XX x Q.1.2 ∧ RasAt w' RR Q.1.1 ∧ Chg (fun k => k = N ∨ k = LL ∨ k = g) w w' → PutPost w N n x l r c0 c1 c2 c3 e w' from fun e w' hh => by
  rw [← hXX, ← hRR, ← hLL, ← hg, ← hf, ← hQ] at hh; exact hh)
 have HN := Hi (show Obj1 _ N (List.toArray [Y (some ⟨XX, 0, none⟩), n.q 0, J I n.W, J I H, n.q 1, J I n.dp, n.q 2, n.q 3, n.q 4, n.q 5, n.q 6, n.q 7, n.q 8, n.q 9, n.q 10, n.q 11, n.q 12, Y (some ⟨n.P, 0, none⟩), Y (some ⟨RR, 0, none⟩), J I f, J I px, J I py]) 231 by rw [← EN.out]; exact HN.out)
 rw [hpx] at hxb
 rw [hpy] at hyb
 rw [hH] at hHb
 rw [hLL] at HST hNL CH lL HXLn
 rw [hg] at HST hNg CH lg HQB HXG
 rw [hRR] at HST HRA hNR lR
 rw [hXX] at HPR hNX lX HXLn HXG
 rw [hpx, hpy, hH] at HST
 have hLLe := Hi hLL
 have HXL := Hi (show x.L = LL from hLL)
 rw [show Pair _ XX x l = Pair _ XX x l from rfl] at HPR
 clear h hx hr ha hC hrl hQ hpx hpy hH hLL hg hRR hXX hf h0 h1 h2 h3
 have hNB2 : N ≠ r.B := hNB
 have HPR2 := Hi (fun (w0 : World) (h : Pair w0 XX x l) => (show LedAt w0 LL l from by rw [← HXL.out]; exact h.led))
 cases hok : Q.2 with
 | true =>
  as_aux_lemma =>
   have HOK := Hi hok
   have HST := Hi (fun w0 hA hL => (HST.out w0 hA hL).mono (R' := fun e w' => e = .returned (.bool true) ∧ RasAt w' RR Q.1.1 ∧ LedAt w' LL Q.1.2 ∧ Chg (fun k => k = LL ∨ k = g) w0 w') fun e w' hh => by rw [hok] at hh; exact hh)
   clear hok
   go_enter Tryz.func188, Tryz.ntmps188
   go_upto_region 1 with (fail)
   clear hd
   generalize World.alloc _ _ = wr at OF O3 CH HN HPR HRA ⊢
   have lf := OF.out.lt
   refine wp_region_noPanic ?_
   refine wp_region_held_drew (S := fun w' => Chg (fun k => k = LL ∨ k = g) wr w') (by kernel_rfl) (Chg.refl _ _).drew (fun hHeld => ?_)
   refine za 0 (Y (some ⟨N, 0, none⟩)) rfl hHeld ?_
   refine za 1 (Y (some ⟨N, 0, none⟩)) rfl hHeld ?_
   refine za 2 (Y (some ⟨N, 18, none⟩)) rfl hHeld ?_
   refine zt 3 (Y (some ⟨RR, 0, none⟩)) rfl hHeld ?_ (hy := fun w hS => by (have hc : w.cell? ⟨N, 18, none⟩ = some (Y (some ⟨RR, 0, none⟩)) := (hS.cell (b := N) (o := 18) (by omega) (show ¬ (N = LL ∨ N = g) by omega)).trans ((HN.out.cell 18).trans rfl); go_simp))
   refine za 4 (Y (some ⟨N, 0, none⟩)) rfl hHeld ?_
   refine za 5 (Y (some ⟨N, 0, none⟩)) rfl hHeld ?_
   refine za 6 (Y (some ⟨N, 20, none⟩)) rfl hHeld ?_
   refine zt 7 (J I (px : Int)) rfl hHeld ?_ (hy := fun w hS => by (have hc : w.cell? ⟨N, 20, none⟩ = some (J I (px : Int)) := (hS.cell (b := N) (o := 20) (by omega) (show ¬ (N = LL ∨ N = g) by omega)).trans ((HN.out.cell 20).trans rfl); go_simp))
   refine za 8 (Y (some ⟨N, 0, none⟩)) rfl hHeld ?_
   refine za 9 (Y (some ⟨N, 0, none⟩)) rfl hHeld ?_
   refine za 10 (Y (some ⟨N, 1, none⟩)) rfl hHeld ?_
   refine za 11 (Y (some ⟨N, 3, none⟩)) rfl hHeld ?_
   refine zt 12 (J I (H : Int)) rfl hHeld ?_ (hy := fun w hS => by (have hc : w.cell? ⟨N, 3, none⟩ = some (J I (H : Int)) := (hS.cell (b := N) (o := 3) (by omega) (show ¬ (N = LL ∨ N = g) by omega)).trans ((HN.out.cell 3).trans rfl); go_simp))
   refine zt 13 (J I ((H : Int) - 1)) rfl hHeld ?_ (hy := fun w hS => by (clear hNL hNg hNR hNB hNX hNB2; go_simp; rw [IntKind.wrap_i64]; omega))
   refine za 14 (Y (some ⟨N, 0, none⟩)) rfl hHeld ?_
   refine za 15 (Y (some ⟨N, 0, none⟩)) rfl hHeld ?_
   refine za 16 (Y (some ⟨N, 21, none⟩)) rfl hHeld ?_
   refine zt 17 (J I (py : Int)) rfl hHeld ?_ (hy := fun w hS => by (have hc : w.cell? ⟨N, 21, none⟩ = some (J I (py : Int)) := (hS.cell (b := N) (o := 21) (by omega) (show ¬ (N = LL ∨ N = g) by omega)).trans ((HN.out.cell 21).trans rfl); go_simp))
   refine zt 18 (J I ((H : Int) - 1 - (py : Int))) rfl hHeld ?_ (hy := fun w hS => by (clear hNL hNg hNR hNB hNX hNB2; go_simp; rw [IntKind.wrap_i64]; omega))
   refine zl 19 104 (d) (0) ([J U c0, J U c1, J U c2, J U c3]) rfl (fun w hS => range_chgU O3.out.range0 hS (by omega) (show ¬ (d = LL ∨ d = g) by omega)) Tryz.underlying104 hHeld ?_
   have hS := (Chg.refl (fun k => k = LL ∨ k = g) wr).drew
   have hF := (Chg.refl (fun _ => False) wr).drew
   generalize World.drew _ = wk at hS hF ⊢
   refine wpAnyH_ready (rs := [20]) (by kernel_rfl) (by simp) ?_
   refine AllReadyH.cons (o := _) rfl (fun K' hK => ?_) AllReadyH.nil
   go_simp
   with_reducible refine (HST.out _ (HRA.out.chg hF (fun h => h) (fun h => h) (fun h => h)) (HPR2.out _ ⟨HPR.out.src.chg hF (fun h => h), HPR.out.led.chg hF (fun h => h)⟩)).mono ?_
   rintro e5 w5 ⟨rfl, hR5, hL5, hC5⟩
   go_wp2_with fail
   have hS2 := hS.trans hC5
   refine hK _ _ hS2 (fun hH2 => ?_)
   clear hK K'
   try simp only [Act.put, zq1, zq2, zq3, zq4, zq5, zq6]
   refine zt 21 (.bool false) rfl hH2 ?_
   refine wpAnyH_done (by kernel_rfl) ?_ _
   refine NoPanic.normal ?_
   have hF2 := CH.out.trans ((hS2.mono (S' := fun k => k = N ∨ k = LL ∨ k = g) (fun k _ hk => Or.inr hk)))
   have CH := Hi hF2
   have HN := Hi (hS2.obj HN.out (show ¬ (N = LL ∨ N = g) by omega))
   have OF := Hi (hS2.obj OF.out (show ¬ (d + 1 = LL ∨ d + 1 = g) by omega))
   have hXg : XX ≠ g := HXG.out
   have hXLn : XX ≠ LL := HXLn.out
   have HP2 := Hi (show SrcAt w5 XX x from HPR.out.src.chg hS2 (show ¬ (XX = LL ∨ XX = g) by omega))
   have HL2 := Hi hL5
   have HR2 := Hi hR5
   clear hS hF hS2 hC5 hL5 hR5 hF2 hH2
   have k20 := (HN.out.cell 20).trans (show _ = some (J I (px : Int)) from rfl)
   have f20 := HN.out.frozen 20
   go_upto_region 4 with (fail)
   have HN := Hi ((HN.out.set 20 (J I ((px : Int) + 1))).cells (show _ = List.toArray [Y (some ⟨XX, 0, none⟩), n.q 0, J I n.W, J I H, n.q 1, J I n.dp, n.q 2, n.q 3, n.q 4, n.q 5, n.q 6, n.q 7, n.q 8, n.q 9, n.q 10, n.q 11, n.q 12, Y (some ⟨n.P, 0, none⟩), Y (some ⟨RR, 0, none⟩), J I f, J I ((px : Int) + 1), J I py] from rfl))
   have OF := Hi (OF.out.set_other ⟨N, 20, none⟩ (J I ((px : Int) + 1)) (by simp; omega))
   have hcN := (Chg.refl (fun k => k = N) w5).set ⟨N, 20, none⟩ (J I ((px : Int) + 1)) (Or.inl rfl)
   have HP2 := Hi (HP2.out.chg hcN (show ¬ XX = N by omega))
   have HL2 := Hi (HL2.out.chg hcN (show ¬ LL = N by omega))
   have HR2 := Hi (HR2.out.chg hcN (show ¬ RR = N by omega) (by rw [HQB.out.1]; show ¬ r.B = N; omega) (by rw [HQB.out.2]; show ¬ g = N; omega))
   have CH := Hi (CH.out.trans (hcN.mono (fun k _ hk => Or.inl hk)))
   generalize World.setCell _ _ _ = w6 at HN OF HP2 HL2 HR2 CH ⊢
   clear k20 f20 hcN
   go_wp2_with (refine so 31 3 (d + 1) [J I 0, J I 0, J I 0] OF.out ?_; intro ws hst hO; have OF := Hi hO; have hcs := Stored.chgS (S := fun k => k = d + 1) hst (Chg.refl _ w6) (Or.inl rfl); have HN := Hi (hcs.obj HN.out (show ¬ N = d + 1 by omega)); have HP2 := Hi (HP2.out.chg hcs (show ¬ XX = d + 1 by omega)); have HL2 := Hi (HL2.out.chg hcs (show ¬ LL = d + 1 by omega)); have HR2 := Hi (HR2.out.chg hcs (show ¬ RR = d + 1 by omega) (by rw [HQB.out.1]; show ¬ r.B = d + 1; omega) (by rw [HQB.out.2]; show ¬ g = d + 1; omega)); have CH := Hi (Stored.chgS hst CH.out (Or.inr (by have := HDe.out; omega))); clear hst hO hcs)
   refine bodyPost_ret (v := .agg (List.toArray [J I 0, J I 0, J I 0])) ?_ rfl (HPN.out _ _ ⟨?_, ⟨HP2.out, by rw [HXL.out]; exact HL2.out⟩, HR2.out, CH.out⟩)
   · exact aD Tryz.results188 _ _ _ [J I 0, J I 0, J I 0] _ rfl OF.out.range0 Tryz.underlying31 rfl (by kernel_rfl)
   · rw [if_pos HOK.out]
     refine ⟨rfl, ?_⟩
     show Obj1 _ N (Pn.cells { n with x := n.x + 1 }).toArray _
     rw [EN2.out]
     exact HN.out
 | false =>
  as_aux_lemma =>
   have HOK := Hi hok
   have HST := Hi (fun w0 hA hL => (HST.out w0 hA hL).mono (R' := fun e w' => e = .returned (.bool false) ∧ RasAt w' RR Q.1.1 ∧ LedAt w' LL Q.1.2 ∧ Chg (fun k => k = LL ∨ k = g) w0 w') fun e w' hh => by rw [hok] at hh; exact hh)
   clear hok
   go_enter Tryz.func188, Tryz.ntmps188
   go_upto_region 1 with (fail)
   clear hd
   generalize World.alloc _ _ = wr at OF O3 CH HN HPR HRA ⊢
   have lf := OF.out.lt
   refine wp_region_noPanic ?_
   refine wp_region_held_drew (S := fun w' => Chg (fun k => k = LL ∨ k = g) wr w') (by kernel_rfl) (Chg.refl _ _).drew (fun hHeld => ?_)
   refine za 0 (Y (some ⟨N, 0, none⟩)) rfl hHeld ?_
   refine za 1 (Y (some ⟨N, 0, none⟩)) rfl hHeld ?_
   refine za 2 (Y (some ⟨N, 18, none⟩)) rfl hHeld ?_
   refine zt 3 (Y (some ⟨RR, 0, none⟩)) rfl hHeld ?_ (hy := fun w hS => by (have hc : w.cell? ⟨N, 18, none⟩ = some (Y (some ⟨RR, 0, none⟩)) := (hS.cell (b := N) (o := 18) (by omega) (show ¬ (N = LL ∨ N = g) by omega)).trans ((HN.out.cell 18).trans rfl); go_simp))
   refine za 4 (Y (some ⟨N, 0, none⟩)) rfl hHeld ?_
   refine za 5 (Y (some ⟨N, 0, none⟩)) rfl hHeld ?_
   refine za 6 (Y (some ⟨N, 20, none⟩)) rfl hHeld ?_
   refine zt 7 (J I (px : Int)) rfl hHeld ?_ (hy := fun w hS => by (have hc : w.cell? ⟨N, 20, none⟩ = some (J I (px : Int)) := (hS.cell (b := N) (o := 20) (by omega) (show ¬ (N = LL ∨ N = g) by omega)).trans ((HN.out.cell 20).trans rfl); go_simp))
   refine za 8 (Y (some ⟨N, 0, none⟩)) rfl hHeld ?_
   refine za 9 (Y (some ⟨N, 0, none⟩)) rfl hHeld ?_
   refine za 10 (Y (some ⟨N, 1, none⟩)) rfl hHeld ?_
   refine za 11 (Y (some ⟨N, 3, none⟩)) rfl hHeld ?_
   refine zt 12 (J I (H : Int)) rfl hHeld ?_ (hy := fun w hS => by (have hc : w.cell? ⟨N, 3, none⟩ = some (J I (H : Int)) := (hS.cell (b := N) (o := 3) (by omega) (show ¬ (N = LL ∨ N = g) by omega)).trans ((HN.out.cell 3).trans rfl); go_simp))
   refine zt 13 (J I ((H : Int) - 1)) rfl hHeld ?_ (hy := fun w hS => by (clear hNL hNg hNR hNB hNX hNB2; go_simp; rw [IntKind.wrap_i64]; omega))
   refine za 14 (Y (some ⟨N, 0, none⟩)) rfl hHeld ?_
   refine za 15 (Y (some ⟨N, 0, none⟩)) rfl hHeld ?_
   refine za 16 (Y (some ⟨N, 21, none⟩)) rfl hHeld ?_
   refine zt 17 (J I (py : Int)) rfl hHeld ?_ (hy := fun w hS => by (have hc : w.cell? ⟨N, 21, none⟩ = some (J I (py : Int)) := (hS.cell (b := N) (o := 21) (by omega) (show ¬ (N = LL ∨ N = g) by omega)).trans ((HN.out.cell 21).trans rfl); go_simp))
   refine zt 18 (J I ((H : Int) - 1 - (py : Int))) rfl hHeld ?_ (hy := fun w hS => by (clear hNL hNg hNR hNB hNX hNB2; go_simp; rw [IntKind.wrap_i64]; omega))
   refine zl 19 104 (d) (0) ([J U c0, J U c1, J U c2, J U c3]) rfl (fun w hS => range_chgU O3.out.range0 hS (by omega) (show ¬ (d = LL ∨ d = g) by omega)) Tryz.underlying104 hHeld ?_
   have hS := (Chg.refl (fun k => k = LL ∨ k = g) wr).drew
   have hF := (Chg.refl (fun _ => False) wr).drew
   generalize World.drew _ = wk at hS hF ⊢
   refine wpAnyH_ready (rs := [20]) (by kernel_rfl) (by simp) ?_
   refine AllReadyH.cons (o := _) rfl (fun K' hK => ?_) AllReadyH.nil
   go_simp
   with_reducible refine (HST.out _ (HRA.out.chg hF (fun h => h) (fun h => h) (fun h => h)) (HPR2.out _ ⟨HPR.out.src.chg hF (fun h => h), HPR.out.led.chg hF (fun h => h)⟩)).mono ?_
   rintro e5 w5 ⟨rfl, hR5, hL5, hC5⟩
   go_wp2_with fail
   have hS2 := hS.trans hC5
   refine hK _ _ hS2 (fun hH2 => ?_)
   clear hK K'
   try simp only [Act.put, zq1, zq2, zq3, zq4, zq5, zq6]
   refine zt 21 (.bool true) rfl hH2 ?_
   refine wpAnyH_done (by kernel_rfl) ?_ _
   refine NoPanic.normal ?_
   have hF2 := CH.out.trans ((hS2.mono (S' := fun k => k = N ∨ k = LL ∨ k = g) (fun k _ hk => Or.inr hk)))
   have CH := Hi hF2
   have HN := Hi (hS2.obj HN.out (show ¬ (N = LL ∨ N = g) by omega))
   have OF := Hi (hS2.obj OF.out (show ¬ (d + 1 = LL ∨ d + 1 = g) by omega))
   have hXg : XX ≠ g := HXG.out
   have hXLn : XX ≠ LL := HXLn.out
   obtain ⟨l2, hl2⟩ : ∃ l2, Q.1.2 = l2 := ⟨_, rfl⟩
   rw [hl2] at hL5 HPN
   have HP2 := Hi (show Pair w5 XX x l2 from ⟨HPR.out.src.chg hS2 (show ¬ (XX = LL ∨ XX = g) by omega), by rw [HXL.out]; exact hL5⟩)
   have HR2 := Hi hR5
   have lz := hS2.size
   clear hS hF hS2 hC5 hL5 hR5 hF2 hH2 hl2
   obtain ⟨wr, rfl⟩ : ∃ z, z = w5 := ⟨_, rfl⟩
   have lz2 := OF.out.lt
   go_upto_region 2 with (fail)
   refine wp_region_noPanic ?_
   refine wp_region_held_drew (S := fun w' => Chg (fun k => k = d + 1) wr w') (by kernel_rfl) (Chg.refl _ _).drew (fun hHeld => ?_)
   refine za 0 (Y (some ⟨N, 0, none⟩)) rfl hHeld ?_
   refine za 1 (Y (some ⟨N, 0, none⟩)) rfl hHeld ?_
   refine za 2 (Y (some ⟨N, 0, none⟩)) rfl hHeld ?_
   refine zt 3 (Y (some ⟨XX, 0, none⟩)) rfl hHeld ?_ (hy := fun w hS => by (have hc : w.cell? ⟨N, 0, none⟩ = some (Y (some ⟨XX, 0, none⟩)) := (hS.cell (b := N) (o := 0) (by omega) (show ¬ N = d + 1 by omega)).trans ((HN.out.cell 0).trans rfl); go_simp))
   refine za 4 (Y (some ⟨N, 0, none⟩)) rfl hHeld ?_
   refine za 5 (Y (some ⟨N, 0, none⟩)) rfl hHeld ?_
   refine za 6 (Y (some ⟨N, 19, none⟩)) rfl hHeld ?_
   refine zt 7 (J I f) rfl hHeld ?_ (hy := fun w hS => by (have hc : w.cell? ⟨N, 19, none⟩ = some (J I f) := (hS.cell (b := N) (o := 19) (by omega) (show ¬ N = d + 1 by omega)).trans ((HN.out.cell 19).trans rfl); go_simp))
   have hS := (Chg.refl (fun k => k = d + 1) wr).drew
   have hF := (Chg.refl (fun _ => False) wr).drew
   generalize World.drew _ = wk at hS hF ⊢
   refine wpAnyH_ready (rs := [8]) (by kernel_rfl) (by simp) ?_
   refine AllReadyH.cons (o := _) rfl (fun K' hK => ?_) AllReadyH.nil
   go_simp
   refine (fault8_any XX x l2 f _ ⟨HP2.out.src.chg hF (fun h => h), HP2.out.led.chg hF (fun h => h)⟩).mono ?_
   rintro e6 w6 ⟨rfl, hb6⟩
   have hF := hF.trans (aB hb6 _)
   have hS := hS.trans (aB hb6 _)
   go_wp2_with fail
   refine hK _ _ hS (fun hH2 => ?_)
   clear hK K'
   try simp only [Act.put, zq1, zq2, zq3, zq4, zq5, zq6]
   have OF := Hi (hF.obj OF.out (fun h => h))
   refine wpAnyH_ready (rs := [9]) (by kernel_rfl) (by simp) ?_
   refine AllReadyH.cons (o := _) rfl (fun K' hK => ?_) AllReadyH.nil
   rw [if_pos (by rfl)]
   refine wp_store_mid 31 _ _ rfl (d + 1) 0 (aK x l2 f).toArray rfl rfl (by have := OF.out.there 0 3 (by simp); simpa [aV] using this) (by rw [List.size_toArray, aV]; kernel_rfl) (by have := faultL_one x l2 f; simpa using this) ?_
   simp only [Act.put, zq1, zq2, zq3, zq4, zq5, zq6]
   have hst : Stored w6 (d + 1) 0 (aK x l2 f) (w6.setCells (d + 1) 0 (aK x l2 f)) := rfl
   have OF := Hi (hst.whole OF.out (by rw [aV]; rfl))
   have hS := Stored.chgS hst hS (Or.inl rfl)
   generalize World.setCells _ _ _ _ = w7 at OF hS ⊢
   clear hst
   refine hK _ _ hS (fun hH3 => ?_)
   clear hK K'
   refine wpAnyH_done (by kernel_rfl) ?_ _
   refine NoPanic.normal ?_
   have HN := Hi (hS.obj HN.out (show ¬ N = d + 1 by omega))
   have HP2 := Hi (show Pair w7 XX x l2 from ⟨HP2.out.src.chg hS (show ¬ XX = d + 1 by omega), HP2.out.led.chg hS (by rw [HXL.out]; show ¬ LL = d + 1; omega)⟩)
   have HR2 := Hi (HR2.out.chg hS (show ¬ RR = d + 1 by omega) (by rw [HQB.out.1]; show ¬ r.B = d + 1; omega) (by rw [HQB.out.2]; show ¬ g = d + 1; omega))
   have CH := Hi (CH.out.after hS (fun k hk hk2 => by have := HDe.out; have : k = d + 1 := hk2; omega))
   go_wp2_with fail
   refine bodyPost_ret (v := .agg (aK x l2 f).toArray) ?_ rfl (HPN.out _ _ ⟨?_, HP2.out, HR2.out, CH.out⟩)
   · exact aD Tryz.results188 _ _ _ (aK x l2 f) _ rfl OF.out.range0 Tryz.underlying31 rfl (by rw [aV]; kernel_rfl)
   · rw [if_neg (by rw [HOK.out]; decide)]
     refine ⟨rfl, ?_⟩
     show Obj1 _ N n.cells.toArray _
     rw [EN.out]
     exact HN.out
theorem range_string {P : Program} {w : World} {g : Nat} {D : List Int} (h : w.rangeAt g 0 (aY D)) (n c : Nat) (hn : D.length = n) (src dst e' : TypeId)
 (hs : P.underlying src = some (.slice e')) (he : P.underlying e' = some (.int .u8)) (hd : P.underlying dst = some .string) : (convert src dst (.slice (some ⟨g, 0, none⟩) n c)).run P w = .ok (.string (strOf D)) w := by
 rw [run_convert_bytes_string w src dst e' _ n c hs he hd]
 refine run_bytesToString w _ n c D ?_
 have := run_loadCells_list (P := P) w ⟨g, 0, none⟩ (D.map (Value.int .u8)) (fun j v hv => by
  rw [Addr.add_mid]; exact h j v hv)
 rw [List.length_map, hn] at this; exact this
theorem same07_any (W H : Int) (g1 c1 g2 c2 n : Nat) (D : List Int) (w : World) (h1 : w.rangeAt g1 0 (aY D)) (h2 : w.rangeAt g2 0 (aY D)) (hn : D.length = n) (l1 : g1 < w.heap.size) (l2 : g2 < w.heap.size) :
 Calls Tryz.prog 15 #[.agg (List.toArray [J I W, J I H, .slice (some ⟨g1, 0, none⟩) n c1]), .agg (List.toArray [J I W, J I H, .slice (some ⟨g2, 0, none⟩) n c2])] w fun e w' => e = .returned (.bool true) ∧ Below w.heap.size w w' := by
 have BL := ((Below.refl w.heap.size w).alloc (Nat.le_refl _) (.cells (List.toArray [J I W, J I H, .slice (some ⟨g1, 0, none⟩) n c1]) 29)).alloc (by simp) (.cells (List.toArray [J I W, J I H, .slice (some ⟨g2, 0, none⟩) n c2]) 29)
 have R1 := range_below h1 BL l1
 have R2 := range_below h2 BL l2
 have v1 := range_string (P := Tryz.prog) R1 n c1 hn 27 9 5 Tryz.underlying27 Tryz.underlying5 Tryz.underlying9
 have v2 := range_string (P := Tryz.prog) R2 n c2 hn 27 9 5 Tryz.underlying27 Tryz.underlying5 Tryz.underlying9
 have HB := Hi BL
 clear h1 h2 hn R1 R2 BL
 go_enter Tryz.func15, Tryz.ntmps15
 go_wp2
 go_ret
 exact ⟨rfl, HB.out⟩
end Go.Proofs.YtfchnibjjokmbaaGreat
namespace Go.Proofs.YtfchnibjjokmbaaGreat
open Go.RowKit Go.Maps
theorem owns_put {w : World} {base e n g cap : Nat} {xs : List Value} (h : w.ownsRow base e 1 (.slice (some ⟨g, 0, none⟩) n cap) n xs) (j : Nat) (u : Value) : (w.setCell ⟨g, j, none⟩ u).ownsRow base e 1 (.slice (some ⟨g, 0, none⟩) n cap) n (xs.set j u) := by
 obtain ⟨h1, ⟨h2, _⟩ | ⟨g', cap', cur, h2, hb, hg, h3, h4, h5, h6⟩⟩ := h
 · cases h2
 · injection h2 with e1 e2 e3
   obtain rfl : g = g' := by injection e1 with e1; injection e1
   subst e3
   refine ⟨by rw [List.length_set]; exact h1, Or.inr ⟨g, cap, cur.setIfInBounds j u, rfl, hb, Obj1.set (T := e) hg j u, h3, h4, by rw [Array.size_setIfInBounds]; exact h5, ?_⟩⟩
   rw [Array.toList_setIfInBounds, List.take_set, h6]
theorem owns_free {w : World} {base e n g cap : Nat} {xs : List Value} (h : w.ownsRow base e 1 (.slice (some ⟨g, 0, none⟩) n cap) n xs) (j : Nat) : w.frozen? ⟨g, j, none⟩ = false ∧ base ≤ g := by
 obtain ⟨h1, ⟨h2, _⟩ | ⟨g', cap', cur, h2, hb, hg, h3, h4, h5, h6⟩⟩ := h
 · cases h2
 · injection h2 with e1 e2 e3
   obtain rfl : g = g' := by injection e1 with e1; injection e1
   exact ⟨Obj1.frozen (T := e) hg j, hb⟩
theorem owns_objR9 {w : World} {B base n size : Nat} {L : List Value} {T : TypeId} (h : Obj1 w B L.toArray T) (hb : base ≤ B) (hc : n ≤ maxLen) (hl : L.length = n * size) : w.ownsRow base T size (.slice (some ⟨B, 0, none⟩) n n) n L :=
 ⟨by omega, Or.inr ⟨B, n, L.toArray, rfl, hb, h, Nat.le_refl _, hc, by simpa using hl, by rw [show L.toArray.toList = L by simp, ← hl]; exact List.take_length⟩⟩
theorem owns_range9 {w : World} {base e size n g cap : Nat} {xs : List Value} (h : w.ownsRow base e size (.slice (some ⟨g, 0, none⟩) n cap) n xs) : w.rangeAt g 0 xs := by
 obtain ⟨h1, ⟨h2, _⟩ | ⟨g', cap', cur, h2, hb, hg, h3, h4, h5, h6⟩⟩ := h
 · cases h2
 · injection h2 with e1 e2 e3
   obtain rfl : g = g' := by injection e1 with e1; injection e1
   intro j u hu
   rw [show w.cell? ⟨g, 0 + j, none⟩ = cur[0 + j]? from Obj1.cell (T := e) hg (0 + j), Nat.zero_add]
   rw [← h6, List.getElem?_take] at hu
   split at hu
   · simpa using hu
   · cases hu
def L58 : List Int := H54 ++ [255, 255, 255, 0]
def s58 : ByteArray := strOf (setBW L58 2 58 4)
theorem u8s_at {L : List Int} {i : Nat} (hi : i < L.length) : (aY L)[i]? = some (J U (L.getD i 0)) := by
 unfold aY; simp [List.getD_eq_getElem?_getD, List.getElem?_eq_getElem hi]
theorem pack1 (N : Nat) (w : World) (hN : N < w.heap.size) (hc : w.cell? ⟨N, 0, none⟩ = some (J I 16777215)) : Calls Tryz.prog 47 #[.slice (some ⟨N, 0, none⟩) 1 1, J I 24] w fun e w' => e = .returned (.tuple #[.string (packI [16777215] 24).1, J I 0]) ∧ Below w.heap.size w w' :=
 (dpack_24 [16777215] N 0 1 w hN (by decide) (fun i hi => by
   have : i = 0 := by simpa using hi
   subst this
   exact hc)).mono fun e w' hh => ⟨hh.1.trans (by rw [show (packI [16777215] 24).2 = 0 by decide +kernel]), hh.2⟩
theorem write1 (G : Nat) (w : World) (hG : Obj1 w G #[J U 255, J U 255, J U 255, J U 255] 5) : Calls Tryz.prog 18 #[.agg #[J I 1, J I 1, .slice (some ⟨G, 0, none⟩) 4 4], .agg #[J I 24, .bool false, .bool false, .bool false]] w fun e w' => e = .returned (.tuple #[.string s58, J I 0]) ∧ Below w.heap.size w w' := by
 have HRT := Hi (fun w0 => oright1 w0)
 have HRR := Hi (fun w0 => rright1 G w0)
 have HCO := Hi (fun w0 h0 => colors1 G w0 h0)
 have HHE := Hi (fun w0 => head1 G w0)
 have HRO := Hi (fun M w0 h0 => rows1 G M w0 h0)
 have lG := hG.lt
 have OG := Hi ((hG.alloc (.cells #[J I 1, J I 1, .slice (some ⟨G, 0, none⟩) 4 4] 29)).alloc (.cells #[J I 24, .bool false, .bool false, .bool false] 44))
 have O1 := Hi ((aA w #[J I 1, J I 1, .slice (some ⟨G, 0, none⟩) 4 4] 29).alloc (.cells #[J I 24, .bool false, .bool false, .bool false] 44))
 have O2 := Hi (aA (w.alloc (.cells #[J I 1, J I 1, .slice (some ⟨G, 0, none⟩) 4 4] 29)) #[J I 24, .bool false, .bool false, .bool false] 44)
 have BL := Hi (((Below.refl w.heap.size w).alloc (Nat.le_refl _) (.cells #[J I 1, J I 1, .slice (some ⟨G, 0, none⟩) 4 4] 29)).alloc (by simp) (.cells #[J I 24, .bool false, .bool false, .bool false] 44))
 obtain ⟨d, hd⟩ : ∃ d, w.heap.size = d := ⟨_, rfl⟩
 rw [show (w.alloc (.cells #[J I 1, J I 1, .slice (some ⟨G, 0, none⟩) 4 4] 29)).heap.size = d + 1 by rw [← hd]; simp] at O2
 rw [hd] at O1 lG
 have HDe := Hi hd
 clear hG
 go_enter Tryz.func18, Tryz.ntmps18
 go_upto_region 1 with (fail)
 clear hd
 generalize World.alloc (World.alloc _ _) _ = w1 at OG O1 O2 BL ⊢
 go_upto_region 6 with (first
  | (refine aL (by kernel_rfl) 29 3 _ rfl (d) [J I 1, J I 1, .slice (some ⟨G, 0, none⟩) 4 4] rfl rfl O1.out Tryz.underlying29 rfl (by kernel_rfl) ?_; intro _)
  | (refine aL (by kernel_rfl) 44 4 _ rfl (d + 1) [J I 24, .bool false, .bool false, .bool false] rfl rfl O2.out Tryz.underlying44 rfl (by kernel_rfl) ?_; intro _)
  | ((go_at_call 40; (with_reducible refine (HRT.out _).mono ?_); rintro e w2 ⟨rfl, hb⟩); have OG := Hi (OG.out.below hb OG.out.lt); have O1 := Hi (O1.out.below hb O1.out.lt); have O2 := Hi (O2.out.below hb O2.out.lt); have BL := Hi (BL.out.trans (hb.mono BL.out.size)); clear hb)
  | ((go_at_call 41; (with_reducible refine (HRR.out _).mono ?_); rintro e w3 ⟨rfl, hb⟩); have OG := Hi (OG.out.below hb OG.out.lt); have O1 := Hi (O1.out.below hb O1.out.lt); have O2 := Hi (O2.out.below hb O2.out.lt); have BL := Hi (BL.out.trans (hb.mono BL.out.size)); clear hb)
  | ((go_at_call 42; (with_reducible refine (HCO.out _ OG.out).mono ?_); rintro e w4 ⟨B, capB, M, rfl, hR, lB, hb⟩); have OG := Hi (OG.out.below hb OG.out.lt); have O1 := Hi (O1.out.below hb O1.out.lt); have O2 := Hi (O2.out.below hb O2.out.lt); have BL := Hi (BL.out.trans (hb.mono BL.out.size)); have HR := Hi hR; clear hb hR))
 have z4 := BL.out.size
 have k2 := O2.out.lt
 go_wp2_with fail
 refine wp_loop_rounds 2 ?_
 rw [rounds_succ]
 go_upto_region 9 with (first
  | (refine load_r rfl 104 _ rfl B 0 [J U 255, J U 255, J U 255, J U 255] rfl HR.out Tryz.underlying104 rfl (by kernel_rfl) ?_; intro _
     have OC := Hi (aA w4 #[J U 0, J U 0, J U 0, J U 0] 104)
     have OG := Hi (OG.out.alloc (.cells #[J U 0, J U 0, J U 0, J U 0] 104))
     have O1 := Hi (O1.out.alloc (.cells #[J U 0, J U 0, J U 0, J U 0] 104))
     have O2 := Hi (O2.out.alloc (.cells #[J U 0, J U 0, J U 0, J U 0] 104))
     have BL := Hi (BL.out.alloc BL.out.size (.cells #[J U 0, J U 0, J U 0, J U 0] 104))
     obtain ⟨c, hc⟩ : ∃ c, w4.heap.size = c := ⟨_, rfl⟩
     rw [hc] at OC k2 z4)
  | (refine so 104 4 (c) [J U 255, J U 255, J U 255, J U 255] OC.out ?_; intro w5 hst hO; have OC := Hi hO; have OG := Hi (hst.oth OG.out (by omega)); have O1 := Hi (hst.oth O1.out (by omega)); have O2 := Hi (hst.oth O2.out (by omega)); have BL := Hi (hst.below BL.out (by have := HDe.out; omega)); clear hst hO))
 have a3 : w5.cell? ⟨c, 3, none⟩ = some (J U 255) := (OC.out.cell 3).trans rfl
 have o0 : w5.cell? ⟨d + 1, 0, none⟩ = some (J I 24) := (O2.out.cell 0).trans rfl
 have o1 : w5.cell? ⟨d + 1, 1, none⟩ = some (.bool false) := (O2.out.cell 1).trans rfl
 go_wp2_with ((with_reducible refine aE rfl ?_ ?_); rfl; intro _)
 rw [rounds_succ]
 clear a3
 go_wp2_with (first
  | (refine aL (by kernel_rfl) 29 3 _ rfl (d) [J I 1, J I 1, .slice (some ⟨G, 0, none⟩) 4 4] rfl rfl O1.out Tryz.underlying29 rfl (by kernel_rfl) ?_; intro _)
  | (refine aL (by kernel_rfl) 44 4 _ rfl (d + 1) [J I 24, .bool false, .bool false, .bool false] rfl rfl O2.out Tryz.underlying44 rfl (by kernel_rfl) ?_; intro _)
  | ((go_at_call 43; (with_reducible refine (HHE.out _).mono ?_); rintro e w6 ⟨D, rfl, hD, lD, hb⟩); clear o0 o1; have lD := Nat.le_trans BL.out.size lD; have OG := Hi (OG.out.below hb OG.out.lt); have O1 := Hi (O1.out.below hb O1.out.lt); have O2 := Hi (O2.out.below hb O2.out.lt); have BL := Hi (BL.out.trans (hb.mono BL.out.size)); have OD := Hi hD; clear hb hD
     have o0 : w6.cell? ⟨d + 1, 0, none⟩ = some (J I 24) := (O2.out.cell 0).trans rfl
     have o1 : w6.cell? ⟨d + 1, 1, none⟩ = some (.bool false) := (O2.out.cell 1).trans rfl))
 refine wp_loop_rounds 1 ?_
 rw [rounds_succ]
 go_wp2_with (first
  | (refine aL (by kernel_rfl) 29 3 _ rfl (d) [J I 1, J I 1, .slice (some ⟨G, 0, none⟩) 4 4] rfl rfl O1.out Tryz.underlying29 rfl (by kernel_rfl) ?_; intro _)
  | (refine aL (by kernel_rfl) 44 4 _ rfl (d + 1) [J I 24, .bool false, .bool false, .bool false] rfl rfl O2.out Tryz.underlying44 rfl (by kernel_rfl) ?_; intro _)
  | ((go_at_call 44; (with_reducible refine (HRO.out _ _ OG.out).mono ?_); rintro e w7 ⟨R, capR, N, rfl, cR, cN, lN, hb⟩); clear o0 o1; have O1 := Hi (O1.out.below hb O1.out.lt); have O2 := Hi (O2.out.below hb O2.out.lt); have OD := Hi (OD.out.below hb OD.out.lt); have BL := Hi (BL.out.trans (hb.mono BL.out.size)); clear hb
     have o0 : w7.cell? ⟨d + 1, 0, none⟩ = some (J I 24) := (O2.out.cell 0).trans rfl
     have o1 : w7.cell? ⟨d + 1, 1, none⟩ = some (.bool false) := (O2.out.cell 1).trans rfl))
 obtain ⟨i0, hi, hz0, hz1, hz2⟩ := info_parts (P := Tryz.prog) (e := 5) (z := J U 0) (size := 1) (bytes := 1) (by kernel_rfl)
 obtain ⟨sp, hsp⟩ : ∃ sp, (packI [16777215] 24).1 = sp := ⟨_, rfl⟩
 have HSP := Hi hsp
 have HPK := Hi (fun w0 h0 h1 => hsp ▸ pack1 N w0 h0 h1)
 have HSZ := Hi (show sp.size = 4 from by rw [← hsp]; kernel_rfl)
 have HCE := Hi (show aY H54 ++ Lib.strCells sp = aY L58 by rw [← hsp]; kernel_rfl)
 clear hsp
 refine wp_loop_rounds 2 ?_
 rw [rounds_succ]
 go_wp2_with (first
  | ((go_at_call 47; (with_reducible refine (HPK.out _ lN cN).mono ?_); rintro e w8 ⟨rfl, hb⟩); have O1 := Hi (O1.out.below hb O1.out.lt); have O2 := Hi (O2.out.below hb O2.out.lt); have OD := Hi (OD.out.below hb OD.out.lt); have BL := Hi (BL.out.trans (hb.mono BL.out.size)); clear hb)
  | (at_builtin; refine Lib.wpList_append_own_string _ rfl (.tmp 111) (.tmp 112) 27 9 rfl w.heap.size 5 i0 Tryz.underlying27 Tryz.underlying9 hi hz0 hz1 hz2 _ 54 (aY H54) rfl (owns_objR9 OD.out lD (by unfold maxLen; decide) rfl) sp rfl (by rw [HSZ.out]; unfold maxLen; decide) (by rw [HSZ.out]; decide) BL.out.size ?_; intro v' w9 hown hgr hnil
     rw [HSZ.out, HCE.out] at hown
     obtain ⟨g, cap, rfl, -, -⟩ := owns_form9 hown (by decide)
     have OW := Hi hown
     have BL := Hi (BL.out.trans ((show Chg (fun k => k = D) w8 w9 from ⟨hgr.os, hgr.tape, hgr.output, hgr.size, fun k hk hn => hgr.block k hk (by intro h; cases h; exact hn rfl)⟩).below BL.out.size (fun k hk => by have hk : k = D := hk; omega)))
     clear hown hgr hnil o0 o1 cR cN))
 rw [rounds_succ]
 go_wp2_with fail
 have HG := Hi (owns_free OW.out 0).2
 go_loopw [20, 115] (fun q20 c wr => ∃ j : Nat, j ≤ 4 ∧ c = J I j ∧ wr.ownsRow w.heap.size 5 1 (.slice (some ⟨g, 0, none⟩) 58 cap) 58 (aY (setBW L58 2 58 j)) ∧ Below w.heap.size w wr) (fun _ c _ => 4 - (intOf c).toNat)
 case atStart => exact ⟨0, by omega, rfl, OW.out, BL.out⟩
 case round =>
  obtain ⟨j, hj, rfl, hw, hb⟩ := hrel
  have OW := Hi hw
  have BL := Hi hb
  clear hw hb
  by_cases hlt : j < 4
  rotate_left
  · have hge : ¬ (j : Int) < 4 := by omega
    have E := Hi (show j = 4 by omega)
    have hcv := range_string (P := Tryz.prog) (owns_range9 OW.out) 58 cap (by rw [setBW_len]; rfl) 27 9 5 Tryz.underlying27 Tryz.underlying5 Tryz.underlying9
    rw [E.out] at hcv
    go_wp2
    go_ret2
    exact ⟨rfl, BL.out⟩
  · have hge : (j : Int) < 4 := by omega
    have HB := Hi (show byteAt 58 j = IntKind.u8.wrap (58 / 2 ^ (8 * (j : Int)).toNat) by unfold byteAt; rw [show (8 * (j : Int)).toNat = 8 * j by omega]; rfl)
    have eW : IntKind.i64.wrap (8 * (j : Int)) = 8 * (j : Int) := aF _ (by omega) (by omega)
    have eA : IntKind.i64.wrap (2 + (j : Int)) = 2 + (j : Int) := aF _ (by omega) (by omega)
    have h0 : (0 : Int) ≤ 8 * (j : Int) := by omega
    have h0n : ¬ (8 * (j : Int) < 0) := by omega
    have a0 : (0 : Int) ≤ 2 + (j : Int) := by omega
    have a1 : 2 + (j : Int) < 58 := by omega
    have a2 : (2 + (j : Int)).toNat = 2 + j := by omega
    have a3 : 2 + j < 58 := by omega
    have cD : wr.cell? ⟨g, 2 + j, none⟩ = some (J U ((setBW L58 2 58 j).getD (2 + j) 0)) := owns_cell OW.out _ _ (u8s_at (by rw [setBW_len]; show 2 + j < 58; omega))
    have fD : wr.frozen? ⟨g, 2 + j, none⟩ = false := (owns_free OW.out _).1
    go_wp2
    go_roundw
    case rel => exact ⟨j + 1, by omega, by go_num, (by have := owns_put OW.out (2 + j) (J U (IntKind.u8.wrap (58 / 2 ^ (8 * (j : Int)).toNat))); rwa [show (aY (setBW L58 2 58 j)).set (2 + j) (J U (IntKind.u8.wrap (58 / 2 ^ (8 * (j : Int)).toNat))) = aY (setBW L58 2 58 (j + 1)) by rw [setBW, HB.out]; unfold aY; rw [List.map_set]] at this), BL.out.setCell (p := ⟨g, 2 + j, none⟩) HG.out _⟩
    case measure => simp [intOf]; omega
theorem highest_any (now left : Nat) (w : World) (h0 : now < 256) (h1 : 1 ≤ left) (h2 : left ≤ 8) : Calls Tryz.prog 169 #[J I now, J I left] w fun e w' => e = .returned (J I ((now : Int) / 2 ^ (left - 1) % 2)) ∧ w = w' := by
 go_enter Tryz.func169, Tryz.ntmps169
 go_wp2
 go_ret
 exact ⟨ret_int (i64_and_one _), rfl⟩
theorem joinhi_any (v b i : Int) (w : World) (h0 : 0 ≤ v) (h1 : v < 4294967296) (h2 : 0 ≤ b) (h3 : b ≤ 1) : Calls Tryz.prog 170 #[J I v, J I b, J I i] w fun e w' => e = .returned (J I (2 * v + b)) ∧ w = w' := by
 go_enter Tryz.func170, Tryz.ntmps170
 go_wp2
 go_ret
 have := or_high 1 b v h2 (by omega) h0 (by have h62 : (2 : Int) ^ 62 = 4611686018427387904 := (by decide); omega)
 exact ⟨ret_int (by rw [show v * 2 = v * 2 ^ 1 by omega, this]; omega), rfl⟩
/-! ### the bits of a text -/
def fBit (low : Bool) : Value := .func (.func (if low = true then 171 else 169)) #[] #[]
def fJoin (low : Bool) : Value := .func (.func (if low = true then 172 else 170)) #[] #[]
def btCells (X : Nat) (now : Int) (left : Nat) (low : Bool) : Array Value := #[Y (some ⟨X, 0, none⟩), J I now, J I left, fBit low, fJoin low]
structure BitsAt (w : World) (K X : Nat) (L : Nat) (s : ByteArray) (low : Bool) (t : Nat) (l : Led) : Prop where
 obj : ∃ now : Int, Obj1 w K (btCells X now ((8 - t % 8) % 8) low) 249 ∧ (t % 8 ≠ 0 → now = aG s (t / 8))
 pair : Pair w X ⟨L, s, 0, s.size, (t + 7) / 8⟩ l
 nx : K ≠ X
 nl : K ≠ L
 br : l.br = false
 enough : l.st + (s.size - (t + 7) / 8 : Nat) ≤ l.mx
def three (K X L : Nat) (k : Nat) : Prop := k = K ∨ k = X ∨ k = L
theorem BitsAt.more {w : World} {K X L : Nat} {s : ByteArray} {low : Bool} {t : Nat} {l l' : Led} {now : Int} {z : Nat} (ho : Obj1 w K (btCells X now z low) 249) (hz : z = (8 - t % 8) % 8) (hn : t % 8 ≠ 0 → now = aG s (t / 8)) {p : Nat} (hpr : Pair w X ⟨L, s, 0, s.size, p⟩ l) (hp : p = (t + 7) / 8) (h1 : K ≠ X) (h2 : K ≠ L) (h3 : l.br = false) (h4 : l.st + (s.size - p : Nat) ≤ l.mx) (hl : l = l') : BitsAt w K X L s low t l' := by
 subst hz hp hl; exact ⟨⟨now, ho, hn⟩, hpr, h1, h2, h3, h4⟩
theorem Pair.put {w : World} {X K i : Nat} {x : Sr} {l : Led} (h : Pair w X x l) (v : Value) (h1 : K ≠ X) (h2 : K ≠ x.L) : Pair (w.setCell ⟨K, i, none⟩ v) X x l := ⟨⟨h.src.obj.set_other _ _ (fun e => h1 e.symm), h.src.ok, h.src.ne⟩, h.led.put _ (fun e => h2 e.symm)⟩
theorem Pair.drewN {w : World} {X : Nat} {x : Sr} {l : Led} (h : Pair w X x l) (n : Nat) : Pair (w.drewN n) X x l := ⟨h.src.drewN n, h.led.drewN n⟩
theorem BitsAt.led {w w' : World} {K X L : Nat} {s : ByteArray} {low : Bool} {t : Nat} {l l' : Led} {S : Nat → Prop} (h : BitsAt w K X L s low t l) (hc : Chg S w w') (hl : LedAt w' L l') (hb : l'.br = false) (he : l'.st + (s.size - (t + 7) / 8 : Nat) ≤ l'.mx) (h1 : ¬ S K) (h2 : ¬ S X) : BitsAt w' K X L s low t l' := by
 obtain ⟨now, ho, hn⟩ := h.obj
 exact ⟨⟨now, hc.obj ho h1, hn⟩, ⟨h.pair.src.chg hc h2, hl⟩, h.nx, h.nl, hb, he⟩
abbrev BtAt (w : World) (K X : Nat) (now left : Nat) : Prop := Obj1 w K (btCells X now left false) 249
theorem bnewb_any (X : Nat) (w : World) : Calls Tryz.prog 131 #[Y (some ⟨X, 0, none⟩), .bool false] w fun e w' =>
 ∃ K, e = .returned (.tuple #[Y (some ⟨K, 0, none⟩), J I 0]) ∧ BtAt w' K X 0 0 ∧ w.heap.size ≤ K ∧ Chg (fun _ => False) w w' := by
 go_enter Tryz.func131, Tryz.ntmps131
 go_wp2
 go_ret2
 exact ⟨w.heap.size, rfl, aA _ _ _, Nat.le_refl _, (Chg.refl _ _).alloc _⟩
def valB (B z i : Nat) : Nat := B / 2 ^ (z - i) % 2 ^ i
theorem valB_zero (B z : Nat) : valB B z 0 = 0 := by unfold valB; omega
theorem valB_bd (B z i : Nat) : valB B z i < 2 ^ i := Nat.mod_lt _ (Nat.two_pow_pos i)
theorem valB_succ (B z i : Nat) (h : i < z) : valB B z (i + 1) = 2 * valB B z i + B / 2 ^ (z - i - 1) % 2 := by
 unfold valB
 have e1 : z - i = (z - (i + 1)) + 1 := by omega
 have e2 : z - i - 1 = z - (i + 1) := by omega
 rw [e2, e1]
 obtain ⟨k, hk⟩ : ∃ k, z - (i + 1) = k := ⟨_, rfl⟩
 rw [hk, show B / 2 ^ (k + 1) = B / 2 ^ k / 2 by rw [Nat.pow_succ, Nat.div_div_eq_div_mul], Nat.pow_succ, Nat.mul_comm (2 ^ i) 2, Nat.mod_mul]
 omega
def BtStage (wr : World) (K X : Nat) (x y : Sr) (l m : Led) (now left B z i : Nat) : Prop :=
 (i = 0 ∧ left = 0 ∧ BtAt wr K X now 0 ∧ Pair wr X x l) ∨ ((i = 0 → left ≠ 0) ∧ BtAt wr K X B (z - i) ∧ Pair wr X y m)
def btS (K X : Nat) (x : Sr) (k : Nat) : Prop := k = K ∨ two X x k
theorem bread_yes (K X : Nat) (x y : Sr) (l m : Led) (now left B z n : Nat) (w : World) (ho : BtAt w K X now left) (hp : Pair w X x l) (hKX : K ≠ X) (hKL : K ≠ x.L) (hyL : y.L = x.L) (hB : B < 256) (hz : z ≤ 8) (hn : n ≤ z)
 (hc : (left = 0 ∧ z = 8 ∧ ∀ w0, Pair w0 X x l → Calls Tryz.prog 179 #[Y (some ⟨X, 0, none⟩)] w0 fun e w' => e = .returned (.tuple #[J I B, .bool true]) ∧ Pair w' X y m ∧ Chg (two X x) w0 w') ∨ (0 < left ∧ z = left ∧ B = now ∧ y = x ∧ m = l)) (h1 : 1 ≤ n) :
 Calls Tryz.prog 141 #[Y (some ⟨K, 0, none⟩), J I n] w fun e w' => e = .returned (.tuple #[J I (valB B z n : Nat), .bool true]) ∧ BtAt w' K X B (z - n) ∧ Pair w' X y m ∧ Chg (btS K X x) w w' := by
 have G1 : decide ((n : Int) < 0) = false := by rw [decide_eq_false_iff_not]; omega
 have G2 : decide ((n : Int) > 32) = false := by rw [decide_eq_false_iff_not]; omega
 have H0 := Hi (show BtStage w K X x y l m now left B z 0 by
  rcases hc with ⟨h, -, -⟩ | ⟨h, e1, e2, e3, e4⟩
  · subst h; exact Or.inl ⟨rfl, rfl, ho, hp⟩
  · subst e1 e2 e3 e4; exact Or.inr ⟨fun _ => by omega, ho, hp⟩)
 have HCC := Hi hc
 have HYL := Hi hyL
 clear ho hp hc hyL
 go_enter Tryz.func141, Tryz.ntmps141
 go_wp2
 go_loopw [6, 7, 8, 9, 17] (fun v q8 q9 q10 c wr => ∃ i : Nat, i ≤ n ∧ c = J I i ∧ v = J I (valB B z i : Nat) ∧ BtStage wr K X x y l m now left B z i ∧ Chg (btS K X x) w wr) (fun _ _ _ _ c _ => n - (intOf c).toNat)
 case atStart => exact ⟨0, by omega, rfl, by rw [valB_zero]; rfl, H0.out, Chg.refl _ _⟩
 case round =>
  obtain ⟨i, hi, rfl, rfl, hst, hC⟩ := hrel
  have HC := Hi hC
  clear hC
  by_cases hlt : i < n
  rotate_left
  · have E := Hi (show i = n by omega)
    have hst := Hi hst
    go_wp2
    go_ret2
    have e := E.out
    subst e
    rcases hst.out with ⟨h, -⟩ | ⟨-, h2, h3⟩
    · omega
    · exact ⟨rfl, h2, h3, HC.out⟩
  obtain ⟨b, hb⟩ : ∃ b : Nat, B / 2 ^ (z - i - 1) % 2 = b := ⟨_, rfl⟩
  obtain ⟨v, hv⟩ : ∃ v : Nat, valB B z i = v := ⟨_, rfl⟩
  have hb1 : b ≤ 1 := by rw [← hb]; omega
  have hv1 : v < 256 := by
   have := valB_bd B z i
   rw [hv] at this
   have h2 : 2 ^ i ≤ 2 ^ 8 := Nat.pow_le_pow_right (by decide) (by omega)
   omega
  have JV := Hi (show (valB B z (i + 1) : Int) = 2 * (v : Int) + (b : Int) by rw [valB_succ B z i (by omega), hb, hv]; omega)
  have HH := Hi (fun w0 => (highest_any B (z - i) w0 hB (by omega) (by omega)).mono (R' := fun e w' => e = .returned (J I b) ∧ w' = w0) fun e w' hh => ⟨by rw [hh.1, ← hb]; simp, hh.2.symm⟩)
  have HJ := Hi (fun w0 => (joinhi_any v b i w0 (by omega) (by omega) (by omega) (by omega)).mono (R' := fun e w' => e = .returned (J I (2 * (v : Int) + (b : Int))) ∧ w' = w0) fun e w' hh => ⟨hh.1, hh.2.symm⟩)
  rw [hv]
  clear hb hv
  have HST := Hi hst
  obtain ⟨q, hq⟩ : ∃ q, z - i = q := ⟨_, rfl⟩
  have hq1 : 1 ≤ q := by omega
  have hq2 : q ≤ 8 := by omega
  rw [hq] at HH
  have FIN := Hi (show ∀ w2 k, Obj1 w2 K (btCells X B q false) 249 → Pair w2 X y m → BtStage ((w2.drewN k).setCell ⟨K, 2, none⟩ (J I ((q : Int) - 1))) K X x y l m now left B z (i + 1) from fun w2 k h1 h2 => Or.inr ⟨fun h => by omega, by
   rw [show ((q : Int) - 1) = ((z - (i + 1) : Nat) : Int) by omega]
   exact (h1.drewN k).set 2 _, (h2.drewN k).put _ hKX (by rw [HYL.out]; exact hKL)⟩)
  rcases hst with ⟨i0, l0, hO, hP⟩ | ⟨h0, hO, hP⟩
  · subst i0
    have c0 : wr.cell? ⟨K, 0, none⟩ = some (Y (some ⟨X, 0, none⟩)) := (hO.cell 0).trans rfl
    have c2 : wr.cell? ⟨K, 2, none⟩ = some (J I 0) := (hO.cell 2).trans rfl
    have hu : z = 8 ∧ ∀ w0, Pair w0 X x l → Calls Tryz.prog 179 #[Y (some ⟨X, 0, none⟩)] w0 fun e w' => e = .returned (.tuple #[J I B, .bool true]) ∧ Pair w' X y m ∧ Chg (two X x) w0 w' := by
     rcases HCC.out with ⟨-, h1, h2⟩ | ⟨h1, -⟩
     · exact ⟨h1, h2⟩
     · omega
    have HU := Hi (hu.2 wr hP)
    have HO := Hi hO
    obtain rfl : q = 8 := by omega
    clear hu hO hP hq hq1 hq2 l0
    go_wp2_with ((go_at_call 179; (with_reducible refine (HU.out).mono ?_); rintro e w1 ⟨rfl, hP1, hC1⟩); have ho1 := Hi (hC1.obj HO.out (show ¬ (K = X ∨ K = x.L) by omega)); have k1 := (ho1.out.cell 1).trans rfl; have k2 := (ho1.out.cell 2).trans rfl; have f1 := ho1.out.frozen 1; have f2 := ho1.out.frozen 2)
    have ho2 := (ho1.out.set 1 (J I B)).set 2 (J I 8)
    have hp2 := (hP1.put (K := K) (i := 1) (J I B) hKX (by rw [HYL.out]; exact hKL)).put (K := K) (i := 2) (J I 8) hKX (by rw [HYL.out]; exact hKL)
    have hc2 := ((HC.out.trans (hC1.mono fun k _ h => Or.inr h)).set ⟨K, 1, none⟩ (J I B) (Or.inl (Or.inl rfl))).set ⟨K, 2, none⟩ (J I 8) (Or.inl (Or.inl rfl))
    obtain ⟨w2, hw2⟩ : ∃ w2, (w1.setCell ⟨K, 1, none⟩ (J I B)).setCell ⟨K, 2, none⟩ (J I 8) = w2 := ⟨_, rfl⟩
    rw [hw2] at ho2 hp2 hc2 ⊢
    have HO2 : Hid (Obj1 w2 K (btCells X B (8 : Nat) false) 249) := ho2
    have HC2 := Hi hc2
    have HP2 := Hi hp2
    have m1 : w2.cell? ⟨K, 1, none⟩ = some (J I B) := (HO2.out.cell 1).trans rfl
    have m2 : w2.cell? ⟨K, 2, none⟩ = some (J I 8) := (HO2.out.cell 2).trans rfl
    have m3 : w2.cell? ⟨K, 3, none⟩ = some (.func (.func 169) #[] #[]) := (HO2.out.cell 3).trans rfl
    have m4 : w2.cell? ⟨K, 4, none⟩ = some (.func (.func 170) #[] #[]) := (HO2.out.cell 4).trans rfl
    have g2 := HO2.out.frozen 2
    clear hw2 ho2 hp2 hc2 hP1 hC1 k1 k2 f1 f2
    go_quiet ((first | (go_at_call 169; exact Calls.quiet_of_same (HH.out _)) | (go_at_call 170; exact Calls.quiet_of_same (HJ.out _))))
    go_wp2
    go_roundw
    case rel => exact ⟨1, by omega, by go_num, by rw [JV.out], FIN.out w2 _ HO2.out HP2.out, (HC2.out.drewN _).set _ _ (Or.inl (Or.inl rfl))⟩
    case measure => simp [intOf]; omega
  · rw [hq] at hO
    have m0 : ((q : Int) == 0) = false := by rw [beq_eq_false_iff_ne]; omega
    have m1 : wr.cell? ⟨K, 1, none⟩ = some (J I B) := (hO.cell 1).trans rfl
    have m2 : wr.cell? ⟨K, 2, none⟩ = some (J I q) := (hO.cell 2).trans rfl
    have m3 : wr.cell? ⟨K, 3, none⟩ = some (.func (.func 169) #[] #[]) := (hO.cell 3).trans rfl
    have m4 : wr.cell? ⟨K, 4, none⟩ = some (.func (.func 170) #[] #[]) := (hO.cell 4).trans rfl
    have g2 := hO.frozen 2
    have HO := Hi hO
    have HP := Hi hP
    clear hO hP hq h0
    go_wp2
    go_quiet ((first | (go_at_call 169; exact Calls.quiet_of_same (HH.out _)) | (go_at_call 170; exact Calls.quiet_of_same (HJ.out _))))
    go_wp2
    go_roundw
    case rel => exact ⟨i + 1, by omega, by go_num, by rw [JV.out], FIN.out wr _ HO.out HP.out, (HC.out.drewN _).set _ _ (Or.inl (Or.inl rfl))⟩
    case measure => simp [intOf]; omega
theorem bread_no (K X : Nat) (x : Sr) (l : Led) (now n : Nat) (w : World) (ho : BtAt w K X now 0) (hp : Pair w X x l) (hKX : K ≠ X) (hKL : K ≠ x.L) (h1 : 1 ≤ n) (hn : n ≤ 8) (hno : (x.next l 1).2.2 = false) :
 Calls Tryz.prog 141 #[Y (some ⟨K, 0, none⟩), J I n] w fun e w' => e = .returned (.tuple #[J I 0, .bool false]) ∧ BtAt w' K X now 0 ∧ Pair w' X (x.next l 1).1.1 (x.next l 1).1.2 ∧ Chg (btS K X x) w w' := by
 have G1 : decide ((n : Int) < 0) = false := by rw [decide_eq_false_iff_not]; omega
 have G2 : decide ((n : Int) > 32) = false := by rw [decide_eq_false_iff_not]; omega
 have c0 : w.cell? ⟨K, 0, none⟩ = some (Y (some ⟨X, 0, none⟩)) := (ho.cell 0).trans rfl
 have c2 : w.cell? ⟨K, 2, none⟩ = some (J I 0) := (ho.cell 2).trans rfl
 have HU := Hi ((u8_any X x l w hp).mono (R' := fun e w' => e = .returned (.tuple #[J I (numB (x.next l 1).2.1 true), .bool false]) ∧ Pair w' X (x.next l 1).1.1 (x.next l 1).1.2 ∧ Chg (two X x) w w') fun e w' hh => by unfold NumOf at hh; rw [hno] at hh; exact hh)
 obtain ⟨v, hv⟩ : ∃ v, numB (x.next l 1).2.1 true = v := ⟨_, rfl⟩
 obtain ⟨y, hy⟩ : ∃ v, (x.next l 1).1.1 = v := ⟨_, rfl⟩
 obtain ⟨m, hm⟩ : ∃ v, (x.next l 1).1.2 = v := ⟨_, rfl⟩
 rw [hv, hy, hm] at HU
 rw [hy, hm]
 have HO := Hi ho
 clear ho hp hno hv hy hm
 go_enter Tryz.func141, Tryz.ntmps141
 go_wp2
 refine wp_loop_rounds 1 ?_
 rw [rounds_succ]
 go_wp2_with (go_at_call 179; (with_reducible refine (HU.out).mono ?_); rintro e w1 ⟨rfl, hP1, hC1⟩)
 go_ret2
 exact ⟨rfl, hC1.obj HO.out (show ¬ (K = X ∨ K = x.L) by omega), hP1, hC1.mono fun k _ h => Or.inr h⟩
structure JobAt (w : World) (N : Nat) (n : Pn) (x : Sr) (l : Led) (p : Pal) (r : Ras) : Prop where
 pn : PnAt w N n
 pr : Pair w n.X x l
 pal : PalAt w n.P p
 ras : RasAt w n.R r
 ap : PnApart N n x p r
 op : r.op = true
 rw_ : r.w = n.W
 rh : r.h = n.H
 br : l.br = false
theorem PnApart.keep {N : Nat} {n n' : Pn} {x : Sr} {p : Pal} {r r' : Ras} (h : PnApart N n x p r) (h1 : n'.X = n.X) (h2 : n'.P = n.P) (h3 : n'.R = n.R) (h4 : r'.L = r.L) (h5 : r'.B = r.B) (h6 : r'.b.g = r.b.g) : PnApart N n' x p r' := by
 obtain ⟨a1, a2, a3, a4, a5, a6, a7, a8, a9, a10, a11, a12, a13, a14, a15, a16, a17, a18, a19, a20, a21⟩ := h
 constructor <;> (first | (rw [h1] ; assumption) | (rw [h1, h6]; assumption) | skip) <;> (try rw [h1]) <;> (try rw [h2]) <;> (try rw [h3]) <;> (try rw [h4]) <;> (try rw [h5]) <;> (try rw [h6]) <;> assumption
theorem JobAt.keep {w w' : World} {N : Nat} {n : Pn} {x : Sr} {l : Led} {p : Pal} {r : Ras} (h : JobAt w N n x l p r) (hc : Chg (fun _ => False) w w') : JobAt w' N n x l p r :=
 ⟨hc.obj h.pn (fun h => h), ⟨h.pr.src.chg hc (fun h => h), h.pr.led.chg hc (fun h => h)⟩, h.pal.chg hc (fun h => h) (fun h => h) (fun h => h), h.ras.chg hc (fun h => h) (fun h => h) (fun h => h), h.ap, h.op, h.rw_, h.rh, h.br⟩
end Go.Proofs.YtfchnibjjokmbaaGreat

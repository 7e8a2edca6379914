/- dibrle.painter.put, walked. -/
import Derived.Test.YtlfbaggcfaenlaaGreatK22
import Derived.Test.YtlfbaggcfaenlaaGreatK0
namespace Go.Proofs.YtlfbaggcfaenlaaGreat
open Go.RowKit
set_option linter.unusedVariables false
set_option linter.unusedSimpArgs false
theorem range_chgU {S : Nat → Prop} {w w' : World} {b o : Nat} {L : List Value} (h : w.rangeAt b o L) (hc : Chg S w w') (hlt : b < w.heap.size) (hn : ¬ S b) : w'.rangeAt b o L := fun j v hv => (hc.cell hlt hn).trans (h j v hv)
structure PnApart (N : Nat) (n : Pn) (x : Sr) (p : Pal) (r : Ras) : Prop where
  rl : r.L = x.L
  a1 : N ≠ n.X
  a2 : N ≠ x.L
  a3 : N ≠ n.P
  a4 : N ≠ p.B
  a5 : N ≠ p.b.g
  a6 : N ≠ n.R
  a7 : N ≠ r.B
  a8 : N ≠ r.b.g
  b1 : n.X ≠ r.b.g
  b2 : n.P ≠ r.b.g
  b3 : p.B ≠ r.b.g
  b4 : p.b.g ≠ r.b.g
  c1 : n.P ≠ x.L
  c2 : p.B ≠ x.L
  c3 : p.b.g ≠ x.L
  d1 : n.P ≠ n.X
  d2 : p.B ≠ n.X
  d3 : p.b.g ≠ n.X
  e1 : n.R ≠ n.X
  e2 : r.B ≠ n.X
def PutPost (w : World) (N : Nat) (n : Pn) (x : Sr) (l : Led) (r : Ras) (c0 c1 c2 c3 : Int) (e : Ending) (w' : World) : Prop :=
  (if (r.set l n.x ((n.H : Int) - 1 - n.y) c0 c1 c2 c3).2 = true then e = .returned (flt 0 0 0) ∧ PnAt w' N { n with x := n.x + 1 } else e = .returned (.agg (faultL x (r.set l n.x ((n.H : Int) - 1 - n.y) c0 c1 c2 c3).1.2 n.f).toArray) ∧ PnAt w' N n) ∧
  Pair w' n.X x (r.set l n.x ((n.H : Int) - 1 - n.y) c0 c1 c2 c3).1.2 ∧ RasAt w' n.R (r.set l n.x ((n.H : Int) - 1 - n.y) c0 c1 c2 c3).1.1 ∧ Chg (fun k => k = N ∨ k = x.L ∨ k = r.b.g) w w'
set_option maxRecDepth 100000 in
set_option maxHeartbeats 8000000 in
theorem pput_any (N : Nat) (n : Pn) (x : Sr) (l : Led) (p : Pal) (r : Ras) (c0 c1 c2 c3 : Int) (w : World) (h : PnAt w N n) (hx : Pair w n.X x l) (hr : RasAt w n.R r) (ha : PnApart N n x p r) (hxb : n.x ≤ 100000) (hHb : n.H ≤ 100000) (hyb : n.y ≤ 100000) (hro : r.op = true)
    (h0 : 0 ≤ c0 ∧ c0 < 256) (h1 : 0 ≤ c1 ∧ c1 < 256) (h2 : 0 ≤ c2 ∧ c2 < 256) (h3 : 0 ≤ c3 ∧ c3 < 256) : Calls Tryz.prog 156 #[.pointer (some ⟨N, 0, none⟩), .agg #[.int .u8 c0, .int .u8 c1, .int .u8 c2, .int .u8 c3]] w (PutPost w N n x l r c0 c1 c2 c3) := by
  have hC := ((Chg.refl (fun _ => False) w).alloc (.cells #[.int .u8 c0, .int .u8 c1, .int .u8 c2, .int .u8 c3] 185)).alloc (.cells #[.int .i64 0, .int .i64 0, .int .i64 0] 39)
  have HN := Hi (hC.obj h (fun h => h))
  have O3 := Hi ((obj1_new w #[.int .u8 c0, .int .u8 c1, .int .u8 c2, .int .u8 c3] 185).alloc (.cells #[.int .i64 0, .int .i64 0, .int .i64 0] 39))
  have OF := Hi (obj1_new (w.alloc (.cells #[.int .u8 c0, .int .u8 c1, .int .u8 c2, .int .u8 c3] 185)) #[.int .i64 0, .int .i64 0, .int .i64 0] 39)
  obtain ⟨d, hd⟩ : ∃ d, w.heap.size = d := ⟨_, rfl⟩
  have HDe := Hi hd
  rw [show (w.alloc (.cells #[.int .u8 c0, .int .u8 c1, .int .u8 c2, .int .u8 c3] 185)).heap.size = d + 1 by rw [← hd]; simp] at OF
  rw [hd] at O3
  have HPR := Hi (show Pair _ n.X x l from ⟨hx.src.chg hC (fun h => h), hx.led.chg hC (fun h => h)⟩)
  have HRA := Hi (hr.chg hC (fun h => h) (fun h => h) (fun h => h))
  have CH := Hi (hC.mono (S' := fun k => k = N ∨ k = x.L ∨ k = r.b.g) (fun _ _ h => h.elim))
  have HA := Hi ha
  have lN := h.lt
  have lX := hx.src.lt
  have lL := hx.led.lt
  have lR := hr.lt
  have lg := hr.buf.glt (hr.opn.trans hro)
  have lB := hr.buf.lt
  rw [hd] at lN lX lL lR lg lB
  have hNL := ha.a2
  have hNg := ha.a8
  have hNR := ha.a6
  have hNB := ha.a7
  have hNX := ha.a1
  have hrl := ha.rl
  have HST := Hi (fun w0 (hA : RasAt w0 n.R r) (hL : LedAt w0 x.L l) => (rset_any n.R r l n.x ((n.H : Int) - 1 - n.y) c0 c1 c2 c3 w0 hA (by rw [hrl]; exact hL) h0 h1 h2 h3).mono (R' := fun e w' => e = .returned (.bool (r.set l n.x ((n.H : Int) - 1 - n.y) c0 c1 c2 c3).2) ∧ RasAt w' n.R (r.set l n.x ((n.H : Int) - 1 - n.y) c0 c1 c2 c3).1.1 ∧ LedAt w' x.L (r.set l n.x ((n.H : Int) - 1 - n.y) c0 c1 c2 c3).1.2 ∧ Chg (fun k => k = x.L ∨ k = r.b.g) w0 w') fun e w' hh => by
    unfold rsS at hh; rw [hrl] at hh; exact hh)
  obtain ⟨Q, hQ⟩ : ∃ Q, r.set l n.x ((n.H : Int) - 1 - n.y) c0 c1 c2 c3 = Q := ⟨_, rfl⟩
  have HQ := Hi hQ
  rw [hQ] at HST
  have HQB := Hi (show Q.1.1.B = r.B ∧ Q.1.1.b.g = r.b.g by rw [← hQ]; unfold Ras.set; split <;> (try split) <;> exact ⟨rfl, rfl⟩)
  have HXLn := Hi hx.src.ne
  have HXG := Hi ha.b1
  obtain ⟨px, hpx⟩ : ∃ v, n.x = v := ⟨_, rfl⟩
  obtain ⟨py, hpy⟩ : ∃ v, n.y = v := ⟨_, rfl⟩
  obtain ⟨H, hH⟩ : ∃ v, n.H = v := ⟨_, rfl⟩
  obtain ⟨LL, hLL⟩ : ∃ v, x.L = v := ⟨_, rfl⟩
  obtain ⟨g, hg⟩ : ∃ v, r.b.g = v := ⟨_, rfl⟩
  obtain ⟨RR, hRR⟩ : ∃ v, n.R = v := ⟨_, rfl⟩
  obtain ⟨XX, hXX⟩ : ∃ v, n.X = v := ⟨_, rfl⟩
  obtain ⟨f, hf⟩ : ∃ v, n.f = v := ⟨_, rfl⟩
  have EN := Hi (show n.cells = [.pointer (some ⟨XX, 0, none⟩), n.q 0, .int .i64 n.W, .int .i64 H, n.q 1, .int .i64 n.dp, n.q 2, n.q 3, n.q 4, n.q 5, n.q 6, n.q 7, n.q 8, n.q 9, n.q 10, n.q 11, n.q 12, .pointer (some ⟨n.P, 0, none⟩), .pointer (some ⟨RR, 0, none⟩), .int .i64 f, .int .i64 px, .int .i64 py] by unfold Pn.cells; rw [hXX, hH, hRR, hf, hpx, hpy])
  have EN2 := Hi (show Pn.cells { n with x := n.x + 1 } = [.pointer (some ⟨XX, 0, none⟩), n.q 0, .int .i64 n.W, .int .i64 H, n.q 1, .int .i64 n.dp, n.q 2, n.q 3, n.q 4, n.q 5, n.q 6, n.q 7, n.q 8, n.q 9, n.q 10, n.q 11, n.q 12, .pointer (some ⟨n.P, 0, none⟩), .pointer (some ⟨RR, 0, none⟩), .int .i64 f, .int .i64 ((px : Int) + 1), .int .i64 py] by
    have e1 : ((n.x + 1 : Nat) : Int) = (px : Int) + 1 := by rw [hpx]; omega
    show [Value.pointer (some ⟨n.X, 0, none⟩), n.q 0, .int .i64 n.W, .int .i64 n.H, n.q 1, .int .i64 n.dp, n.q 2, n.q 3, n.q 4, n.q 5, n.q 6, n.q 7, n.q 8, n.q 9, n.q 10, n.q 11, n.q 12, .pointer (some ⟨n.P, 0, none⟩), .pointer (some ⟨n.R, 0, none⟩), .int .i64 n.f, .int .i64 ((n.x + 1 : Nat) : Int), .int .i64 n.y] = _
    rw [e1, hXX, hH, hRR, hf, hpy])
  have HPN := Hi (show ∀ e w', (if Q.2 = true then e = .returned (flt 0 0 0) ∧ PnAt w' N { n with x := n.x + 1 } else e = .returned (.agg (faultL x Q.1.2 f).toArray) ∧ PnAt w' N n) ∧ Pair w' XX x Q.1.2 ∧ RasAt w' RR Q.1.1 ∧ Chg (fun k => k = N ∨ k = LL ∨ k = g) w w' → PutPost w N n x l r c0 c1 c2 c3 e w' from fun e w' hh => by
    rw [← hXX, ← hRR, ← hLL, ← hg, ← hf, ← hQ] at hh; exact hh)
  have HN := Hi (show Obj1 _ N (List.toArray [.pointer (some ⟨XX, 0, none⟩), n.q 0, .int .i64 n.W, .int .i64 H, n.q 1, .int .i64 n.dp, n.q 2, n.q 3, n.q 4, n.q 5, n.q 6, n.q 7, n.q 8, n.q 9, n.q 10, n.q 11, n.q 12, .pointer (some ⟨n.P, 0, none⟩), .pointer (some ⟨RR, 0, none⟩), .int .i64 f, .int .i64 px, .int .i64 py]) 159 by rw [← EN.out]; exact HN.out)
  rw [hpx] at hxb
  rw [hpy] at hyb
  rw [hH] at hHb
  rw [hLL] at HST hNL CH lL HXLn
  rw [hg] at HST hNg CH lg HQB HXG
  rw [hRR] at HST HRA hNR lR
  rw [hXX] at HPR hNX lX HXLn HXG
  rw [hpx, hpy, hH] at HST
  have hLLe := Hi hLL
  have HXL := Hi (show x.L = LL from hLL)
  rw [show Pair _ XX x l = Pair _ XX x l from rfl] at HPR
  clear h hx hr ha hC hrl hQ hpx hpy hH hLL hg hRR hXX hf h0 h1 h2 h3
  have hNB2 : N ≠ r.B := hNB
  have HPR2 := Hi (fun (w0 : World) (h : Pair w0 XX x l) => (show LedAt w0 LL l from by rw [← HXL.out]; exact h.led))
  cases hok : Q.2 with
  | true =>
   as_aux_lemma =>
    have HOK := Hi hok
    have HST := Hi (fun w0 hA hL => (HST.out w0 hA hL).mono (R' := fun e w' => e = .returned (.bool true) ∧ RasAt w' RR Q.1.1 ∧ LedAt w' LL Q.1.2 ∧ Chg (fun k => k = LL ∨ k = g) w0 w') fun e w' hh => by rw [hok] at hh; exact hh)
    clear hok
    go_enter Tryz.func156, Tryz.ntmps156
    go_upto_region 1 with (fail)
    clear hd
    generalize World.alloc _ _ = wr at OF O3 CH HN HPR HRA ⊢
    have lf := OF.out.lt
    refine wp_region_noPanic ?_
    refine wp_region_held_drew (S := fun w' => Chg (fun k => k = LL ∨ k = g) wr w') (by kernel_rfl) (Chg.refl _ _).drew (fun hHeld => ?_)
    refine wpAnyH_take (i := 0) (v := .pointer (some ⟨N, 0, none⟩)) rfl (by kernel_rfl) (by kernel_rfl) (by kernel_rfl) (fun _ _ _ h => h) (Or.inl ⟨by rfl, fun w hS => by (go_simp) <;> first | rfl | assumption | (intro hh; exfalso; omega) | (exact (i64_wraps _ (by omega) (by omega)).trans (by omega)) | omega⟩) hHeld ?_
    simp only [Act.put, zq1, zq2, zq3, zq4, zq5, zq6]
    refine wpAnyH_take (i := 1) (v := .pointer (some ⟨N, 0, none⟩)) rfl (by kernel_rfl) (by kernel_rfl) (by kernel_rfl) (fun _ _ _ h => h) (Or.inl ⟨by rfl, fun w hS => by (go_simp) <;> first | rfl | assumption | (intro hh; exfalso; omega) | (exact (i64_wraps _ (by omega) (by omega)).trans (by omega)) | omega⟩) hHeld ?_
    simp only [Act.put, zq1, zq2, zq3, zq4, zq5, zq6]
    refine wpAnyH_take (i := 2) (v := .pointer (some ⟨N, 18, none⟩)) rfl (by kernel_rfl) (by kernel_rfl) (by kernel_rfl) (fun _ _ _ h => h) (Or.inl ⟨by rfl, fun w hS => by (go_simp) <;> first | rfl | assumption | (intro hh; exfalso; omega) | (exact (i64_wraps _ (by omega) (by omega)).trans (by omega)) | omega⟩) hHeld ?_
    simp only [Act.put, zq1, zq2, zq3, zq4, zq5, zq6]
    refine wpAnyH_take (i := 3) (v := .pointer (some ⟨RR, 0, none⟩)) rfl (by kernel_rfl) (by kernel_rfl) (by kernel_rfl) (fun _ _ _ h => h) (Or.inl ⟨by rfl, fun w hS => by (have hc : w.cell? ⟨N, 18, none⟩ = some (.pointer (some ⟨RR, 0, none⟩)) := (hS.cell (b := N) (o := 18) (by omega) (show ¬ (N = LL ∨ N = g) by omega)).trans ((HN.out.cell 18).trans rfl); go_simp)⟩) hHeld ?_
    simp only [Act.put, zq1, zq2, zq3, zq4, zq5, zq6]
    refine wpAnyH_take (i := 4) (v := .pointer (some ⟨N, 0, none⟩)) rfl (by kernel_rfl) (by kernel_rfl) (by kernel_rfl) (fun _ _ _ h => h) (Or.inl ⟨by rfl, fun w hS => by (go_simp) <;> first | rfl | assumption | (intro hh; exfalso; omega) | (exact (i64_wraps _ (by omega) (by omega)).trans (by omega)) | omega⟩) hHeld ?_
    simp only [Act.put, zq1, zq2, zq3, zq4, zq5, zq6]
    refine wpAnyH_take (i := 5) (v := .pointer (some ⟨N, 0, none⟩)) rfl (by kernel_rfl) (by kernel_rfl) (by kernel_rfl) (fun _ _ _ h => h) (Or.inl ⟨by rfl, fun w hS => by (go_simp) <;> first | rfl | assumption | (intro hh; exfalso; omega) | (exact (i64_wraps _ (by omega) (by omega)).trans (by omega)) | omega⟩) hHeld ?_
    simp only [Act.put, zq1, zq2, zq3, zq4, zq5, zq6]
    refine wpAnyH_take (i := 6) (v := .pointer (some ⟨N, 20, none⟩)) rfl (by kernel_rfl) (by kernel_rfl) (by kernel_rfl) (fun _ _ _ h => h) (Or.inl ⟨by rfl, fun w hS => by (go_simp) <;> first | rfl | assumption | (intro hh; exfalso; omega) | (exact (i64_wraps _ (by omega) (by omega)).trans (by omega)) | omega⟩) hHeld ?_
    simp only [Act.put, zq1, zq2, zq3, zq4, zq5, zq6]
    refine wpAnyH_take (i := 7) (v := .int .i64 (px : Int)) rfl (by kernel_rfl) (by kernel_rfl) (by kernel_rfl) (fun _ _ _ h => h) (Or.inl ⟨by rfl, fun w hS => by (have hc : w.cell? ⟨N, 20, none⟩ = some (.int .i64 (px : Int)) := (hS.cell (b := N) (o := 20) (by omega) (show ¬ (N = LL ∨ N = g) by omega)).trans ((HN.out.cell 20).trans rfl); go_simp)⟩) hHeld ?_
    simp only [Act.put, zq1, zq2, zq3, zq4, zq5, zq6]
    refine wpAnyH_take (i := 8) (v := .pointer (some ⟨N, 0, none⟩)) rfl (by kernel_rfl) (by kernel_rfl) (by kernel_rfl) (fun _ _ _ h => h) (Or.inl ⟨by rfl, fun w hS => by (go_simp) <;> first | rfl | assumption | (intro hh; exfalso; omega) | (exact (i64_wraps _ (by omega) (by omega)).trans (by omega)) | omega⟩) hHeld ?_
    simp only [Act.put, zq1, zq2, zq3, zq4, zq5, zq6]
    refine wpAnyH_take (i := 9) (v := .pointer (some ⟨N, 0, none⟩)) rfl (by kernel_rfl) (by kernel_rfl) (by kernel_rfl) (fun _ _ _ h => h) (Or.inl ⟨by rfl, fun w hS => by (go_simp) <;> first | rfl | assumption | (intro hh; exfalso; omega) | (exact (i64_wraps _ (by omega) (by omega)).trans (by omega)) | omega⟩) hHeld ?_
    simp only [Act.put, zq1, zq2, zq3, zq4, zq5, zq6]
    refine wpAnyH_take (i := 10) (v := .pointer (some ⟨N, 1, none⟩)) rfl (by kernel_rfl) (by kernel_rfl) (by kernel_rfl) (fun _ _ _ h => h) (Or.inl ⟨by rfl, fun w hS => by (go_simp) <;> first | rfl | assumption | (intro hh; exfalso; omega) | (exact (i64_wraps _ (by omega) (by omega)).trans (by omega)) | omega⟩) hHeld ?_
    simp only [Act.put, zq1, zq2, zq3, zq4, zq5, zq6]
    refine wpAnyH_take (i := 11) (v := .pointer (some ⟨N, 3, none⟩)) rfl (by kernel_rfl) (by kernel_rfl) (by kernel_rfl) (fun _ _ _ h => h) (Or.inl ⟨by rfl, fun w hS => by (go_simp) <;> first | rfl | assumption | (intro hh; exfalso; omega) | (exact (i64_wraps _ (by omega) (by omega)).trans (by omega)) | omega⟩) hHeld ?_
    simp only [Act.put, zq1, zq2, zq3, zq4, zq5, zq6]
    refine wpAnyH_take (i := 12) (v := .int .i64 (H : Int)) rfl (by kernel_rfl) (by kernel_rfl) (by kernel_rfl) (fun _ _ _ h => h) (Or.inl ⟨by rfl, fun w hS => by (have hc : w.cell? ⟨N, 3, none⟩ = some (.int .i64 (H : Int)) := (hS.cell (b := N) (o := 3) (by omega) (show ¬ (N = LL ∨ N = g) by omega)).trans ((HN.out.cell 3).trans rfl); go_simp)⟩) hHeld ?_
    simp only [Act.put, zq1, zq2, zq3, zq4, zq5, zq6]
    refine wpAnyH_take (i := 13) (v := .int .i64 ((H : Int) - 1)) rfl (by kernel_rfl) (by kernel_rfl) (by kernel_rfl) (fun _ _ _ h => h) (Or.inl ⟨by rfl, fun w hS => by (clear hNL hNg hNR hNB hNX hNB2; go_simp; rw [IntKind.wrap_i64]; omega)⟩) hHeld ?_
    simp only [Act.put, zq1, zq2, zq3, zq4, zq5, zq6]
    refine wpAnyH_take (i := 14) (v := .pointer (some ⟨N, 0, none⟩)) rfl (by kernel_rfl) (by kernel_rfl) (by kernel_rfl) (fun _ _ _ h => h) (Or.inl ⟨by rfl, fun w hS => by (go_simp) <;> first | rfl | assumption | (intro hh; exfalso; omega) | (exact (i64_wraps _ (by omega) (by omega)).trans (by omega)) | omega⟩) hHeld ?_
    simp only [Act.put, zq1, zq2, zq3, zq4, zq5, zq6]
    refine wpAnyH_take (i := 15) (v := .pointer (some ⟨N, 0, none⟩)) rfl (by kernel_rfl) (by kernel_rfl) (by kernel_rfl) (fun _ _ _ h => h) (Or.inl ⟨by rfl, fun w hS => by (go_simp) <;> first | rfl | assumption | (intro hh; exfalso; omega) | (exact (i64_wraps _ (by omega) (by omega)).trans (by omega)) | omega⟩) hHeld ?_
    simp only [Act.put, zq1, zq2, zq3, zq4, zq5, zq6]
    refine wpAnyH_take (i := 16) (v := .pointer (some ⟨N, 21, none⟩)) rfl (by kernel_rfl) (by kernel_rfl) (by kernel_rfl) (fun _ _ _ h => h) (Or.inl ⟨by rfl, fun w hS => by (go_simp) <;> first | rfl | assumption | (intro hh; exfalso; omega) | (exact (i64_wraps _ (by omega) (by omega)).trans (by omega)) | omega⟩) hHeld ?_
    simp only [Act.put, zq1, zq2, zq3, zq4, zq5, zq6]
    refine wpAnyH_take (i := 17) (v := .int .i64 (py : Int)) rfl (by kernel_rfl) (by kernel_rfl) (by kernel_rfl) (fun _ _ _ h => h) (Or.inl ⟨by rfl, fun w hS => by (have hc : w.cell? ⟨N, 21, none⟩ = some (.int .i64 (py : Int)) := (hS.cell (b := N) (o := 21) (by omega) (show ¬ (N = LL ∨ N = g) by omega)).trans ((HN.out.cell 21).trans rfl); go_simp)⟩) hHeld ?_
    simp only [Act.put, zq1, zq2, zq3, zq4, zq5, zq6]
    refine wpAnyH_take (i := 18) (v := .int .i64 ((H : Int) - 1 - (py : Int))) rfl (by kernel_rfl) (by kernel_rfl) (by kernel_rfl) (fun _ _ _ h => h) (Or.inl ⟨by rfl, fun w hS => by (clear hNL hNg hNR hNB hNX hNB2; go_simp; rw [IntKind.wrap_i64]; omega)⟩) hHeld ?_
    simp only [Act.put, zq1, zq2, zq3, zq4, zq5, zq6]
    refine wpAnyH_take (i := 19) (v := .agg (List.toArray ([.int .u8 c0, .int .u8 c1, .int .u8 c2, .int .u8 c3]))) rfl (by kernel_rfl) (by kernel_rfl) (by kernel_rfl) (fun _ _ _ h => h) (yieldsIf_load_mid (by rfl) 185 _ rfl (d) (0) rfl ([.int .u8 c0, .int .u8 c1, .int .u8 c2, .int .u8 c3]) _ (fun w hS => range_chgU O3.out.range0 hS (by omega) (show ¬ (d = LL ∨ d = g) by omega)) Tryz.underlying185 rfl (by kernel_rfl)) hHeld ?_
    simp only [Act.put, zq1, zq2, zq3, zq4, zq5, zq6]
    have hS := (Chg.refl (fun k => k = LL ∨ k = g) wr).drew
    have hF := (Chg.refl (fun _ => False) wr).drew
    generalize World.drew _ = wk at hS hF ⊢
    refine wpAnyH_ready (rs := [20]) (by kernel_rfl) (by simp) ?_
    refine AllReadyH.cons (o := _) rfl (fun K' hK => ?_) AllReadyH.nil
    go_simp
    with_reducible refine (HST.out _ (HRA.out.chg hF (fun h => h) (fun h => h) (fun h => h)) (HPR2.out _ ⟨HPR.out.src.chg hF (fun h => h), HPR.out.led.chg hF (fun h => h)⟩)).mono ?_
    rintro e5 w5 ⟨rfl, hR5, hL5, hC5⟩
    go_wp2_with fail
    have hS2 := hS.trans hC5
    refine hK _ _ hS2 (fun hH2 => ?_)
    clear hK K'
    try simp only [Act.put, zq1, zq2, zq3, zq4, zq5, zq6]
    refine wpAnyH_take (i := 21) (v := .bool false) rfl (by kernel_rfl) (by kernel_rfl) (by kernel_rfl) (fun _ _ _ h => h) (Or.inl ⟨by rfl, fun w hS => by go_simp⟩) hH2 ?_
    simp only [Act.put, zq1, zq2, zq3, zq4, zq5, zq6]
    refine wpAnyH_done (by kernel_rfl) ?_ _
    refine NoPanic.normal ?_
    have hF2 := CH.out.trans ((hS2.mono (S' := fun k => k = N ∨ k = LL ∨ k = g) (fun k _ hk => Or.inr hk)))
    have CH := Hi hF2
    have HN := Hi (hS2.obj HN.out (show ¬ (N = LL ∨ N = g) by omega))
    have OF := Hi (hS2.obj OF.out (show ¬ (d + 1 = LL ∨ d + 1 = g) by omega))
    have hXg : XX ≠ g := HXG.out
    have hXLn : XX ≠ LL := HXLn.out
    have HP2 := Hi (show SrcAt w5 XX x from HPR.out.src.chg hS2 (show ¬ (XX = LL ∨ XX = g) by omega))
    have HL2 := Hi hL5
    have HR2 := Hi hR5
    clear hS hF hS2 hC5 hL5 hR5 hF2 hH2
    have k20 := (HN.out.cell 20).trans (show _ = some (.int .i64 (px : Int)) from rfl)
    have f20 := HN.out.frozen 20
    go_upto_region 4 with (fail)
    have HN := Hi ((HN.out.set 20 (.int .i64 ((px : Int) + 1))).cells (show _ = List.toArray [.pointer (some ⟨XX, 0, none⟩), n.q 0, .int .i64 n.W, .int .i64 H, n.q 1, .int .i64 n.dp, n.q 2, n.q 3, n.q 4, n.q 5, n.q 6, n.q 7, n.q 8, n.q 9, n.q 10, n.q 11, n.q 12, .pointer (some ⟨n.P, 0, none⟩), .pointer (some ⟨RR, 0, none⟩), .int .i64 f, .int .i64 ((px : Int) + 1), .int .i64 py] from rfl))
    have OF := Hi (OF.out.set_other ⟨N, 20, none⟩ (.int .i64 ((px : Int) + 1)) (by simp; omega))
    have hcN := (Chg.refl (fun k => k = N) w5).set ⟨N, 20, none⟩ (.int .i64 ((px : Int) + 1)) (Or.inl rfl)
    have HP2 := Hi (HP2.out.chg hcN (show ¬ XX = N by omega))
    have HL2 := Hi (HL2.out.chg hcN (show ¬ LL = N by omega))
    have HR2 := Hi (HR2.out.chg hcN (show ¬ RR = N by omega) (by rw [HQB.out.1]; show ¬ r.B = N; omega) (by rw [HQB.out.2]; show ¬ g = N; omega))
    have CH := Hi (CH.out.trans (hcN.mono (fun k _ hk => Or.inl hk)))
    generalize World.setCell _ _ _ = w6 at HN OF HP2 HL2 HR2 CH ⊢
    clear k20 f20 hcN
    go_wp2_with (refine store_o rfl 39 3 _ _ rfl (d + 1) [.int .i64 0, .int .i64 0, .int .i64 0] rfl rfl (by kernel_rfl) (by kernel_rfl) (by kernel_rfl) OF.out (by first | rfl | simp) ?_; intro ws hst hO; have OF := Hi hO; have hcs := Stored.chgS (S := fun k => k = d + 1) hst (Chg.refl _ w6) (Or.inl rfl); have HN := Hi (hcs.obj HN.out (show ¬ N = d + 1 by omega)); have HP2 := Hi (HP2.out.chg hcs (show ¬ XX = d + 1 by omega)); have HL2 := Hi (HL2.out.chg hcs (show ¬ LL = d + 1 by omega)); have HR2 := Hi (HR2.out.chg hcs (show ¬ RR = d + 1 by omega) (by rw [HQB.out.1]; show ¬ r.B = d + 1; omega) (by rw [HQB.out.2]; show ¬ g = d + 1; omega)); have CH := Hi (Stored.chgS hst CH.out (Or.inr (by have := HDe.out; omega))); clear hst hO hcs)
    refine bodyPost_ret (v := .agg (List.toArray [.int .i64 0, .int .i64 0, .int .i64 0])) ?_ rfl (HPN.out _ _ ⟨?_, ⟨HP2.out, by rw [HXL.out]; exact HL2.out⟩, HR2.out, CH.out⟩)
    · exact results_c Tryz.results156 _ _ _ [.int .i64 0, .int .i64 0, .int .i64 0] _ rfl OF.out.range0 Tryz.underlying39 rfl (by kernel_rfl)
    · rw [if_pos HOK.out]
      refine ⟨rfl, ?_⟩
      show Obj1 _ N (Pn.cells { n with x := n.x + 1 }).toArray _
      rw [EN2.out]
      exact HN.out
  | false =>
   as_aux_lemma =>
    have HOK := Hi hok
    have HST := Hi (fun w0 hA hL => (HST.out w0 hA hL).mono (R' := fun e w' => e = .returned (.bool false) ∧ RasAt w' RR Q.1.1 ∧ LedAt w' LL Q.1.2 ∧ Chg (fun k => k = LL ∨ k = g) w0 w') fun e w' hh => by rw [hok] at hh; exact hh)
    clear hok
    go_enter Tryz.func156, Tryz.ntmps156
    go_upto_region 1 with (fail)
    clear hd
    generalize World.alloc _ _ = wr at OF O3 CH HN HPR HRA ⊢
    have lf := OF.out.lt
    refine wp_region_noPanic ?_
    refine wp_region_held_drew (S := fun w' => Chg (fun k => k = LL ∨ k = g) wr w') (by kernel_rfl) (Chg.refl _ _).drew (fun hHeld => ?_)
    refine wpAnyH_take (i := 0) (v := .pointer (some ⟨N, 0, none⟩)) rfl (by kernel_rfl) (by kernel_rfl) (by kernel_rfl) (fun _ _ _ h => h) (Or.inl ⟨by rfl, fun w hS => by (go_simp) <;> first | rfl | assumption | (intro hh; exfalso; omega) | (exact (i64_wraps _ (by omega) (by omega)).trans (by omega)) | omega⟩) hHeld ?_
    simp only [Act.put, zq1, zq2, zq3, zq4, zq5, zq6]
    refine wpAnyH_take (i := 1) (v := .pointer (some ⟨N, 0, none⟩)) rfl (by kernel_rfl) (by kernel_rfl) (by kernel_rfl) (fun _ _ _ h => h) (Or.inl ⟨by rfl, fun w hS => by (go_simp) <;> first | rfl | assumption | (intro hh; exfalso; omega) | (exact (i64_wraps _ (by omega) (by omega)).trans (by omega)) | omega⟩) hHeld ?_
    simp only [Act.put, zq1, zq2, zq3, zq4, zq5, zq6]
    refine wpAnyH_take (i := 2) (v := .pointer (some ⟨N, 18, none⟩)) rfl (by kernel_rfl) (by kernel_rfl) (by kernel_rfl) (fun _ _ _ h => h) (Or.inl ⟨by rfl, fun w hS => by (go_simp) <;> first | rfl | assumption | (intro hh; exfalso; omega) | (exact (i64_wraps _ (by omega) (by omega)).trans (by omega)) | omega⟩) hHeld ?_
    simp only [Act.put, zq1, zq2, zq3, zq4, zq5, zq6]
    refine wpAnyH_take (i := 3) (v := .pointer (some ⟨RR, 0, none⟩)) rfl (by kernel_rfl) (by kernel_rfl) (by kernel_rfl) (fun _ _ _ h => h) (Or.inl ⟨by rfl, fun w hS => by (have hc : w.cell? ⟨N, 18, none⟩ = some (.pointer (some ⟨RR, 0, none⟩)) := (hS.cell (b := N) (o := 18) (by omega) (show ¬ (N = LL ∨ N = g) by omega)).trans ((HN.out.cell 18).trans rfl); go_simp)⟩) hHeld ?_
    simp only [Act.put, zq1, zq2, zq3, zq4, zq5, zq6]
    refine wpAnyH_take (i := 4) (v := .pointer (some ⟨N, 0, none⟩)) rfl (by kernel_rfl) (by kernel_rfl) (by kernel_rfl) (fun _ _ _ h => h) (Or.inl ⟨by rfl, fun w hS => by (go_simp) <;> first | rfl | assumption | (intro hh; exfalso; omega) | (exact (i64_wraps _ (by omega) (by omega)).trans (by omega)) | omega⟩) hHeld ?_
    simp only [Act.put, zq1, zq2, zq3, zq4, zq5, zq6]
    refine wpAnyH_take (i := 5) (v := .pointer (some ⟨N, 0, none⟩)) rfl (by kernel_rfl) (by kernel_rfl) (by kernel_rfl) (fun _ _ _ h => h) (Or.inl ⟨by rfl, fun w hS => by (go_simp) <;> first | rfl | assumption | (intro hh; exfalso; omega) | (exact (i64_wraps _ (by omega) (by omega)).trans (by omega)) | omega⟩) hHeld ?_
    simp only [Act.put, zq1, zq2, zq3, zq4, zq5, zq6]
    refine wpAnyH_take (i := 6) (v := .pointer (some ⟨N, 20, none⟩)) rfl (by kernel_rfl) (by kernel_rfl) (by kernel_rfl) (fun _ _ _ h => h) (Or.inl ⟨by rfl, fun w hS => by (go_simp) <;> first | rfl | assumption | (intro hh; exfalso; omega) | (exact (i64_wraps _ (by omega) (by omega)).trans (by omega)) | omega⟩) hHeld ?_
    simp only [Act.put, zq1, zq2, zq3, zq4, zq5, zq6]
    refine wpAnyH_take (i := 7) (v := .int .i64 (px : Int)) rfl (by kernel_rfl) (by kernel_rfl) (by kernel_rfl) (fun _ _ _ h => h) (Or.inl ⟨by rfl, fun w hS => by (have hc : w.cell? ⟨N, 20, none⟩ = some (.int .i64 (px : Int)) := (hS.cell (b := N) (o := 20) (by omega) (show ¬ (N = LL ∨ N = g) by omega)).trans ((HN.out.cell 20).trans rfl); go_simp)⟩) hHeld ?_
    simp only [Act.put, zq1, zq2, zq3, zq4, zq5, zq6]
    refine wpAnyH_take (i := 8) (v := .pointer (some ⟨N, 0, none⟩)) rfl (by kernel_rfl) (by kernel_rfl) (by kernel_rfl) (fun _ _ _ h => h) (Or.inl ⟨by rfl, fun w hS => by (go_simp) <;> first | rfl | assumption | (intro hh; exfalso; omega) | (exact (i64_wraps _ (by omega) (by omega)).trans (by omega)) | omega⟩) hHeld ?_
    simp only [Act.put, zq1, zq2, zq3, zq4, zq5, zq6]
    refine wpAnyH_take (i := 9) (v := .pointer (some ⟨N, 0, none⟩)) rfl (by kernel_rfl) (by kernel_rfl) (by kernel_rfl) (fun _ _ _ h => h) (Or.inl ⟨by rfl, fun w hS => by (go_simp) <;> first | rfl | assumption | (intro hh; exfalso; omega) | (exact (i64_wraps _ (by omega) (by omega)).trans (by omega)) | omega⟩) hHeld ?_
    simp only [Act.put, zq1, zq2, zq3, zq4, zq5, zq6]
    refine wpAnyH_take (i := 10) (v := .pointer (some ⟨N, 1, none⟩)) rfl (by kernel_rfl) (by kernel_rfl) (by kernel_rfl) (fun _ _ _ h => h) (Or.inl ⟨by rfl, fun w hS => by (go_simp) <;> first | rfl | assumption | (intro hh; exfalso; omega) | (exact (i64_wraps _ (by omega) (by omega)).trans (by omega)) | omega⟩) hHeld ?_
    simp only [Act.put, zq1, zq2, zq3, zq4, zq5, zq6]
    refine wpAnyH_take (i := 11) (v := .pointer (some ⟨N, 3, none⟩)) rfl (by kernel_rfl) (by kernel_rfl) (by kernel_rfl) (fun _ _ _ h => h) (Or.inl ⟨by rfl, fun w hS => by (go_simp) <;> first | rfl | assumption | (intro hh; exfalso; omega) | (exact (i64_wraps _ (by omega) (by omega)).trans (by omega)) | omega⟩) hHeld ?_
    simp only [Act.put, zq1, zq2, zq3, zq4, zq5, zq6]
    refine wpAnyH_take (i := 12) (v := .int .i64 (H : Int)) rfl (by kernel_rfl) (by kernel_rfl) (by kernel_rfl) (fun _ _ _ h => h) (Or.inl ⟨by rfl, fun w hS => by (have hc : w.cell? ⟨N, 3, none⟩ = some (.int .i64 (H : Int)) := (hS.cell (b := N) (o := 3) (by omega) (show ¬ (N = LL ∨ N = g) by omega)).trans ((HN.out.cell 3).trans rfl); go_simp)⟩) hHeld ?_
    simp only [Act.put, zq1, zq2, zq3, zq4, zq5, zq6]
    refine wpAnyH_take (i := 13) (v := .int .i64 ((H : Int) - 1)) rfl (by kernel_rfl) (by kernel_rfl) (by kernel_rfl) (fun _ _ _ h => h) (Or.inl ⟨by rfl, fun w hS => by (clear hNL hNg hNR hNB hNX hNB2; go_simp; rw [IntKind.wrap_i64]; omega)⟩) hHeld ?_
    simp only [Act.put, zq1, zq2, zq3, zq4, zq5, zq6]
    refine wpAnyH_take (i := 14) (v := .pointer (some ⟨N, 0, none⟩)) rfl (by kernel_rfl) (by kernel_rfl) (by kernel_rfl) (fun _ _ _ h => h) (Or.inl ⟨by rfl, fun w hS => by (go_simp) <;> first | rfl | assumption | (intro hh; exfalso; omega) | (exact (i64_wraps _ (by omega) (by omega)).trans (by omega)) | omega⟩) hHeld ?_
    simp only [Act.put, zq1, zq2, zq3, zq4, zq5, zq6]
    refine wpAnyH_take (i := 15) (v := .pointer (some ⟨N, 0, none⟩)) rfl (by kernel_rfl) (by kernel_rfl) (by kernel_rfl) (fun _ _ _ h => h) (Or.inl ⟨by rfl, fun w hS => by (go_simp) <;> first | rfl | assumption | (intro hh; exfalso; omega) | (exact (i64_wraps _ (by omega) (by omega)).trans (by omega)) | omega⟩) hHeld ?_
    simp only [Act.put, zq1, zq2, zq3, zq4, zq5, zq6]
    refine wpAnyH_take (i := 16) (v := .pointer (some ⟨N, 21, none⟩)) rfl (by kernel_rfl) (by kernel_rfl) (by kernel_rfl) (fun _ _ _ h => h) (Or.inl ⟨by rfl, fun w hS => by (go_simp) <;> first | rfl | assumption | (intro hh; exfalso; omega) | (exact (i64_wraps _ (by omega) (by omega)).trans (by omega)) | omega⟩) hHeld ?_
    simp only [Act.put, zq1, zq2, zq3, zq4, zq5, zq6]
    refine wpAnyH_take (i := 17) (v := .int .i64 (py : Int)) rfl (by kernel_rfl) (by kernel_rfl) (by kernel_rfl) (fun _ _ _ h => h) (Or.inl ⟨by rfl, fun w hS => by (have hc : w.cell? ⟨N, 21, none⟩ = some (.int .i64 (py : Int)) := (hS.cell (b := N) (o := 21) (by omega) (show ¬ (N = LL ∨ N = g) by omega)).trans ((HN.out.cell 21).trans rfl); go_simp)⟩) hHeld ?_
    simp only [Act.put, zq1, zq2, zq3, zq4, zq5, zq6]
    refine wpAnyH_take (i := 18) (v := .int .i64 ((H : Int) - 1 - (py : Int))) rfl (by kernel_rfl) (by kernel_rfl) (by kernel_rfl) (fun _ _ _ h => h) (Or.inl ⟨by rfl, fun w hS => by (clear hNL hNg hNR hNB hNX hNB2; go_simp; rw [IntKind.wrap_i64]; omega)⟩) hHeld ?_
    simp only [Act.put, zq1, zq2, zq3, zq4, zq5, zq6]
    refine wpAnyH_take (i := 19) (v := .agg (List.toArray ([.int .u8 c0, .int .u8 c1, .int .u8 c2, .int .u8 c3]))) rfl (by kernel_rfl) (by kernel_rfl) (by kernel_rfl) (fun _ _ _ h => h) (yieldsIf_load_mid (by rfl) 185 _ rfl (d) (0) rfl ([.int .u8 c0, .int .u8 c1, .int .u8 c2, .int .u8 c3]) _ (fun w hS => range_chgU O3.out.range0 hS (by omega) (show ¬ (d = LL ∨ d = g) by omega)) Tryz.underlying185 rfl (by kernel_rfl)) hHeld ?_
    simp only [Act.put, zq1, zq2, zq3, zq4, zq5, zq6]
    have hS := (Chg.refl (fun k => k = LL ∨ k = g) wr).drew
    have hF := (Chg.refl (fun _ => False) wr).drew
    generalize World.drew _ = wk at hS hF ⊢
    refine wpAnyH_ready (rs := [20]) (by kernel_rfl) (by simp) ?_
    refine AllReadyH.cons (o := _) rfl (fun K' hK => ?_) AllReadyH.nil
    go_simp
    with_reducible refine (HST.out _ (HRA.out.chg hF (fun h => h) (fun h => h) (fun h => h)) (HPR2.out _ ⟨HPR.out.src.chg hF (fun h => h), HPR.out.led.chg hF (fun h => h)⟩)).mono ?_
    rintro e5 w5 ⟨rfl, hR5, hL5, hC5⟩
    go_wp2_with fail
    have hS2 := hS.trans hC5
    refine hK _ _ hS2 (fun hH2 => ?_)
    clear hK K'
    try simp only [Act.put, zq1, zq2, zq3, zq4, zq5, zq6]
    refine wpAnyH_take (i := 21) (v := .bool true) rfl (by kernel_rfl) (by kernel_rfl) (by kernel_rfl) (fun _ _ _ h => h) (Or.inl ⟨by rfl, fun w hS => by go_simp⟩) hH2 ?_
    simp only [Act.put, zq1, zq2, zq3, zq4, zq5, zq6]
    refine wpAnyH_done (by kernel_rfl) ?_ _
    refine NoPanic.normal ?_
    have hF2 := CH.out.trans ((hS2.mono (S' := fun k => k = N ∨ k = LL ∨ k = g) (fun k _ hk => Or.inr hk)))
    have CH := Hi hF2
    have HN := Hi (hS2.obj HN.out (show ¬ (N = LL ∨ N = g) by omega))
    have OF := Hi (hS2.obj OF.out (show ¬ (d + 1 = LL ∨ d + 1 = g) by omega))
    have hXg : XX ≠ g := HXG.out
    have hXLn : XX ≠ LL := HXLn.out
    obtain ⟨l2, hl2⟩ : ∃ l2, Q.1.2 = l2 := ⟨_, rfl⟩
    rw [hl2] at hL5 HPN
    have HP2 := Hi (show Pair w5 XX x l2 from ⟨HPR.out.src.chg hS2 (show ¬ (XX = LL ∨ XX = g) by omega), by rw [HXL.out]; exact hL5⟩)
    have HR2 := Hi hR5
    have lz := hS2.size
    clear hS hF hS2 hC5 hL5 hR5 hF2 hH2 hl2
    obtain ⟨wr, rfl⟩ : ∃ z, z = w5 := ⟨_, rfl⟩
    have lz2 := OF.out.lt
    go_upto_region 2 with (fail)
    refine wp_region_noPanic ?_
    refine wp_region_held_drew (S := fun w' => Chg (fun k => k = d + 1) wr w') (by kernel_rfl) (Chg.refl _ _).drew (fun hHeld => ?_)
    refine wpAnyH_take (i := 0) (v := .pointer (some ⟨N, 0, none⟩)) rfl (by kernel_rfl) (by kernel_rfl) (by kernel_rfl) (fun _ _ _ h => h) (Or.inl ⟨by rfl, fun w hS => by (go_simp) <;> first | rfl | assumption | (intro hh; exfalso; omega) | (exact (i64_wraps _ (by omega) (by omega)).trans (by omega)) | omega⟩) hHeld ?_
    simp only [Act.put, zq1, zq2, zq3, zq4, zq5, zq6]
    refine wpAnyH_take (i := 1) (v := .pointer (some ⟨N, 0, none⟩)) rfl (by kernel_rfl) (by kernel_rfl) (by kernel_rfl) (fun _ _ _ h => h) (Or.inl ⟨by rfl, fun w hS => by (go_simp) <;> first | rfl | assumption | (intro hh; exfalso; omega) | (exact (i64_wraps _ (by omega) (by omega)).trans (by omega)) | omega⟩) hHeld ?_
    simp only [Act.put, zq1, zq2, zq3, zq4, zq5, zq6]
    refine wpAnyH_take (i := 2) (v := .pointer (some ⟨N, 0, none⟩)) rfl (by kernel_rfl) (by kernel_rfl) (by kernel_rfl) (fun _ _ _ h => h) (Or.inl ⟨by rfl, fun w hS => by (go_simp) <;> first | rfl | assumption | (intro hh; exfalso; omega) | (exact (i64_wraps _ (by omega) (by omega)).trans (by omega)) | omega⟩) hHeld ?_
    simp only [Act.put, zq1, zq2, zq3, zq4, zq5, zq6]
    refine wpAnyH_take (i := 3) (v := .pointer (some ⟨XX, 0, none⟩)) rfl (by kernel_rfl) (by kernel_rfl) (by kernel_rfl) (fun _ _ _ h => h) (Or.inl ⟨by rfl, fun w hS => by (have hc : w.cell? ⟨N, 0, none⟩ = some (.pointer (some ⟨XX, 0, none⟩)) := (hS.cell (b := N) (o := 0) (by omega) (show ¬ N = d + 1 by omega)).trans ((HN.out.cell 0).trans rfl); go_simp)⟩) hHeld ?_
    simp only [Act.put, zq1, zq2, zq3, zq4, zq5, zq6]
    refine wpAnyH_take (i := 4) (v := .pointer (some ⟨N, 0, none⟩)) rfl (by kernel_rfl) (by kernel_rfl) (by kernel_rfl) (fun _ _ _ h => h) (Or.inl ⟨by rfl, fun w hS => by (go_simp) <;> first | rfl | assumption | (intro hh; exfalso; omega) | (exact (i64_wraps _ (by omega) (by omega)).trans (by omega)) | omega⟩) hHeld ?_
    simp only [Act.put, zq1, zq2, zq3, zq4, zq5, zq6]
    refine wpAnyH_take (i := 5) (v := .pointer (some ⟨N, 0, none⟩)) rfl (by kernel_rfl) (by kernel_rfl) (by kernel_rfl) (fun _ _ _ h => h) (Or.inl ⟨by rfl, fun w hS => by (go_simp) <;> first | rfl | assumption | (intro hh; exfalso; omega) | (exact (i64_wraps _ (by omega) (by omega)).trans (by omega)) | omega⟩) hHeld ?_
    simp only [Act.put, zq1, zq2, zq3, zq4, zq5, zq6]
    refine wpAnyH_take (i := 6) (v := .pointer (some ⟨N, 19, none⟩)) rfl (by kernel_rfl) (by kernel_rfl) (by kernel_rfl) (fun _ _ _ h => h) (Or.inl ⟨by rfl, fun w hS => by (go_simp) <;> first | rfl | assumption | (intro hh; exfalso; omega) | (exact (i64_wraps _ (by omega) (by omega)).trans (by omega)) | omega⟩) hHeld ?_
    simp only [Act.put, zq1, zq2, zq3, zq4, zq5, zq6]
    refine wpAnyH_take (i := 7) (v := .int .i64 f) rfl (by kernel_rfl) (by kernel_rfl) (by kernel_rfl) (fun _ _ _ h => h) (Or.inl ⟨by rfl, fun w hS => by (have hc : w.cell? ⟨N, 19, none⟩ = some (.int .i64 f) := (hS.cell (b := N) (o := 19) (by omega) (show ¬ N = d + 1 by omega)).trans ((HN.out.cell 19).trans rfl); go_simp)⟩) hHeld ?_
    simp only [Act.put, zq1, zq2, zq3, zq4, zq5, zq6]
    have hS := (Chg.refl (fun k => k = d + 1) wr).drew
    have hF := (Chg.refl (fun _ => False) wr).drew
    generalize World.drew _ = wk at hS hF ⊢
    refine wpAnyH_ready (rs := [8]) (by kernel_rfl) (by simp) ?_
    refine AllReadyH.cons (o := _) rfl (fun K' hK => ?_) AllReadyH.nil
    go_simp
    refine (fault8_any XX x l2 f _ ⟨HP2.out.src.chg hF (fun h => h), HP2.out.led.chg hF (fun h => h)⟩).mono ?_
    rintro e6 w6 ⟨rfl, hb6⟩
    have hF := hF.trans (chg_of_below hb6 _)
    have hS := hS.trans (chg_of_below hb6 _)
    go_wp2_with fail
    refine hK _ _ hS (fun hH2 => ?_)
    clear hK K'
    try simp only [Act.put, zq1, zq2, zq3, zq4, zq5, zq6]
    have OF := Hi (hF.obj OF.out (fun h => h))
    refine wpAnyH_ready (rs := [9]) (by kernel_rfl) (by simp) ?_
    refine AllReadyH.cons (o := _) rfl (fun K' hK => ?_) AllReadyH.nil
    rw [if_pos (by rfl)]
    refine wp_store_mid 39 _ _ rfl (d + 1) 0 (faultL x l2 f).toArray rfl rfl (by have := OF.out.there 0 3 (by simp); simpa [faultL_len] using this) (by rw [List.size_toArray, faultL_len]; kernel_rfl) (by have := faultL_one x l2 f; simpa using this) ?_
    simp only [Act.put, zq1, zq2, zq3, zq4, zq5, zq6]
    have hst : Stored w6 (d + 1) 0 (faultL x l2 f) (w6.setCells (d + 1) 0 (faultL x l2 f)) := rfl
    have OF := Hi (hst.whole OF.out (by rw [faultL_len]; rfl))
    have hS := Stored.chgS hst hS (Or.inl rfl)
    generalize World.setCells _ _ _ _ = w7 at OF hS ⊢
    clear hst
    refine hK _ _ hS (fun hH3 => ?_)
    clear hK K'
    refine wpAnyH_done (by kernel_rfl) ?_ _
    refine NoPanic.normal ?_
    have HN := Hi (hS.obj HN.out (show ¬ N = d + 1 by omega))
    have HP2 := Hi (show Pair w7 XX x l2 from ⟨HP2.out.src.chg hS (show ¬ XX = d + 1 by omega), HP2.out.led.chg hS (by rw [HXL.out]; show ¬ LL = d + 1; omega)⟩)
    have HR2 := Hi (HR2.out.chg hS (show ¬ RR = d + 1 by omega) (by rw [HQB.out.1]; show ¬ r.B = d + 1; omega) (by rw [HQB.out.2]; show ¬ g = d + 1; omega))
    have CH := Hi (CH.out.after hS (fun k hk hk2 => by have := HDe.out; have : k = d + 1 := hk2; omega))
    go_wp2_with fail
    refine bodyPost_ret (v := .agg (faultL x l2 f).toArray) ?_ rfl (HPN.out _ _ ⟨?_, HP2.out, HR2.out, CH.out⟩)
    · exact results_c Tryz.results156 _ _ _ (faultL x l2 f) _ rfl OF.out.range0 Tryz.underlying39 rfl (by rw [faultL_len]; kernel_rfl)
    · rw [if_neg (by rw [HOK.out]; decide)]
      refine ⟨rfl, ?_⟩
      show Obj1 _ N n.cells.toArray _
      rw [EN.out]
      exact HN.out
end Go.Proofs.YtlfbaggcfaenlaaGreat

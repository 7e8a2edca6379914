/- Parts. -/
import Derived.Test.YtfchnibjjokmbaaGreatK20
set_option linter.all false
set_option maxRecDepth 100000
set_option maxHeartbeats 16000000
open Go.Value renaming int → J, pointer → Y
open Go.IntKind renaming i64 → I, u8 → U
namespace Go.Proofs.YtfchnibjjokmbaaGreat
open Go.RowKit
structure RowApart (X : Nat) (hp : Bool) (P R : Nat) (x : Sr) (p : Pal) (r : Ras) : Prop where
 rl : r.L = x.L
 x1 : X ≠ r.b.g
 r1 : R ≠ X
 s1 : r.B ≠ X
 p0 : hp = true → P ≠ X ∧ P ≠ x.L ∧ P ≠ r.b.g
 p1 : hp = true → p.B ≠ X ∧ p.B ≠ x.L ∧ p.B ≠ r.b.g
 p2 : hp = true → p.b.g ≠ X ∧ p.b.g ≠ x.L ∧ p.b.g ≠ r.b.g
def rowK (X B : Nat) (hp : Bool) (P RR dp : Nat) (m : Nat → Int) (f : Int) (ql : List Value) (x : Sr) (p : Pal) (r : Ras) : QK := ⟨X, B, hp, P, RR, dp, qOf ql, m, f, x, p, r⟩
def rowS (x : Sr) (l : Led) (r : Ras) : QS := ⟨0, 0, x.p, l, r.b.d⟩
def RowsPost (w : World) (X : Nat) (KB : Nat → QK) (x : Sr) (r : Ras) (W H : Nat) (top : Bool) (pd : Nat) (σ : QS) (f : Int) (e : Ending) (w' : World) : Prop :=
 ∃ N B, w.heap.size ≤ N ∧ w.heap.size ≤ B ∧ e = .returned (ftv f ((KB B).rows W H top pd H 0 σ).2) ∧ QAt w' N (KB B) ((KB B).rows W H top pd H 0 σ).1 ∧ Chg (fun k => k = X ∨ k = x.L ∨ k = r.b.g) w w'
structure QNo (N : Nat) (K : QK) (b : Nat) : Prop where
 n : N ≠ b
 x : K.X ≠ b
 l : K.x.L ≠ b
 bb : K.B ≠ b
 p : K.hp = true → K.P ≠ b ∧ K.p.B ≠ b ∧ K.p.b.g ≠ b
 r : K.R ≠ b
 rb : K.r.B ≠ b
 rg : K.r.b.g ≠ b
theorem QNo.qS {N : Nat} {K : QK} {b : Nat} (h : QNo N K b) : ¬ qS K b := fun hh => by
 rcases hh with hh | hh | hh | hh
 · exact h.bb hh.symm
 · exact h.x hh.symm
 · exact h.l hh.symm
 · exact h.rg hh.symm
theorem QAt.storedN {w w' : World} {N : Nat} {K : QK} {σ : QS} {b o : Nat} {vs : List Value} (h : QAt w N K σ) (hn : QNo N K b) (hst : Stored w b o vs w') : QAt w' N K σ := by
 have hc := Stored.chgS (S := fun k => k = b) hst (Chg.refl _ _) (Or.inl rfl)
 exact ⟨hc.obj h.rw_ hn.n, hc.obj h.bt hn.bb, ⟨h.pr.src.chg hc hn.x, h.pr.led.chg hc hn.l⟩, fun e => (h.pal e).chg hc (hn.p e).1 (hn.p e).2.1 (hn.p e).2.2, h.ras.chg hc hn.r hn.rb hn.rg, h.ap, h.op, h.n8, h.l8⟩
theorem pxFn_enter (n : Nat) (args : Array Value) (w : World) : (callFunc (pxFn n) args).run Tryz.prog w = .ok (.enter (pxFn n) args) w := by
 have h1 : (callFunc 173 args).run Tryz.prog w = .ok (.enter 173 args) w := by kernel_rfl
 have h2 : (callFunc 174 args).run Tryz.prog w = .ok (.enter 174 args) w := by kernel_rfl
 have h3 : (callFunc 175 args).run Tryz.prog w = .ok (.enter 175 args) w := by kernel_rfl
 unfold pxFn
 split
 · exact h1
 · split
   · exact h2
   · exact h3
theorem drows_any (X : Nat) (hp : Bool) (P RR : Nat) (sz : Int) (W H : Nat) (top : Bool) (dp : Nat) (mt co k0 k1 k2 k3 k4 k5 k6 k7 fr : Int) (m : Nat → Int) (f : Int) (x : Sr) (l : Led) (p : Pal) (r : Ras) (ov : Option Addr) (w : World) (hov : ov = if hp = true then some ⟨P, 0, none⟩ else none)
 (hx : Pair w X x l) (hpl : hp = true → PalAt w P p) (hr : RasAt w RR r) (ha : RowApart X hp P RR x p r) (hop : r.op = true) (hrw : r.w = W) (hrh : r.h = H) (hd : dpOk dp) (h8 : dp ≤ 8 → hp = true)
 (hk0 : okM (m 0) (m 1)) (hk1 : okM (m 2) (m 3)) (hk2 : okM (m 4) (m 5)) (hk3 : okM (m 6) (m 7)) :
 Calls Tryz.prog 85 #[Y (some ⟨X, 0, none⟩), .agg (List.toArray [J I sz, J I W, J I H, .bool top, J I dp, J I mt, J I co, J I k0, J I k1, J I k2, J I k3, J I k4, J I k5, J I k6, J I k7, J I fr]), .pointer ov, .agg (List.toArray [J I (m 0), J I (m 1), J I (m 2), J I (m 3), J I (m 4), J I (m 5), J I (m 6), J I (m 7)]), Y (some ⟨RR, 0, none⟩), J I f] w
  (RowsPost w X (fun B => rowK X B hp P RR dp m f [J I sz, J I W, J I H, .bool top, J I mt, J I co, J I k0, J I k1, J I k2, J I k3, J I k4, J I k5, J I k6, J I k7, J I fr] x p r) x r W H top (aM W dp - (W * dp + 7) / 8) (rowS x l r) f) := by
 have hdb : 1 ≤ dp ∧ dp ≤ 32 := by unfold dpOk at hd; omega
 have hW : W ≤ 16384 := by rw [← hrw]; exact hr.sw
 have hH : H ≤ 16384 := by rw [← hrh]; exact hr.sh
 have hWd : W * dp ≤ 524288 := Nat.le_trans (Nat.mul_le_mul hW hdb.2) (by decide)
 obtain ⟨u, hu⟩ : ∃ u, (W * dp + 7) / 8 = u := ⟨_, rfl⟩
 obtain ⟨t, ht⟩ : ∃ t, aM W dp = t := ⟨_, rfl⟩
 have htu : u ≤ t ∧ t ≤ 100000 := by rw [← hu, ← ht]; unfold aM; omega
 have HST := Hi (fun w0 => hstride_any sz W H top dp mt co k0 k1 k2 k3 k4 k5 k6 k7 fr w0 hW hdb.1 hdb.2)
 rw [ht] at HST
 rw [hu, ht]
 have HU := Hi (show Int.tdiv ((W : Int) * (dp : Int) + 7) 8 = (u : Int) by
  rw [Int.tdiv_eq_ediv_of_nonneg (by have := Int.mul_nonneg (Int.natCast_nonneg W) (Int.natCast_nonneg dp); omega), ← hu]; omega)
 obtain ⟨q, hq⟩ : ∃ q, (W : Int) * (dp : Int) = q := ⟨_, rfl⟩
 have hqb : 0 ≤ q ∧ q ≤ 524288 := by rw [← hq, ← Int.natCast_mul]; omega
 rw [hq] at HU
 have HWU := Hi (show wrap64 (u : Int) = (u : Int) from IntWalk.wrap64_in _ ⟨by omega, by omega⟩)
 obtain ⟨pd, hpd⟩ : ∃ n, t - u = n := ⟨_, rfl⟩
 rw [hpd]
 have HPD := Hi (show (t : Int) - (u : Int) = (pd : Int) by omega)
 obtain ⟨KB, hKB⟩ : ∃ KB, (fun B => rowK X B hp P RR dp m f [J I sz, J I W, J I H, .bool top, J I mt, J I co, J I k0, J I k1, J I k2, J I k3, J I k4, J I k5, J I k6, J I k7, J I fr] x p r) = KB := ⟨_, rfl⟩
 obtain ⟨σ, hσ⟩ : ∃ σ, rowS x l r = σ := ⟨_, rfl⟩
 rw [hKB, hσ]
 obtain ⟨d, hd0⟩ : ∃ d, w.heap.size = d := ⟨_, rfl⟩
 have HDe := Hi hd0
 have lX := hx.src.lt
 have lL := hx.led.lt
 have lP : hp = true → P < d ∧ p.B < d ∧ p.b.g < d := fun e => by rw [← hd0]; exact ⟨(hpl e).lt, (hpl e).buf.lt, (hpl e).buf.glt (hpl e).opn⟩
 have lR := hr.lt
 have lrB := hr.buf.lt
 have lrg := hr.buf.glt (hr.opn.trans hop)
 have HJ := Hi (show ∀ w0 B, d + 3 < B → Obj1 w0 (d + 3) (List.toArray [Y (some ⟨X, 0, none⟩), Y (some ⟨B, 0, none⟩), J I sz, J I W, J I H, .bool top, J I dp, J I mt, J I co, J I k0, J I k1, J I k2, J I k3, J I k4, J I k5, J I k6, J I k7, J I fr, .pointer ov, J I (m 0), J I (m 1), J I (m 2), J I (m 3), J I (m 4), J I (m 5), J I (m 6), J I (m 7), J I f]) 213 → BtAt w0 B X 0 0 → Chg (fun _ => False) w w0 → QAt w0 (d + 3) (KB B) σ from fun w0 B hB hO hb hc => by
  subst hKB
  subst hσ
  subst hov
  exact ⟨hO, hb, ⟨hx.src.chg hc (fun h => h), hx.led.chg hc (fun h => h)⟩, fun e => (hpl e).chg hc (fun h => h) (fun h => h) (fun h => h), hr.chg hc (fun h => h) (fun h => h) (fun h => h),
   ⟨ha.rl, by show d + 3 ≠ X; omega, by show d + 3 ≠ x.L; omega, by show d + 3 ≠ B; omega, by show d + 3 ≠ r.b.g; omega, by show B ≠ X; omega, by show B ≠ x.L; omega, by show B ≠ r.b.g; omega, ha.x1, ha.r1, by show RR ≠ B; omega, ha.s1, by show r.B ≠ B; omega,
     fun e => ⟨(ha.p0 e).1, (ha.p0 e).2.1, by have := lP e; show P ≠ B; omega, (ha.p0 e).2.2⟩, fun e => ⟨(ha.p1 e).1, (ha.p1 e).2.1, by have := lP e; show p.B ≠ B; omega, (ha.p1 e).2.2⟩, fun e => ⟨(ha.p2 e).1, (ha.p2 e).2.1, by have := lP e; show p.b.g ≠ B; omega, (ha.p2 e).2.2⟩⟩, hop, by show 0 < 256; decide, by show 0 ≤ 8; decide⟩)
 have HNO := Hi (show ∀ B, d + 3 < B → ∀ k, k = d ∨ k = d + 2 → QNo (d + 3) (KB B) k from fun B hB k hk => by
  subst hKB
  exact ⟨by omega, by show X ≠ k; omega, by show x.L ≠ k; omega, by show B ≠ k; omega, fun e => by have := lP e; exact ⟨by show P ≠ k; omega, by show p.B ≠ k; omega, by show p.b.g ≠ k; omega⟩, by show RR ≠ k; omega, by show r.B ≠ k; omega, by show r.b.g ≠ k; omega⟩)
 have HK := Hi (show ∀ B, (KB B).X = X ∧ (KB B).x.L = x.L ∧ (KB B).r.b.g = r.b.g ∧ (KB B).f = f ∧ (KB B).R = RR ∧ (KB B).dp = dp ∧ (KB B).B = B ∧ (KB B).r.w = W ∧ (KB B).r.h = H ∧ dpOk (KB B).dp ∧ QOk (KB B) ∧ ((KB B).dp ≤ 8 → (KB B).hp = true) from fun B => by
  subst hKB
  exact ⟨rfl, rfl, rfl, rfl, rfl, rfl, rfl, hrw, hrh, hd, ⟨hk0, hk1, hk2, hk3⟩, h8⟩)
 have HS0 := Hi (show σ.left = 0 by rw [← hσ]; rfl)
 have HEND := Hi (show ∀ B e w', d ≤ B → e = .returned (.agg (fc f ((KB B).rows W H top pd H 0 σ).2).toArray) → (QAt w' (d + 3) (KB B) ((KB B).rows W H top pd H 0 σ).1 ∧ Chg (qS (KB B)) w w') → RowsPost w X KB x r W H top pd σ f e w' from fun B e w' hB he hh => by
  refine ⟨d + 3, B, by rw [hd0]; omega, by rw [hd0]; exact hB, he, hh.1, hh.2.mono fun k hk hs => ?_⟩
  obtain ⟨e1, e2, e3, -, -, -, e7, -⟩ := HK.out B
  rcases hs with hs | hs | hs | hs
  · rw [hd0] at hk; rw [e7] at hs; omega
  · exact Or.inl (hs.trans e1)
  · exact Or.inr (Or.inl (hs.trans e2))
  · exact Or.inr (Or.inr (hs.trans e3)))
 have OH := Hi (aA w (List.toArray [J I sz, J I W, J I H, .bool top, J I dp, J I mt, J I co, J I k0, J I k1, J I k2, J I k3, J I k4, J I k5, J I k6, J I k7, J I fr]) 63)
 have OS := Hi (aA (w.alloc (.cells (List.toArray [J I sz, J I W, J I H, .bool top, J I dp, J I mt, J I co, J I k0, J I k1, J I k2, J I k3, J I k4, J I k5, J I k6, J I k7, J I fr]) 63)) (List.toArray [J I (m 0), J I (m 1), J I (m 2), J I (m 3), J I (m 4), J I (m 5), J I (m 6), J I (m 7)]) 61)
 have OF := Hi (aA ((w.alloc (.cells (List.toArray [J I sz, J I W, J I H, .bool top, J I dp, J I mt, J I co, J I k0, J I k1, J I k2, J I k3, J I k4, J I k5, J I k6, J I k7, J I fr]) 63)).alloc (.cells (List.toArray [J I (m 0), J I (m 1), J I (m 2), J I (m 3), J I (m 4), J I (m 5), J I (m 6), J I (m 7)]) 61)) #[J I 0, J I 0, J I 0] 31)
 have CH := Hi ((((Chg.refl (fun _ => False) w).alloc (.cells (List.toArray [J I sz, J I W, J I H, .bool top, J I dp, J I mt, J I co, J I k0, J I k1, J I k2, J I k3, J I k4, J I k5, J I k6, J I k7, J I fr]) 63)).alloc (.cells (List.toArray [J I (m 0), J I (m 1), J I (m 2), J I (m 3), J I (m 4), J I (m 5), J I (m 6), J I (m 7)]) 61)).alloc (.cells #[J I 0, J I 0, J I 0] 31))
 have OH := Hi ((OH.out.alloc (.cells (List.toArray [J I (m 0), J I (m 1), J I (m 2), J I (m 3), J I (m 4), J I (m 5), J I (m 6), J I (m 7)]) 61)).alloc (.cells #[J I 0, J I 0, J I 0] 31))
 have OS := Hi (OS.out.alloc (.cells #[J I 0, J I 0, J I 0] 31))
 rw [show (w.alloc (.cells (List.toArray [J I sz, J I W, J I H, .bool top, J I dp, J I mt, J I co, J I k0, J I k1, J I k2, J I k3, J I k4, J I k5, J I k6, J I k7, J I fr]) 63)).heap.size = d + 1 by rw [← hd0]; simp] at OS
 rw [show ((w.alloc (.cells (List.toArray [J I sz, J I W, J I H, .bool top, J I dp, J I mt, J I co, J I k0, J I k1, J I k2, J I k3, J I k4, J I k5, J I k6, J I k7, J I fr]) 63)).alloc (.cells (List.toArray [J I (m 0), J I (m 1), J I (m 2), J I (m 3), J I (m 4), J I (m 5), J I (m 6), J I (m 7)]) 61)).heap.size = d + 2 by rw [← hd0]; simp] at OF
 rw [hd0] at OH
 have LZ := Hi (show (((w.alloc (.cells (List.toArray [J I sz, J I W, J I H, .bool top, J I dp, J I mt, J I co, J I k0, J I k1, J I k2, J I k3, J I k4, J I k5, J I k6, J I k7, J I fr]) 63)).alloc (.cells (List.toArray [J I (m 0), J I (m 1), J I (m 2), J I (m 3), J I (m 4), J I (m 5), J I (m 6), J I (m 7)]) 61)).alloc (.cells #[J I 0, J I 0, J I 0] 31)).heap.size = d + 3 by rw [← hd0]; simp)
 have HTU := Hi htu
 have HWB := Hi (And.intro hW hH)
 have HQ := Hi hq
 have HQB := Hi hqb
 clear hov hx hpl hr ha hop hrw hrh hd h8 hk0 hk1 hk2 hk3 hKB hσ lX lL lP lR lrB lrg hdb hW hH hWd hu ht htu hq hqb hpd
 go_enter Tryz.func85, Tryz.ntmps85
 go_upto_region 1 with (fail)
 clear hd0
 generalize World.alloc _ _ = wr at OF OS OH CH LZ ⊢
 have lz := LZ.out
 go_upto_region 2 with (first
  | (refine aL (by kernel_rfl) 63 16 _ rfl d [J I sz, J I W, J I H, .bool top, J I dp, J I mt, J I co, J I k0, J I k1, J I k2, J I k3, J I k4, J I k5, J I k6, J I k7, J I fr] rfl rfl OH.out Tryz.underlying63 rfl (by kernel_rfl) ?_; intro _)
  | (refine aL (by kernel_rfl) 61 8 _ rfl (d + 1) [J I (m 0), J I (m 1), J I (m 2), J I (m 3), J I (m 4), J I (m 5), J I (m 6), J I (m 7)] rfl rfl OS.out Tryz.underlying61 rfl (by kernel_rfl) ?_; intro _))
 have OX := Hi (by have := aA wr (List.toArray [Y (some ⟨X, 0, none⟩), Y none, J I sz, J I W, J I H, .bool top, J I dp, J I mt, J I co, J I k0, J I k1, J I k2, J I k3, J I k4, J I k5, J I k6, J I k7, J I fr, .pointer ov, J I (m 0), J I (m 1), J I (m 2), J I (m 3), J I (m 4), J I (m 5), J I (m 6), J I (m 7), J I f]) 213; rw [LZ.out] at this; exact this)
 have OF := Hi (OF.out.alloc (.cells (List.toArray [Y (some ⟨X, 0, none⟩), Y none, J I sz, J I W, J I H, .bool top, J I dp, J I mt, J I co, J I k0, J I k1, J I k2, J I k3, J I k4, J I k5, J I k6, J I k7, J I fr, .pointer ov, J I (m 0), J I (m 1), J I (m 2), J I (m 3), J I (m 4), J I (m 5), J I (m 6), J I (m 7), J I f]) 213))
 have OH := Hi (OH.out.alloc (.cells (List.toArray [Y (some ⟨X, 0, none⟩), Y none, J I sz, J I W, J I H, .bool top, J I dp, J I mt, J I co, J I k0, J I k1, J I k2, J I k3, J I k4, J I k5, J I k6, J I k7, J I fr, .pointer ov, J I (m 0), J I (m 1), J I (m 2), J I (m 3), J I (m 4), J I (m 5), J I (m 6), J I (m 7), J I f]) 213))
 have CH := Hi (CH.out.alloc (.cells (List.toArray [Y (some ⟨X, 0, none⟩), Y none, J I sz, J I W, J I H, .bool top, J I dp, J I mt, J I co, J I k0, J I k1, J I k2, J I k3, J I k4, J I k5, J I k6, J I k7, J I fr, .pointer ov, J I (m 0), J I (m 1), J I (m 2), J I (m 3), J I (m 4), J I (m 5), J I (m 6), J I (m 7), J I f]) 213))
 clear lz OS
 generalize World.alloc wr _ = wx at OX OF OH CH ⊢
 have HBN := Hi (fun w0 => bnewb_any X w0)
 have lz := OX.out.lt
 go_wp2_with fail
 with_reducible refine (HBN.out _).mono ?_
 rintro e w1 ⟨B, rfl, hbt, hB, hC⟩
 have lB : d + 3 < B := by omega
 have OX := Hi (hC.obj OX.out (fun h => h))
 have OF := Hi (hC.obj OF.out (fun h => h))
 have OH := Hi (hC.obj OH.out (fun h => h))
 have CH := Hi (CH.out.trans hC)
 have c1 := (OX.out.cell 1).trans (show _ = some (Y none) from rfl)
 have f1 := OX.out.frozen 1
 have lBs := hbt.lt
 have HBT := Hi hbt
 clear hC hB hbt lz LZ
 go_upto_region 3 with (fail)
 have JA := Hi (HJ.out _ B lB (OX.out.set 1 (Y (some ⟨B, 0, none⟩))) (HBT.out.set_other ⟨d + 3, 1, none⟩ (Y (some ⟨B, 0, none⟩)) (by show B ≠ d + 3; omega)) (CH.out.set ⟨d + 3, 1, none⟩ (Y (some ⟨B, 0, none⟩)) (Or.inr (by have := HDe.out; show w.heap.size ≤ d + 3; omega))))
 have CH := Hi ((CH.out.set ⟨d + 3, 1, none⟩ (Y (some ⟨B, 0, none⟩)) (Or.inr (by have := HDe.out; show w.heap.size ≤ d + 3; omega))).mono (S' := qS (KB B)) (fun _ _ h => h.elim))
 have OF := Hi (OF.out.set_other ⟨d + 3, 1, none⟩ (Y (some ⟨B, 0, none⟩)) (by show d + 2 ≠ d + 3; omega))
 have OH := Hi (OH.out.set_other ⟨d + 3, 1, none⟩ (Y (some ⟨B, 0, none⟩)) (by show d ≠ d + 3; omega))
 clear c1 f1 OX HBT lBs HBN
 generalize World.setCell w1 _ _ = w2 at JA OF OH CH ⊢
 have HN0 := Hi (HNO.out B lB d (Or.inl rfl))
 have HN2 := Hi (HNO.out B lB (d + 2) (Or.inr rfl))
 have HEND := Hi (fun e w' => HEND.out B e w' (by omega))
 have HKK := Hi (HK.out B)
 obtain ⟨N, hN⟩ : ∃ N, d + 3 = N := ⟨_, rfl⟩
 have HNd := Hi hN
 rw [hN] at JA HN0 HN2 HEND lB ⊢
 obtain ⟨K, hK⟩ : ∃ K, KB B = K := ⟨_, rfl⟩
 rw [hK] at JA HN0 HN2 HEND HKK CH
 clear hN hK HK HJ HNO lB
 obtain ⟨R, hR⟩ : ∃ R, K.rows W H top pd H 0 σ = R := ⟨_, rfl⟩
 have HRE := Hi hR
 rw [hR] at HEND
 clear hR
 have HRD := Hi (fun w0 (h0 : QAt w0 N K σ) => (show Calls Tryz.prog 132 #[Y (some ⟨N, 0, none⟩)] w0 fun e w' => e = .returned (.func (.func (pxFn dp)) #[Y (some ⟨N, 0, none⟩)] #[]) ∧ w0 = w' from by have := qreader_any N K σ w0 h0 HKK.out.2.2.2.2.2.2.2.2.2.1; rw [HKK.out.2.2.2.2.2.1] at this; exact this))
 have HPX := Hi (fun w0 (τ : QS) (h0 : QAt w0 N K τ) (hl : K.okl τ) => (show Calls Tryz.prog (pxFn dp) #[Y (some ⟨N, 0, none⟩)] w0 fun e w' => e = .returned (pxv f (K.pix τ).2) ∧ QAt w' N K (K.pix τ).1 ∧ Chg (qS K) w0 w' from by
  have := qpix_any N K τ w0 h0 HKK.out.2.2.2.2.2.2.2.2.2.1 HKK.out.2.2.2.2.2.2.2.2.2.2.1 HKK.out.2.2.2.2.2.2.2.2.2.2.2 hl; rw [HKK.out.2.2.2.2.2.1, HKK.out.2.2.2.1] at this; exact this))
 have HSE := Hi (fun w0 (τ : QS) (x0 y0 : Nat) (c : C4) (h0 : QAt w0 N K τ) (h1 : x0 < W) (h2 : y0 < H) (hc : c4in c) => (show Calls Tryz.prog 133 #[Y (some ⟨RR, 0, none⟩), J I x0, J I y0, .agg (c4v c).toArray] w0 fun e w' => e = .returned (.bool (K.putC τ x0 y0 c).2) ∧ QAt w' N K (K.putC τ x0 y0 c).1 ∧ Chg (qS K) w0 w' from by
  have := qputC_any N K τ x0 y0 c w0 h0 (by rw [HKK.out.2.2.2.2.2.2.2.1]; exact h1) (by rw [HKK.out.2.2.2.2.2.2.2.2.1]; exact h2) hc; rw [HKK.out.2.2.2.2.1] at this; exact this))
 have HFA := Hi (fun w0 (τ : QS) (h0 : QAt w0 N K τ) => (show Calls Tryz.prog 37 #[Y (some ⟨X, 0, none⟩), J I f] w0 fun e w' => e = .returned (.agg (fc f (K.ft τ.l τ.a)).toArray) ∧ Below w0.heap.size w0 w' from by
  have := qfault_any N K τ w0 h0; rw [HKK.out.1, HKK.out.2.2.2.1] at this; exact this))
 have HAL := Hi (fun w0 (τ : QS) (h0 : QAt w0 N K τ) => (show Calls Tryz.prog 134 #[Y (some ⟨B, 0, none⟩)] w0 fun e w' => e = .returned (J I τ.left) ∧ QAt w' N K τ.whole ∧ Chg (qS K) w0 w' from by
  have := qalign_any N K τ w0 h0; rw [HKK.out.2.2.2.2.2.2.1] at this; exact this))
 have HSK := Hi (fun w0 (τ : QS) (h0 : QAt w0 N K τ) => (show Calls Tryz.prog 128 #[Y (some ⟨X, 0, none⟩), J I pd] w0 fun e w' => e = .returned (.bool (K.next τ pd).2.2) ∧ QAt w' N K (K.next τ pd).1 ∧ Chg (qS K) w0 w' from by
  have := qskip_any N K τ pd w0 h0; rw [HKK.out.1] at this; exact this))
 have HCB := Hi (show ∀ τ, c4in (K.pix τ).2.1 from fun τ => qpix_col K τ HKK.out.2.2.2.2.2.2.2.2.2.2.1)
 have HPL := Hi (show ∀ τ, K.okl τ → τ.left ≤ 8 → K.okl (K.pix τ).1 from fun τ h1 h2 => (qpix_left K τ HKK.out.2.2.2.2.2.2.2.2.2.1 h1 h2).1)
 have HB1 := Hi (show ∀ w0 τ, QAt w0 N K τ → w0.cell? ⟨N, 1, none⟩ = some (Y (some ⟨B, 0, none⟩)) from fun w0 τ h0 => h0.cell 1 _ (by rw [← HKK.out.2.2.2.2.2.2.1]; rfl))
 go_wp2_with fail
 with_reducible refine (HRD.out _ JA.out).mono ?_
 rintro e w3 ⟨rfl, rfl⟩
 have c1 := (OH.out.cell 1).trans (show _ = some (J I (W : Int)) from rfl)
 have c4 := (OH.out.cell 4).trans (show _ = some (J I (dp : Int)) from rfl)
 have c2 := (OH.out.cell 2).trans (show _ = some (J I (H : Int)) from rfl)
 have hq := HQ.out
 have hu := HU.out
 have hqb := HQB.out
 have hub : (u : Int) ≤ 100000 := by have := HTU.out; omega
 have hwu : wrap64 (u : Int) = (u : Int) := HWU.out
 go_upto_region 5 with (fail)
 clear hq hu hqb hub hwu c1 c4
 go_upto_region 6 with (fail)
 clear c2
 have HWB := HWB
 go_loopw [47] (fun cc wr => ∃ (k : Nat) (τ : QS), k ≤ H ∧ cc = J I k ∧ K.rows W H top pd (H - k) k τ = R ∧ K.okl τ ∧ QAt wr N K τ ∧ Obj1 wr d (List.toArray [J I sz, J I W, J I H, .bool top, J I dp, J I mt, J I co, J I k0, J I k1, J I k2, J I k3, J I k4, J I k5, J I k6, J I k7, J I fr]) 63 ∧ Obj1 wr (d + 2) #[J I 0, J I 0, J I 0] 31 ∧ Chg (qS K) w wr) (fun cc _ => H - (intOf cc).toNat)
 case atStart => exact ⟨0, σ, Nat.zero_le _, rfl, by rw [Nat.sub_zero]; exact HRE.out, by unfold QK.okl; rw [HS0.out]; exact Nat.zero_mod _, JA.out, OH.out, OF.out, CH.out⟩
 case round =>
  obtain ⟨k, τ, hk, rfl, hrl, hokl, hja, hoh, hof, hch⟩ := hrel
  have HRL := Hi hrl
  have HOK := Hi hokl
  have JA := Hi hja
  have OH := Hi hoh
  have OF := Hi hof
  have CH := Hi hch
  clear hrl hokl hja hoh hof hch
  by_cases hlt : k < H
  rotate_left
  · have E := Hi (show R = (τ, (0, 0)) by rw [← HRL.out, show H - k = 0 by omega]; rfl)
    go_wp2_with (refine so 31 3 ((d + 2)) (fc f (0, 0)) OF.out ?_; intro ws hst hO; have OF := Hi hO; have JA := Hi (JA.out.storedN HN2.out hst); have OH := Hi (hst.oth OH.out (by omega)); have CH := Hi (Stored.chgS hst CH.out (Or.inr (by have := HDe.out; omega))); clear hst hO)
    refine bodyPost_ret (v := .agg (fc f (0, 0)).toArray) ?_ rfl (HEND.out _ _ (by rw [E.out]) ⟨by rw [E.out]; exact JA.out, CH.out⟩)
    exact aD Tryz.results85 _ _ _ (fc f (0, 0)) _ rfl OF.out.range0 Tryz.underlying31 rfl (by kernel_rfl)
  obtain ⟨y, hy⟩ : ∃ y, rowY top H k = y := ⟨_, rfl⟩
  have HYH := Hi (show y < H by rw [← hy]; unfold rowY; split <;> omega)
  obtain ⟨RW, hRW⟩ : ∃ RW, K.row y W 0 τ = RW := ⟨_, rfl⟩
  have HRW := Hi hRW
  have HRL := Hi (show (if RW.2.1 = 0 then (if (K.pad pd RW.1).2.1 = 0 then K.rows W H top pd (H - (k + 1)) (k + 1) (K.pad pd RW.1).1 else K.pad pd RW.1) else RW) = R by
   have := HRL.out; rw [show H - k = (H - (k + 1)) + 1 by omega, QK.rows, hy, hRW] at this; exact this)
  obtain ⟨b, htop⟩ : ∃ b, top = b := ⟨_, rfl⟩
  have c3 := (OH.out.cell 3).trans (show _ = some (.bool b) by rw [← htop]; rfl)
  obtain ⟨nb, hnb⟩ : ∃ b', (!b) = b' := ⟨_, rfl⟩
  have hkH := HWB.out.2
  go_upto_if 53 with (fail)
  have HNB := Hi hnb
  clear c3 hnb
  go_cut [17] from 54 to 59 (fun cc wx => wx = wr ∧ cc = J I (y : Int))
  case first =>
   have c2 := (OH.out.cell 2).trans (show _ = some (J I (H : Int)) from rfl)
   have hnb := HNB.out
   clear HNB
   cases b
   · obtain rfl : true = nb := hnb
     have hyy : ((H : Int) - 1 - (k : Int)) = (y : Int) := by rw [← hy]; unfold rowY; rw [htop, if_neg (by decide)]; omega
     clear hy htop
     go_wp2_with fail
     go_meet
     exact ⟨rfl, by first | rfl | rw [hyy]⟩
   · obtain rfl : false = nb := hnb
     have hyy : k = y := by rw [← hy]; unfold rowY; rw [htop, if_pos rfl]
     clear hy htop c2
     go_wp2_with fail
     go_meet
     exact ⟨rfl, by first | rfl | rw [hyy]⟩
  case rest =>
   obtain ⟨rfl, rfl⟩ := hcut
   clear HNB
   have c1 := (OH.out.cell 1).trans (show _ = some (J I (W : Int)) from rfl)
   clear hy hRW htop
   go_upto_region 12 with (fail)
   clear c1
   go_loopw [61] (fun cc w4 => ∃ (c : Nat) (τ2 : QS), c ≤ W ∧ cc = J I c ∧ K.row y (W - c) c τ2 = RW ∧ K.okl τ2 ∧ QAt w4 N K τ2 ∧ Obj1 w4 d (List.toArray [J I sz, J I W, J I H, .bool top, J I dp, J I mt, J I co, J I k0, J I k1, J I k2, J I k3, J I k4, J I k5, J I k6, J I k7, J I fr]) 63 ∧ Obj1 w4 (d + 2) #[J I 0, J I 0, J I 0] 31 ∧ Chg (qS K) w w4) (fun cc _ => W - (intOf cc).toNat)
   case atStart => exact ⟨0, τ, Nat.zero_le _, rfl, by rw [Nat.sub_zero]; exact HRW.out, HOK.out, JA.out, OH.out, OF.out, CH.out⟩
   case round =>
    obtain ⟨c, τ2, hc, rfl, hrl2, hokl, hja, hoh, hof, hch⟩ := hrel
    have HRL2 := Hi hrl2
    have HOK := Hi hokl
    have JA := Hi hja
    have OH := Hi hoh
    have OF := Hi hof
    have CH := Hi hch
    clear hrl2 hokl hja hoh hof hch
    by_cases hcw : c < W
    rotate_left
    · have ERW := Hi (show RW = (τ2, (0, 0)) by rw [← HRL2.out, show W - c = 0 by omega]; rfl)
      have HRL := Hi (show (if (K.pad pd τ2).2.1 = 0 then K.rows W H top pd (H - (k + 1)) (k + 1) (K.pad pd τ2).1 else K.pad pd τ2) = R by have := HRL.out; rw [ERW.out, if_pos rfl] at this; exact this)
      have k1 := HB1.out _ _ JA.out
      go_wp2_with fail
      with_reducible refine (HAL.out _ τ2 JA.out).mono ?_
      rintro e w5 ⟨rfl, hj1, hc1⟩
      have JA := Hi hj1
      have OH := Hi (hc1.obj OH.out HN0.out.qS)
      have OF := Hi (hc1.obj OF.out HN2.out.qS)
      have CH := Hi (CH.out.trans hc1)
      clear hj1 hc1
      clear k1
      have htu := HTU.out
      have hpd := HPD.out
      go_wp2_with (refine aL (by kernel_rfl) 63 16 _ rfl (d) [J I sz, J I W, J I H, .bool top, J I dp, J I mt, J I co, J I k0, J I k1, J I k2, J I k3, J I k4, J I k5, J I k6, J I k7, J I fr] rfl rfl OH.out Tryz.underlying63 rfl (by kernel_rfl) ?_; intro _)
      with_reducible refine (HST.out _).mono ?_
      rintro e w6 ⟨rfl, hb⟩
      have JA := Hi (JA.out.below hb)
      have OH := Hi (OH.out.below hb OH.out.lt)
      have OF := Hi (OF.out.below hb OF.out.lt)
      have CH := Hi (CH.out.trans (aB hb _))
      clear hb
      have HSK := Hi (HSK.out)
      go_wp2_with fail
      obtain ⟨b, hb⟩ : ∃ b, (K.next τ2.whole pd).2.2 = b := ⟨_, rfl⟩
      obtain ⟨τ3, hτ3⟩ : ∃ t, (K.next τ2.whole pd).1 = t := ⟨_, rfl⟩
      have HSK := Hi (fun w0 h0 => (HSK.out w0 τ2.whole h0).mono (R' := fun e w' => e = .returned (.bool b) ∧ QAt w' N K τ3 ∧ Chg (qS K) w0 w') fun e w' hh => by rw [hb, hτ3] at hh; exact hh)
      have HP3 := Hi (show K.pad pd τ2 = if b = true then (τ3, (0, 0)) else (τ3, K.ft τ3.l τ3.a) by unfold QK.pad; rw [hb, hτ3])
      have HL3 := Hi (show τ3.left = 0 by rw [← hτ3]; exact (qnext_left K τ2.whole pd).1)
      clear hb hτ3 hpd htu
      with_reducible refine (HSK.out _ JA.out).mono ?_
      rintro e w7 ⟨rfl, hj1, hc1⟩
      have JA := Hi hj1
      have OH := Hi (hc1.obj OH.out HN0.out.qS)
      have OF := Hi (hc1.obj OF.out HN2.out.qS)
      have CH := Hi (CH.out.trans hc1)
      clear hj1 hc1
      cases b with
      | false =>
        have E := Hi (show R = (τ3, K.ft τ3.l τ3.a) by have := HRL.out; rw [HP3.out.trans (if_neg (by decide)), if_neg (qft_ne K _ _)] at this; exact this.symm)
        go_wp2_with fail
        with_reducible refine (HFA.out _ τ3 JA.out).mono ?_
        rintro e w8 ⟨rfl, hb⟩
        have JA := Hi (JA.out.below hb)
        have OH := Hi (OH.out.below hb OH.out.lt)
        have OF := Hi (OF.out.below hb OF.out.lt)
        have CH := Hi (CH.out.trans (aB hb _))
        clear hb
        go_wp2_with (refine so 31 3 ((d + 2)) (fc f (K.ft τ3.l τ3.a)) OF.out ?_; intro ws hst hO; have OF := Hi hO; have JA := Hi (JA.out.storedN HN2.out hst); have OH := Hi (hst.oth OH.out (by omega)); have CH := Hi (Stored.chgS hst CH.out (Or.inr (by have := HDe.out; omega))); clear hst hO)
        refine bodyPost_ret (v := .agg (fc f (K.ft τ3.l τ3.a)).toArray) ?_ rfl (HEND.out _ _ (by rw [E.out]) ⟨by rw [E.out]; exact JA.out, CH.out⟩)
        exact aD Tryz.results85 _ _ _ (fc f (K.ft τ3.l τ3.a)) _ rfl OF.out.range0 Tryz.underlying31 rfl (by kernel_rfl)
      | true =>
        have E := Hi (show K.rows W H top pd (H - (k + 1)) (k + 1) τ3 = R by have := HRL.out; rw [HP3.out.trans (if_pos rfl), if_pos rfl] at this; exact this)
        go_wp2_with fail
        go_roundw
        case rel => exact ⟨k + 1, τ3, by omega, by go_num, E.out, by unfold QK.okl; rw [HL3.out]; exact Nat.zero_mod _, JA.out, OH.out, OF.out, CH.out⟩
        case measure => simp [intOf]; omega
    obtain ⟨Q, hQ⟩ : ∃ Q, K.pix τ2 = Q := ⟨_, rfl⟩
    have HPX := Hi (fun w0 (h0 : QAt w0 N K τ2) => (HPX.out w0 τ2 h0 HOK.out).mono (R' := fun e w' => e = .returned (.tuple #[.agg (c4v Q.2.1).toArray, .agg (fc f Q.2.2).toArray]) ∧ QAt w' N K Q.1 ∧ Chg (qS K) w0 w') fun e w' hh => by rw [hQ] at hh; exact hh)
    have HCB := Hi (show c4in Q.2.1 by rw [← hQ]; exact HCB.out τ2)
    have HOK := Hi (show K.okl Q.1 by rw [← hQ]; exact HPL.out τ2 HOK.out JA.out.l8)
    have HRL2 := Hi (show (if Q.2.2.1 = 0 then (if (K.putC Q.1 c y Q.2.1).2 = true then K.row y (W - (c + 1)) (c + 1) (K.putC Q.1 c y Q.2.1).1 else ((K.putC Q.1 c y Q.2.1).1, K.ft (K.putC Q.1 c y Q.2.1).1.l (K.putC Q.1 c y Q.2.1).1.a)) else (Q.1, Q.2.2)) = RW by
     have := HRL2.out; rw [show W - c = (W - (c + 1)) + 1 by omega, QK.row, hQ] at this; exact this)
    clear hQ
    have HCW := Hi hcw
    have hwW := HWB.out.1
    go_wp2_with fail
    rw [pxFn_enter]
    go_wp2_with fail
    with_reducible refine (HPX.out _ JA.out).mono ?_
    rintro e w5 ⟨rfl, hj1, hc1⟩
    have JA := Hi hj1
    have OH := Hi (hc1.obj OH.out HN0.out.qS)
    have OF := Hi (hc1.obj OF.out HN2.out.qS)
    have CH := Hi (CH.out.trans hc1)
    clear hj1 hc1
    obtain ⟨dC, hdC⟩ : ∃ b, w5.heap.size = b := ⟨_, rfl⟩
    have JL := Hi JA.out.jlt
    have lOF := OF.out.lt
    have lOH := OH.out.lt
    rw [hdC] at JL lOF lOH
    have lNd := JL.out.n
    have OC := Hi (aA w5 #[J U 0, J U 0, J U 0, J U 0] 104)
    have JA := Hi (JA.out.alloc (.cells #[J U 0, J U 0, J U 0, J U 0] 104))
    have CH := Hi (CH.out.alloc (.cells #[J U 0, J U 0, J U 0, J U 0] 104))
    have OH := Hi (OH.out.alloc (.cells #[J U 0, J U 0, J U 0, J U 0] 104))
    have OF := Hi (OF.out.alloc (.cells #[J U 0, J U 0, J U 0, J U 0] 104))
    rw [hdC] at OC
    have OX := Hi (aA (w5.alloc (.cells #[J U 0, J U 0, J U 0, J U 0] 104)) #[J I 0, J I 0, J I 0] 31)
    have JA := Hi (JA.out.alloc (.cells #[J I 0, J I 0, J I 0] 31))
    have CH := Hi (CH.out.alloc (.cells #[J I 0, J I 0, J I 0] 31))
    have OH := Hi (OH.out.alloc (.cells #[J I 0, J I 0, J I 0] 31))
    have OF := Hi (OF.out.alloc (.cells #[J I 0, J I 0, J I 0] 31))
    have OC := Hi (OC.out.alloc (.cells #[J I 0, J I 0, J I 0] 31))
    rw [show (w5.alloc (.cells #[J U 0, J U 0, J U 0, J U 0] 104)).heap.size = dC + 1 by rw [← hdC]; simp] at OX
    go_upto_region 15 with (first
     | (refine so 104 4 (dC) (c4v Q.2.1) OC.out ?_; intro ws hst hO; have OC := Hi hO; have JA := Hi (JA.out.stored JL.out hst (by omega)); have OH := Hi (hst.oth OH.out (by omega)); have OF := Hi (hst.oth OF.out (by omega)); have OX := Hi (hst.oth OX.out (by omega)); have CH := Hi (Stored.chgS hst CH.out (Or.inr (by have := HDe.out; omega))); clear hst hO)
     | (refine so 31 3 ((dC + 1)) (fc f Q.2.2) OX.out ?_; intro ws hst hO; have OX := Hi hO; have JA := Hi (JA.out.stored JL.out hst (by omega)); have OH := Hi (hst.oth OH.out (by omega)); have OF := Hi (hst.oth OF.out (by omega)); have OC := Hi (hst.oth OC.out (by omega)); have CH := Hi (Stored.chgS hst CH.out (Or.inr (by have := HDe.out; omega))); clear hst hO))
    clear hdC
    obtain ⟨z, hz⟩ : ∃ z, Q.2.2.1 = z := ⟨_, rfl⟩
    have q0 := (OX.out.cell 0).trans (show _ = some (J I z) by rw [← hz]; rfl)
    have HZ := Hi hz
    clear hz
    by_cases hz0 : z = 0
    rotate_left
    · have hb : (z != 0) = true := by rw [bne_iff_ne]; exact hz0
      have E := Hi (show R = (Q.1, Q.2.2) by
       have e1 := HRL2.out
       rw [if_neg (by rw [HZ.out]; exact hz0)] at e1
       have e2 := HRL.out
       rw [← e1, if_neg (by show ¬ Q.2.2.1 = 0; rw [HZ.out]; exact hz0)] at e2
       exact e2.symm)
      clear hz0
      go_wp2_with (first
       | (refine aL (by kernel_rfl) 31 3 _ rfl ((dC + 1)) (fc f Q.2.2) rfl rfl OX.out Tryz.underlying31 rfl (by kernel_rfl) ?_; intro _)
       | (refine so 31 3 ((d + 2)) (fc f Q.2.2) OF.out ?_; intro ws hst hO; have OF := Hi hO; have JA := Hi (JA.out.storedN HN2.out hst); have OH := Hi (hst.oth OH.out (by omega)); have OC := Hi (hst.oth OC.out (by omega)); have OX := Hi (hst.oth OX.out (by omega)); have CH := Hi (Stored.chgS hst CH.out (Or.inr (by have := HDe.out; omega))); clear hst hO))
      refine bodyPost_ret (v := .agg (fc f Q.2.2).toArray) ?_ rfl (HEND.out _ _ (by rw [E.out]) ⟨by rw [E.out]; exact JA.out, CH.out⟩)
      exact aD Tryz.results85 _ _ _ (fc f Q.2.2) _ rfl OF.out.range0 Tryz.underlying31 rfl (by kernel_rfl)
    have hb : (z != 0) = false := by rw [hz0]; rfl
    obtain ⟨V, hV⟩ : ∃ V, K.putC Q.1 c y Q.2.1 = V := ⟨_, rfl⟩
    have HSE := Hi (fun w0 (h0 : QAt w0 N K Q.1) => (HSE.out w0 Q.1 c y Q.2.1 h0 hcw HYH.out HCB.out).mono (R' := fun e w' => e = .returned (.bool V.2) ∧ QAt w' N K V.1 ∧ Chg (qS K) w0 w') fun e w' hh => by rw [hV] at hh; exact hh)
    have HRL2 := Hi (show (if V.2 = true then K.row y (W - (c + 1)) (c + 1) V.1 else (V.1, K.ft V.1.l V.1.a)) = RW by have := HRL2.out; rw [if_pos (HZ.out.trans hz0), hV] at this; exact this)
    have HOK := Hi (show K.okl V.1 by rw [← hV]; unfold QK.putC QK.put; split <;> exact HOK.out)
    clear hV hz0
    go_upto_region 17 with (fail)
    clear q0 hb
    go_wp2_with (refine aL (by kernel_rfl) 104 4 _ rfl (dC) (c4v Q.2.1) rfl rfl OC.out Tryz.underlying104 rfl (by kernel_rfl) ?_; intro _)
    with_reducible refine (HSE.out _ JA.out).mono ?_
    rintro e w6 ⟨rfl, hj1, hc1⟩
    have JA := Hi hj1
    have OH := Hi (hc1.obj OH.out HN0.out.qS)
    have OF := Hi (hc1.obj OF.out HN2.out.qS)
    have OC := Hi (hc1.obj OC.out (not_qS JL.out (by omega)))
    have OX := Hi (hc1.obj OX.out (not_qS JL.out (by omega)))
    have CH := Hi (CH.out.trans hc1)
    clear hj1 hc1
    obtain ⟨v, hv⟩ : ∃ v, V.2 = v := ⟨_, rfl⟩
    rw [hv] at HRL2
    rw [hv]
    clear hv
    cases v with
    | false =>
      have E := Hi (show R = (V.1, K.ft V.1.l V.1.a) by
       have e1 := HRL2.out
       rw [if_neg (by decide)] at e1
       have e2 := HRL.out
       rw [← e1, if_neg (qft_ne K _ _)] at e2
       exact e2.symm)
      go_wp2_with fail
      with_reducible refine (HFA.out _ V.1 JA.out).mono ?_
      rintro e w8 ⟨rfl, hb⟩
      have JA := Hi (JA.out.below hb)
      have OH := Hi (OH.out.below hb OH.out.lt)
      have OF := Hi (OF.out.below hb OF.out.lt)
      have OC := Hi (OC.out.below hb OC.out.lt)
      have OX := Hi (OX.out.below hb OX.out.lt)
      have CH := Hi (CH.out.trans (aB hb _))
      clear hb
      go_wp2_with (refine so 31 3 ((d + 2)) (fc f (K.ft V.1.l V.1.a)) OF.out ?_; intro ws hst hO; have OF := Hi hO; have JA := Hi (JA.out.storedN HN2.out hst); have OH := Hi (hst.oth OH.out (by omega)); have OC := Hi (hst.oth OC.out (by omega)); have OX := Hi (hst.oth OX.out (by omega)); have CH := Hi (Stored.chgS hst CH.out (Or.inr (by have := HDe.out; omega))); clear hst hO)
      refine bodyPost_ret (v := .agg (fc f (K.ft V.1.l V.1.a)).toArray) ?_ rfl (HEND.out _ _ (by rw [E.out]) ⟨by rw [E.out]; exact JA.out, CH.out⟩)
      exact aD Tryz.results85 _ _ _ (fc f (K.ft V.1.l V.1.a)) _ rfl OF.out.range0 Tryz.underlying31 rfl (by kernel_rfl)
    | true =>
      have E := Hi (show K.row y (W - (c + 1)) (c + 1) V.1 = RW by have := HRL2.out; rw [if_pos rfl] at this; exact this)
      go_wp2_with fail
      go_roundw
      case rel => exact ⟨c + 1, V.1, by have := HCW.out; omega, by go_num, E.out, HOK.out, JA.out, OH.out, OF.out, CH.out⟩
      case measure => have := HCW.out; simp [intOf]; omega
end Go.Proofs.YtfchnibjjokmbaaGreat

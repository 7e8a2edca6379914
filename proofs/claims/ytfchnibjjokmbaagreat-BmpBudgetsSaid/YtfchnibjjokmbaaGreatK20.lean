/- Parts. -/
import Derived.Test.YtfchnibjjokmbaaGreatK19
import Derived.WalkMore
import Derived.Deep.CutBlock
set_option linter.all false
set_option maxRecDepth 100000
set_option maxHeartbeats 16000000
open Go.Value renaming int → J, pointer → Y
open Go.IntKind renaming i64 → I, u8 → U
namespace Go.Proofs.YtfchnibjjokmbaaGreat
open Go.RowKit
structure RleApart (X P R : Nat) (x : Sr) (p : Pal) (r : Ras) : Prop where
 rl : r.L = x.L
 b1 : X ≠ r.b.g
 b2 : P ≠ r.b.g
 b3 : p.B ≠ r.b.g
 b4 : p.b.g ≠ r.b.g
 c1 : P ≠ x.L
 c2 : p.B ≠ x.L
 c3 : p.b.g ≠ x.L
 d1 : P ≠ X
 d2 : p.B ≠ X
 d3 : p.b.g ≠ X
 e1 : R ≠ X
 e2 : r.B ≠ X
def qOf (l : List Value) (i : Nat) : Value := l.getD i undef
def rleK (X P RR : Nat) (W H : Nat) (dp f : Int) (ql : List Value) (x : Sr) (p : Pal) (r : Ras) : JK := ⟨⟨X, P, RR, W, H, dp, f, 0, 0, qOf ql⟩, x, p, r⟩
def rleS (x : Sr) (l : Led) (r : Ras) : JS := ⟨0, 0, x.p, l, r.b.d⟩
def RlePost (w : World) (X RR : Nat) (K : JK) (x : Sr) (r : Ras) (R : JS × (Int × Int)) (e : Ending) (w' : World) : Prop :=
 ∃ N, w.heap.size ≤ N ∧ e = .returned (ftv K.n.f R.2) ∧ JAt w' N K R.1 ∧ Chg (fun k => k = X ∨ k = x.L ∨ k = r.b.g) w w'
structure JNo (N : Nat) (K : JK) (b : Nat) : Prop where
 n : N ≠ b
 x : K.n.X ≠ b
 l : K.x.L ≠ b
 p : K.n.P ≠ b
 pb : K.p.B ≠ b
 pg : K.p.b.g ≠ b
 r : K.n.R ≠ b
 rb : K.r.B ≠ b
 rg : K.r.b.g ≠ b
theorem JNo.jS {N : Nat} {K : JK} {b : Nat} (h : JNo N K b) : ¬ jS N K b := fun hh => by
 rcases hh with hh | hh | hh | hh
 · exact h.n hh.symm
 · exact h.x hh.symm
 · exact h.l hh.symm
 · exact h.rg hh.symm
theorem JAt.storedN {w w' : World} {N : Nat} {K : JK} {σ : JS} {b o : Nat} {vs : List Value} (h : JAt w N K σ) (hn : JNo N K b) (hst : Stored w b o vs w') : JAt w' N K σ := by
 have hc := Stored.chgS (S := fun k => k = b) hst (Chg.refl _ _) (Or.inl rfl)
 exact ⟨hc.obj h.pn hn.n, ⟨h.pr.src.chg hc hn.x, h.pr.led.chg hc hn.l⟩, h.pal.chg hc hn.p hn.pb hn.pg, h.ras.chg hc hn.r hn.rb hn.rg, h.ap, h.op, h.rw_, h.rh⟩
theorem dread_any (X P RR : Nat) (sz : Int) (W H : Nat) (top : Bool) (dp mt co k0 k1 k2 k3 k4 k5 k6 k7 fr f : Int) (x : Sr) (l : Led) (p : Pal) (r : Ras) (fu : Nat) (w : World)
 (hx : Pair w X x l) (hp : PalAt w P p) (hr : RasAt w RR r) (ha : RleApart X P RR x p r) (hop : r.op = true) (hrw : r.w = W) (hrh : r.h = H) (hd : dp = 8 ∨ dp = 4) (hes : x.s.size < 1000000000) (hfu : x.e < x.p + fu) :
 Calls Tryz.prog 107 #[Y (some ⟨X, 0, none⟩), .agg (List.toArray [J I sz, J I W, J I H, .bool top, J I dp, J I mt, J I co, J I k0, J I k1, J I k2, J I k3, J I k4, J I k5, J I k6, J I k7, J I fr]), Y (some ⟨P, 0, none⟩), Y (some ⟨RR, 0, none⟩), J I f] w
  (RlePost w X RR (rleK X P RR W H dp f [J I sz, .bool top, J I mt, J I co, J I k0, J I k1, J I k2, J I k3, J I k4, J I k5, J I k6, J I k7, J I fr] x p r) x r ((rleK X P RR W H dp f [J I sz, .bool top, J I mt, J I co, J I k0, J I k1, J I k2, J I k3, J I k4, J I k5, J I k6, J I k7, J I fr] x p r).read fu (rleS x l r))) := by
 obtain ⟨K, hK⟩ : ∃ K, rleK X P RR W H dp f [J I sz, .bool top, J I mt, J I co, J I k0, J I k1, J I k2, J I k3, J I k4, J I k5, J I k6, J I k7, J I fr] x p r = K := ⟨_, rfl⟩
 obtain ⟨σ, hσ⟩ : ∃ σ, rleS x l r = σ := ⟨_, rfl⟩
 rw [hK, hσ]
 obtain ⟨d, hd0⟩ : ∃ d, w.heap.size = d := ⟨_, rfl⟩
 have HDe := Hi hd0
 have lX := hx.src.lt
 have lL := hx.led.lt
 have lP := hp.lt
 have lB := hp.buf.lt
 have lg := hp.buf.glt hp.opn
 have lR := hr.lt
 have lrB := hr.buf.lt
 have lrg := hr.buf.glt (hr.opn.trans hop)
 have HJ := Hi (show ∀ w0, Obj1 w0 (d + 2) (List.toArray [Y (some ⟨X, 0, none⟩), J I sz, J I W, J I H, .bool top, J I dp, J I mt, J I co, J I k0, J I k1, J I k2, J I k3, J I k4, J I k5, J I k6, J I k7, J I fr, Y (some ⟨P, 0, none⟩), Y (some ⟨RR, 0, none⟩), J I f, J I 0, J I 0]) 231 → Chg (fun _ => False) w w0 → JAt w0 (d + 2) K σ from fun w0 hO hc => by
  subst hK
  subst hσ
  exact ⟨hO, ⟨hx.src.chg hc (fun h => h), hx.led.chg hc (fun h => h)⟩, hp.chg hc (fun h => h) (fun h => h) (fun h => h), hr.chg hc (fun h => h) (fun h => h) (fun h => h),
   ⟨ha.rl, by show d + 2 ≠ X; omega, by show d + 2 ≠ x.L; omega, by show d + 2 ≠ P; omega, by show d + 2 ≠ p.B; omega, by show d + 2 ≠ p.b.g; omega, by show d + 2 ≠ RR; omega, by show d + 2 ≠ r.B; omega, by show d + 2 ≠ r.b.g; omega, ha.b1, ha.b2, ha.b3, ha.b4, ha.c1, ha.c2, ha.c3, ha.d1, ha.d2, ha.d3, ha.e1, ha.e2⟩, hop, hrw, hrh⟩)
 have HNO := Hi (show ∀ k, k = d + 1 ∨ d + 2 < k → JNo (d + 2) K k from fun k hk => by
  subst hK
  exact ⟨by omega, by show X ≠ k; omega, by show x.L ≠ k; omega, by show P ≠ k; omega, by show p.B ≠ k; omega, by show p.b.g ≠ k; omega, by show RR ≠ k; omega, by show r.B ≠ k; omega, by show r.b.g ≠ k; omega⟩)
 obtain ⟨R, hR⟩ : ∃ R, K.read fu σ = R := ⟨_, rfl⟩
 have HRE := Hi hR
 rw [hR]
 have HKX := Hi (show K.n.X = X by rw [← hK]; rfl)
 have HKL := Hi (show K.x.L = x.L by rw [← hK]; rfl)
 have HKg := Hi (show K.r.b.g = r.b.g by rw [← hK]; rfl)
 have HKf := Hi (show K.n.f = f by rw [← hK]; rfl)
 have HKd := Hi (show K.n.dp = 8 ∨ K.n.dp = 4 by rw [← hK]; exact hd)
 have HKs := Hi (show K.x.s.size < 1000000000 by rw [← hK]; exact hes)
 have HFU := Hi (show K.x.e < σ.a + fu by rw [← hK, ← hσ]; exact hfu)
 have HS0 := Hi (show σ.x = 0 ∧ σ.y = 0 by rw [← hσ]; exact ⟨rfl, rfl⟩)
 have HEND := Hi (show ∀ e w', e = .returned (.agg (fc f R.2).toArray) → (JAt w' (d + 2) K R.1 ∧ Chg (jS (d + 2) K) w w') → RlePost w X RR K x r R e w' from fun e w' he hh => by
  refine ⟨d + 2, by rw [hd0]; omega, by rw [he, HKf.out]; rfl, hh.1, hh.2.mono fun k hk hs => ?_⟩
  rcases hs with hs | hs | hs | hs
  · rw [hd0] at hk; omega
  · exact Or.inl (hs.trans HKX.out)
  · exact Or.inr (Or.inl (hs.trans HKL.out))
  · exact Or.inr (Or.inr (hs.trans HKg.out)))
 have OH := Hi (aA w (List.toArray [J I sz, J I W, J I H, .bool top, J I dp, J I mt, J I co, J I k0, J I k1, J I k2, J I k3, J I k4, J I k5, J I k6, J I k7, J I fr]) 63)
 have OF := Hi (aA (w.alloc (.cells (List.toArray [J I sz, J I W, J I H, .bool top, J I dp, J I mt, J I co, J I k0, J I k1, J I k2, J I k3, J I k4, J I k5, J I k6, J I k7, J I fr]) 63)) #[J I 0, J I 0, J I 0] 31)
 have CH := Hi ((((Chg.refl (fun _ => False) w).alloc (.cells (List.toArray [J I sz, J I W, J I H, .bool top, J I dp, J I mt, J I co, J I k0, J I k1, J I k2, J I k3, J I k4, J I k5, J I k6, J I k7, J I fr]) 63)).alloc (.cells #[J I 0, J I 0, J I 0] 31)))
 have OH := Hi (OH.out.alloc (.cells #[J I 0, J I 0, J I 0] 31))
 rw [show (w.alloc (.cells (List.toArray [J I sz, J I W, J I H, .bool top, J I dp, J I mt, J I co, J I k0, J I k1, J I k2, J I k3, J I k4, J I k5, J I k6, J I k7, J I fr]) 63)).heap.size = d + 1 by rw [← hd0]; simp] at OF
 rw [hd0] at OH
 have lz : ((w.alloc (.cells (List.toArray [J I sz, J I W, J I H, .bool top, J I dp, J I mt, J I co, J I k0, J I k1, J I k2, J I k3, J I k4, J I k5, J I k6, J I k7, J I fr]) 63)).alloc (.cells #[J I 0, J I 0, J I 0] 31)).heap.size = d + 2 := by rw [← hd0]; simp
 have LZ := Hi lz
 clear hx hp hr ha hop hrw hrh hd hes hfu hK hσ hR lX lL lP lB lg lR lrB lrg lz
 go_enter Tryz.func107, Tryz.ntmps107
 go_upto_region 1 with (fail)
 clear hd0
 generalize World.alloc _ _ = wr at OF OH CH LZ ⊢
 have lz := LZ.out
 go_step3
 go_wp2_with (first
  | (refine aL (by kernel_rfl) 63 16 _ rfl d [J I sz, J I W, J I H, .bool top, J I dp, J I mt, J I co, J I k0, J I k1, J I k2, J I k3, J I k4, J I k5, J I k6, J I k7, J I fr] rfl rfl OH.out Tryz.underlying63 rfl (by kernel_rfl) ?_; intro _))
 have JA := Hi (HJ.out _ (by have := aA wr (List.toArray [Y (some ⟨X, 0, none⟩), J I sz, J I W, J I H, .bool top, J I dp, J I mt, J I co, J I k0, J I k1, J I k2, J I k3, J I k4, J I k5, J I k6, J I k7, J I fr, Y (some ⟨P, 0, none⟩), Y (some ⟨RR, 0, none⟩), J I f, J I 0, J I 0]) 231; rw [LZ.out] at this; exact this) (CH.out.alloc (.cells (List.toArray [Y (some ⟨X, 0, none⟩), J I sz, J I W, J I H, .bool top, J I dp, J I mt, J I co, J I k0, J I k1, J I k2, J I k3, J I k4, J I k5, J I k6, J I k7, J I fr, Y (some ⟨P, 0, none⟩), Y (some ⟨RR, 0, none⟩), J I f, J I 0, J I 0]) 231)))
 have OF := Hi (OF.out.alloc (.cells (List.toArray [Y (some ⟨X, 0, none⟩), J I sz, J I W, J I H, .bool top, J I dp, J I mt, J I co, J I k0, J I k1, J I k2, J I k3, J I k4, J I k5, J I k6, J I k7, J I fr, Y (some ⟨P, 0, none⟩), Y (some ⟨RR, 0, none⟩), J I f, J I 0, J I 0]) 231))
 have CH := Hi ((CH.out.alloc (.cells (List.toArray [Y (some ⟨X, 0, none⟩), J I sz, J I W, J I H, .bool top, J I dp, J I mt, J I co, J I k0, J I k1, J I k2, J I k3, J I k4, J I k5, J I k6, J I k7, J I fr, Y (some ⟨P, 0, none⟩), Y (some ⟨RR, 0, none⟩), J I f, J I 0, J I 0]) 231)).mono (S' := jS (d + 2) K) (fun _ _ h => h.elim))
 generalize World.alloc wr _ = ws at JA OF CH ⊢
 clear lz
 obtain ⟨N, hN⟩ : ∃ N, d + 2 = N := ⟨_, rfl⟩
 have HNd := Hi hN
 rw [hN] at JA CH HEND HNO ⊢
 clear hN OH LZ
 go_step3
 go_wp2_with fail
 try go_frame
 go_loopw [] (fun wr => ∃ (f0 : Nat) (τ : JS), K.read f0 τ = R ∧ K.x.e < τ.a + f0 ∧ JAt wr N K τ ∧ Obj1 wr (d + 1) #[J I 0, J I 0, J I 0] 31 ∧ Chg (jS N K) w wr ∧ τ.x ≤ K.n.W ∧ τ.y ≤ K.n.H) (fun wr => K.x.e + 1 - (intOf ((wr.cell? ⟨X, 4, none⟩).getD undef)).toNat)
 case atStart => exact ⟨fu, σ, HRE.out, HFU.out, JA.out, OF.out, CH.out, by rw [HS0.out.1]; omega, by rw [HS0.out.2]; omega⟩
 case round =>
  obtain ⟨f0, τ, hrl, hfu, hja, hof, hch, hx1, hy1⟩ := hrel
  have hm0 : intOf ((wr.cell? ⟨X, 4, none⟩).getD undef) = (τ.a : Int) := by
   have h4 := hja.pr.src.c4
   rw [HKX.out] at h4
   rw [h4]; rfl
  rw [hm0, Int.toNat_natCast]
  obtain ⟨f1, rfl⟩ : ∃ f1, f0 = f1 + 1 := ⟨f0 - 1, by have h1 : τ.a ≤ K.x.e := hja.pr.src.ok.pe; omega⟩
  have hae : τ.a ≤ K.x.e := hja.pr.src.ok.pe
  have hse : K.x.e ≤ K.x.s.size := hja.pr.src.ok.es
  have hsw := hja.sw
  have hsh := hja.sh
  have JA := Hi hja
  have OF := Hi hof
  have CH := Hi hch
  have HRL := Hi hrl
  have HFU := Hi hfu
  have HX1 := Hi hx1
  have HY1 := Hi hy1
  have HAE := Hi (show (τ.a : Int) < 1000000000 from by have := HKs.out; omega)
  have HXb := Hi (show τ.x ≤ 100000 ∧ τ.y ≤ 100000 from by omega)
  have HM0 := Hi hm0
  have HAT := Hi (fun w0 (h0 : JAt w0 N K τ) => jat_any N K τ w0 h0)
  have HTK := Hi (fun w0 (h0 : JAt w0 N K τ) => jtake2_any N K τ w0 h0)
  have HFL := Hi (fun (υ : JS) w0 (h0 : JAt w0 N K υ) => (jfault_any N K υ w0 h0).mono (R' := fun e w' => e = .returned (.agg (fc f (K.ft υ.l υ.a)).toArray) ∧ Below w0.heap.size w0 w') fun e w' hh => by rw [HKf.out] at hh; exact hh)
  rw [HKX.out] at HAT HTK
  have HFL := Hi (fun (υ : JS) w0 (h0 : JAt w0 N K υ) => (show Calls Tryz.prog 37 #[Y (some ⟨X, 0, none⟩), J I f] w0 _ from by have := HFL.out υ w0 h0; rw [HKX.out, HKf.out] at this; exact this))
  clear hja hof hch hrl hfu hx1 hy1 hm0 hae hse hsw hsh
  cases hok : (K.next τ 2).2.2 with
  | false =>
    have HTK := Hi (fun w0 h0 => (HTK.out w0 h0).mono (R' := fun e w' => e = .returned (.tuple #[.string (K.next τ 2).2.1, .bool false]) ∧ JAt w' N K (K.next τ 2).1 ∧ Chg (jS N K) w0 w') fun e w' hh => by rw [hok] at hh; exact hh)
    obtain ⟨υ, hυ⟩ : ∃ υ, (K.next τ 2).1 = υ := ⟨_, rfl⟩
    rw [hυ] at HTK
    obtain ⟨F, hF⟩ : ∃ F, K.ft υ.l υ.a = F := ⟨_, rfl⟩
    have HFL := Hi (HFL.out υ)
    rw [hF] at HFL
    have E := Hi (show R = (υ, F) by
     have := HRL.out
     rw [JK.read, if_pos hok, hυ, hF] at this
     exact this.symm)
    clear hok hυ hF
    go_upto_region 3 with (first
     | ((go_at_call 23; (with_reducible refine (HAT.out _ JA.out).mono ?_); rintro e ws1 ⟨rfl, rfl⟩)))
    go_wp2_with (first
     | ((go_at_call 57; (with_reducible refine (HTK.out _ JA.out).mono ?_); rintro e w2 ⟨rfl, hj1, hc1⟩); have JA := Hi hj1; have OF := Hi (hc1.obj OF.out (HNO.out _ (by omega)).jS); have CH := Hi (CH.out.trans hc1); clear hj1 hc1)
     | ((go_at_call 37; (with_reducible refine (HFL.out _ JA.out).mono ?_); rintro e w3 ⟨rfl, hb⟩); have JA := Hi (JA.out.below hb); have OF := Hi (OF.out.below hb OF.out.lt); have CH := Hi (CH.out.trans (aB hb _)); clear hb)
     | (refine so 31 3 (d + 1) (fc f F) OF.out ?_; intro ws hst hO; have OF := Hi hO; have JA := Hi (JA.out.storedN (HNO.out _ (by omega)) hst); have CH := Hi (Stored.chgS hst CH.out (Or.inr (by have := HDe.out; omega))); clear hst hO))
    refine bodyPost_ret (v := .agg (fc f F).toArray) ?_ rfl (HEND.out _ _ (by rw [E.out]) ⟨by rw [E.out]; exact JA.out, CH.out⟩)
    exact aD Tryz.results107 _ _ _ (fc f F) _ rfl OF.out.range0 Tryz.underlying31 rfl (by kernel_rfl)
  | true =>
    have HTK := Hi (fun w0 h0 => (HTK.out w0 h0).mono (R' := fun e w' => e = .returned (.tuple #[.string (K.next τ 2).2.1, .bool true]) ∧ JAt w' N K (K.next τ 2).1 ∧ Chg (jS N K) w0 w') fun e w' hh => by rw [hok] at hh; exact hh)
    obtain ⟨e1, e2, e3, e4, e5, e6⟩ := jnext_str JA.out 2 hok
    have v0 := aS K.x.s τ.a
    have v1 := aS K.x.s (τ.a + 1)
    obtain ⟨n, hn⟩ := Int.eq_ofNat_of_zero_le v0.1
    obtain ⟨v, hv⟩ := Int.eq_ofNat_of_zero_le v1.1
    have g0 := e2 0 (by decide)
    have g1 := e2 1 (by decide)
    rw [Nat.add_zero] at g0
    obtain ⟨S, hS⟩ : ∃ S, (K.next τ 2).2.1 = S := ⟨_, rfl⟩
    rw [hS] at e1 g0 g1 HTK
    obtain ⟨υ, hυ⟩ : ∃ υ, (K.next τ 2).1 = υ := ⟨_, rfl⟩
    rw [hυ] at HTK e3 e4 e5
    have HRL := Hi (show (if (n : Int) = 0 ∧ (v : Int) = 1 then (υ, ((0 : Int), (0 : Int))) else if (K.cmd υ n v τ.a).2.1 = 0 then K.read f1 (K.cmd υ n v τ.a).1 else K.cmd υ n v τ.a) = R by
     have := HRL.out
     rw [JK.read, if_neg (by rw [hok]; decide), hυ, hn, hv] at this
     exact this)
    rw [hn] at v0 g0
    rw [hv] at v1 g1
    have i0 : 0 < S.size := by omega
    have i1 : 1 < S.size := by omega
    have j1 : (1 : Int) < (S.size : Int) := by omega
    have q0 : ((S[0]).toNat : Int) = (n : Int) := by rw [← g0]; exact aX S 0 i0
    have q1 : ((S[1]).toNat : Int) = (v : Int) := by rw [← g1]; exact aX S 1 i1
    have z0 : IntKind.i64.wrap (n : Int) = (n : Int) := aF _ (by omega) (by omega)
    have z1 : IntKind.i64.wrap (v : Int) = (v : Int) := aF _ (by omega) (by omega)
    have hn256 : n < 256 := by omega
    have hv256 : v < 256 := by omega
    have E3 := Hi e3
    have E4 := Hi e4
    have E5 := Hi e5
    clear hok e1 e2 e3 e4 e5 e6 g0 g1 hn hv hS hυ v0 v1
    go_upto_region 3 with (first
     | ((go_at_call 23; (with_reducible refine (HAT.out _ JA.out).mono ?_); rintro e ws1 ⟨rfl, rfl⟩)))
    go_upto_region 6 with (first
     | ((go_at_call 57; (with_reducible refine (HTK.out _ JA.out).mono ?_); rintro e w2 ⟨rfl, hj1, hc1⟩); have JA := Hi hj1; have OF := Hi (hc1.obj OF.out (HNO.out _ (by omega)).jS); have CH := Hi (CH.out.trans hc1); clear hj1 hc1))
    go_quiet (fail)
    have JA := Hi (JA.out.drewN nq)
    have OF := Hi (OF.out.drewN nq)
    have CH := Hi (CH.out.drewN nq)
    generalize w2.drewN nq = w3 at JA OF CH ⊢
    clear q0 q1 z0 z1 i0 i1 j1
    obtain ⟨dC, hdC⟩ : ∃ b, w3.heap.size = b := ⟨_, rfl⟩
    have lzdC := OF.out.lt
    have O17 := Hi (aA w3 #[J I 0, J I 0, J I 0] 31)
    have lzN := JA.out.pn.lt
    rw [hdC] at lzN
    rw [hdC] at O17 lzdC
    have JA := Hi (JA.out.alloc (.cells #[J I 0, J I 0, J I 0] 31))
    have CH := Hi (CH.out.alloc (.cells #[J I 0, J I 0, J I 0] 31))
    have OF := Hi (OF.out.alloc (.cells #[J I 0, J I 0, J I 0] 31))
    go_upto_block 2 with (fail)
    clear hdC
    generalize World.alloc w3 _ = w4 at JA OF CH O17 ⊢
    by_cases hstop : n = 0 ∧ v = 1
    · obtain ⟨rfl, rfl⟩ := hstop
      have E := Hi (show R = (υ, (0, 0)) by have := HRL.out; rw [if_pos ⟨rfl, rfl⟩] at this; exact this.symm)
      go_wp2_with (first
       | (refine so 31 3 (d + 1) (fc f (0, 0)) OF.out ?_; intro ws hst hO; have OF := Hi hO; have JA := Hi (JA.out.storedN (HNO.out _ (by omega)) hst); have O17 := Hi (hst.oth O17.out (by omega)); have CH := Hi (Stored.chgS hst CH.out (Or.inr (by have := HDe.out; omega))); clear hst hO))
      refine bodyPost_ret (v := .agg (fc f (0, 0)).toArray) ?_ rfl (HEND.out _ _ (by rw [E.out]) ⟨by rw [E.out]; exact JA.out, CH.out⟩)
      exact aD Tryz.results107 _ _ _ (fc f (0, 0)) _ rfl OF.out.range0 Tryz.underlying31 rfl (by kernel_rfl)
    obtain ⟨Q, hQ⟩ : ∃ Q, K.cmd υ n v τ.a = Q := ⟨_, rfl⟩
    have HQ := Hi hQ
    have HRL := Hi (show (if Q.2.1 = 0 then K.read f1 Q.1 else Q) = R by have := HRL.out; rw [if_neg (by omega), hQ] at this; exact this)
    have HNSTOP := Hi hstop
    clear hQ hstop
    go_cut [] from 43 to 79 (fun wx => JAt wx N K Q.1 ∧ Obj1 wx dC (fc f Q.2).toArray 31 ∧ Obj1 wx (d + 1) #[J I 0, J I 0, J I 0] 31 ∧ Chg (jS N K) w wx)
    case first =>
     have hne := HNSTOP.out
     by_cases hn0 : 0 < n
     · have E := Hi (show Q = K.run υ n v τ.a by
        rw [← HQ.out]; unfold JK.cmd; rw [if_pos (by omega), Int.toNat_natCast])
       have HRN := Hi (fun w0 (h0 : JAt w0 N K υ) => (jrun_any N K υ n v τ.a w0 h0 HKd.out (by omega) hn0 hn256 (by have := HAE.out; omega) (by rw [E3.out]; exact HX1.out)).mono (R' := fun e w' => e = .returned (.agg (fc f Q.2).toArray) ∧ JAt w' N K Q.1 ∧ Chg (jS N K) w0 w') fun e w' hh => by rw [← E.out, HKf.out] at hh; exact hh)
       clear hne hn256 hv256
       go_wp2_with (first
        | ((go_at_call 150; (with_reducible refine (HRN.out _ JA.out).mono ?_); rintro e w5 ⟨rfl, hj1, hc1⟩); have JA := Hi hj1; have OF := Hi (hc1.obj OF.out (HNO.out _ (by omega)).jS); have O17 := Hi (hc1.obj O17.out (HNO.out _ (by omega)).jS); have CH := Hi (CH.out.trans hc1); clear hj1 hc1)
        | (refine so 31 3 (dC) (fc f Q.2) O17.out ?_; intro ws hst hO; have O17 := Hi hO; have JA := Hi (JA.out.storedN (HNO.out _ (by omega)) hst); have OF := Hi (hst.oth OF.out (by omega)); have CH := Hi (Stored.chgS hst CH.out (Or.inr (by have := HDe.out; omega))); clear hst hO))
       go_meet
       exact ⟨JA.out, O17.out, OF.out, CH.out⟩
     obtain rfl : n = 0 := by omega
     by_cases hv0 : v = 0
     · subst hv0
       have E := Hi (show K.move υ 0 (υ.y + 1) τ.a = Q by
        rw [← HQ.out]; unfold JK.cmd; rw [if_neg (by omega), if_pos (show ((0 : Nat) : Int) = 0 from rfl)])
       have HIN := Hi (fun w0 (h0 : JAt w0 N K ⟨0, υ.y + 1, υ.a, υ.l, υ.d⟩) => (jinside_any N K ⟨0, υ.y + 1, υ.a, υ.l, υ.d⟩ τ.a w0 h0).mono (R' := fun e w' => e = .returned (.agg (fc f Q.2).toArray) ∧ Chg (fun _ => False) w0 w') fun e w' hh => by rw [HKf.out] at hh; rw [← E.out]; exact hh)
       have hyb : υ.y ≤ 100000 := by rw [E4.out]; exact HXb.out.2
       obtain ⟨py, hpy⟩ : ∃ y, υ.y = y := ⟨_, rfl⟩
       have HPY := Hi hpy
       rw [hpy] at hyb
       have hadd : IntKind.i64.wrap ((py : Int) + 1) = (py : Int) + 1 := aF _ (by omega) (by omega)
       have k20 := JA.out.cell 20 (J I υ.x) rfl
       have f20 := Obj1.frozen JA.out.pn 20
       clear hne hn256 hv256 hpy
       go_upto_region 13 with (fail)
       have JA := Hi (JA.out.setX' 0 0 rfl)
       have OF := Hi (OF.out.set_other ⟨N, 20, none⟩ (J I 0) (show ¬ d + 1 = N by have := HNd.out; omega))
       have O17 := Hi (O17.out.set_other ⟨N, 20, none⟩ (J I 0) (show ¬ dC = N by omega))
       have CH := Hi (CH.out.set ⟨N, 20, none⟩ (J I 0) (Or.inl (Or.inl rfl)))
       generalize World.setCell _ _ _ = w5 at JA OF O17 CH ⊢
       clear k20 f20
       have k21 := JA.out.cell 21 (J I py) (by rw [← HPY.out]; rfl)
       have f21 := Obj1.frozen JA.out.pn 21
       go_upto_region 14 with (fail)
       have JA := Hi (JA.out.setY' ((py : Int) + 1) (υ.y + 1) (by rw [HPY.out]; omega))
       have OF := Hi (OF.out.set_other ⟨N, 21, none⟩ (J I ((py : Int) + 1)) (show ¬ d + 1 = N by have := HNd.out; omega))
       have O17 := Hi (O17.out.set_other ⟨N, 21, none⟩ (J I ((py : Int) + 1)) (show ¬ dC = N by omega))
       have CH := Hi (CH.out.set ⟨N, 21, none⟩ (J I ((py : Int) + 1)) (Or.inl (Or.inl rfl)))
       generalize World.setCell _ _ _ = w6 at JA OF O17 CH ⊢
       clear k21 f21 hadd
       go_wp2_with (first
        | ((go_at_call 151; (with_reducible refine (HIN.out _ JA.out).mono ?_); rintro e w7 ⟨rfl, hc⟩); have JA := Hi (JA.out.keep hc); have OF := Hi (hc.obj OF.out (fun h => h)); have O17 := Hi (hc.obj O17.out (fun h => h)); have CH := Hi (CH.out.trans (hc.mono (fun _ _ h => h.elim))); clear hc)
        | (refine so 31 3 (dC) (fc f Q.2) O17.out ?_; intro ws hst hO; have O17 := Hi hO; have JA := Hi (JA.out.storedN (HNO.out _ (by omega)) hst); have OF := Hi (hst.oth OF.out (by omega)); have CH := Hi (Stored.chgS hst CH.out (Or.inr (by have := HDe.out; omega))); clear hst hO))
       have JA := Hi (show JAt _ N K Q.1 by rw [← E.out]; exact JA.out)
       go_meet
       exact ⟨JA.out, O17.out, OF.out, CH.out⟩
     by_cases hv2 : v = 2
     · subst hv2
       have E := Hi (show Q = K.leap υ τ.a by
        rw [← HQ.out]; unfold JK.cmd; rw [if_neg (by omega), if_neg (by omega), if_pos (show ((2 : Nat) : Int) = 2 from rfl)])
       have HLP := Hi (fun w0 (h0 : JAt w0 N K υ) => (jleap_any N K υ τ.a w0 h0 (by rw [E3.out]; exact HXb.out.1) (by rw [E4.out]; exact HXb.out.2)).mono (R' := fun e w' => e = .returned (.agg (fc f Q.2).toArray) ∧ JAt w' N K Q.1 ∧ Chg (jS N K) w0 w') fun e w' hh => by rw [← E.out, HKf.out] at hh; exact hh)
       clear hne hn256 hv256 hv0
       go_wp2_with (first
        | ((go_at_call 152; (with_reducible refine (HLP.out _ JA.out).mono ?_); rintro e w5 ⟨rfl, hj1, hc1⟩); have JA := Hi hj1; have OF := Hi (hc1.obj OF.out (HNO.out _ (by omega)).jS); have O17 := Hi (hc1.obj O17.out (HNO.out _ (by omega)).jS); have CH := Hi (CH.out.trans hc1); clear hj1 hc1)
        | (refine so 31 3 (dC) (fc f Q.2) O17.out ?_; intro ws hst hO; have O17 := Hi hO; have JA := Hi (JA.out.storedN (HNO.out _ (by omega)) hst); have OF := Hi (hst.oth OF.out (by omega)); have CH := Hi (Stored.chgS hst CH.out (Or.inr (by have := HDe.out; omega))); clear hst hO))
       go_meet
       exact ⟨JA.out, O17.out, OF.out, CH.out⟩
     · have E := Hi (show Q = K.plain υ v τ.a by
        rw [← HQ.out]; unfold JK.cmd; rw [if_neg (by omega), if_neg (by omega), if_neg (by omega), Int.toNat_natCast])
       have HPL := Hi (fun w0 (h0 : JAt w0 N K υ) => (jplain_any N K υ v τ.a w0 h0 HKd.out (by omega) hv256 (by rw [E3.out]; exact HX1.out) (by have := HKs.out; omega)).mono (R' := fun e w' => e = .returned (.agg (fc f Q.2).toArray) ∧ JAt w' N K Q.1 ∧ Chg (jS N K) w0 w') fun e w' hh => by rw [← E.out, HKf.out] at hh; exact hh)
       have b0 : ((v : Int) == 0) = false := by rw [beq_eq_false_iff_ne]; omega
       have b1 : ((v : Int) == 1) = false := by rw [beq_eq_false_iff_ne]; omega
       have b2 : ((v : Int) == 2) = false := by rw [beq_eq_false_iff_ne]; omega
       clear hne hn256 hv256 hv0 hv2
       go_wp2_with (first
        | ((go_at_call 153; (with_reducible refine (HPL.out _ JA.out).mono ?_); rintro e w5 ⟨rfl, hj1, hc1⟩); have JA := Hi hj1; have OF := Hi (hc1.obj OF.out (HNO.out _ (by omega)).jS); have O17 := Hi (hc1.obj O17.out (HNO.out _ (by omega)).jS); have CH := Hi (CH.out.trans hc1); clear hj1 hc1)
        | (refine so 31 3 (dC) (fc f Q.2) O17.out ?_; intro ws hst hO; have O17 := Hi hO; have JA := Hi (JA.out.storedN (HNO.out _ (by omega)) hst); have OF := Hi (hst.oth OF.out (by omega)); have CH := Hi (Stored.chgS hst CH.out (Or.inr (by have := HDe.out; omega))); clear hst hO))
       go_meet
       exact ⟨JA.out, O17.out, OF.out, CH.out⟩
    case rest =>
     obtain ⟨hja, ho17, hof, hch⟩ := hcut
     have JA := Hi hja
     have O17 := Hi ho17
     have OF := Hi hof
     have CH := Hi hch
     obtain ⟨z, hz⟩ : ∃ z, Q.2.1 = z := ⟨_, rfl⟩
     have q0 := (ho17.cell 0).trans (show _ = some (J I z) by rw [← hz]; rfl)
     have HZ := Hi hz
     clear hz hja ho17 hof hch
     by_cases hz0 : z = 0
     · have hb : (z != 0) = false := by rw [hz0]; rfl
       have E := Hi (show K.read f1 Q.1 = R by have := HRL.out; rw [if_pos (HZ.out.trans hz0)] at this; exact this)
       have HZ0 := Hi hz0
       clear hz0
       go_upto_region 18 with (fail)
       go_wp2_with fail
       go_roundw
       case rel =>
        have hin := cmd_in K υ n v τ.a (by omega) (by rw [E3.out]; exact HX1.out) (by rw [E4.out]; exact HY1.out) (by rw [HQ.out]; exact HZ.out.trans HZ0.out)
        rw [HQ.out, E5.out] at hin
        exact ⟨f1, Q.1, E.out, by have := HFU.out; omega, JA.out, OF.out, CH.out, hin.1, hin.2.1⟩
       case measure =>
        have hin := cmd_in K υ n v τ.a (by omega) (by rw [E3.out]; exact HX1.out) (by rw [E4.out]; exact HY1.out) (by rw [HQ.out]; exact HZ.out.trans HZ0.out)
        rw [HQ.out, E5.out] at hin
        have h4 := JA.out.pr.src.c4
        rw [HKX.out] at h4
        have hpe : Q.1.a ≤ K.x.e := JA.out.pr.src.ok.pe
        rw [h4]
        show K.x.e + 1 - ((Q.1.a : Int)).toNat < K.x.e + 1 - τ.a
        rw [Int.toNat_natCast]
        omega
     · have hb : (z != 0) = true := by rw [bne_iff_ne]; exact hz0
       have E := Hi (show R = Q by have := HRL.out; rw [if_neg (by rw [HZ.out]; exact hz0)] at this; exact this.symm)
       clear hz0
       go_upto_region 18 with (fail)
       go_wp2_with (first
        | (refine aL (by kernel_rfl) 31 3 _ rfl (dC) (fc f Q.2) rfl rfl O17.out Tryz.underlying31 rfl (by kernel_rfl) ?_; intro _)
        | (refine so 31 3 (d + 1) (fc f Q.2) OF.out ?_; intro ws hst hO; have OF := Hi hO; have JA := Hi (JA.out.storedN (HNO.out _ (by omega)) hst); have O17 := Hi (hst.oth O17.out (by omega)); have CH := Hi (Stored.chgS hst CH.out (Or.inr (by have := HDe.out; omega))); clear hst hO))
       refine bodyPost_ret (v := .agg (fc f Q.2).toArray) ?_ rfl (HEND.out _ _ (by rw [E.out]) ⟨by rw [E.out]; exact JA.out, CH.out⟩)
       exact aD Tryz.results107 _ _ _ (fc f Q.2) _ rfl OF.out.range0 Tryz.underlying31 rfl (by kernel_rfl)
end Go.Proofs.YtfchnibjjokmbaaGreat

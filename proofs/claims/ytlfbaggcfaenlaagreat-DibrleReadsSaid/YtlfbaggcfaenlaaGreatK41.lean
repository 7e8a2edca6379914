/- dibrow.Table where the ledger is rich; what dibrle.Read then does. -/
import Derived.Test.YtlfbaggcfaenlaaGreatK34
import Derived.Test.YtlfbaggcfaenlaaGreatK40
import Derived.Test.YtlfbaggcfaenlaaGreatK0
namespace Go.Proofs.YtlfbaggcfaenlaaGreat
open Go.RowKit
set_option linter.unusedVariables false
set_option linter.unusedSimpArgs false
structure TabOf (s : ByteArray) (a kd co : Nat) (L : Nat) (p : Pal) : Prop where
  n : p.n = co
  L : p.b.L = L
  ent : ∀ j, j < co → p.b4 j = col3 (s.extract (a + kd * j) (a + kd * j + kd))
def TabGood (w : World) (X : Nat) (x : Sr) (l : Led) (kd co : Nat) (e : Ending) (w' : World) : Prop :=
  ∃ P p, e = .returned (.tuple #[.pointer (some ⟨P, 0, none⟩), .agg (List.toArray [.int .i64 0, .int .i64 0, .int .i64 0])]) ∧ PalAt w' P p ∧ Pair w' X { x with p := x.p + kd * co } { (l.take (4 * (co : Int))).1 with st := l.st + co } ∧
    w.heap.size ≤ P ∧ w.heap.size ≤ p.B ∧ w.heap.size ≤ p.b.g ∧ TabOf x.s x.p kd co x.L p ∧ Chg (two X x) w w'
def TabBad (w : World) (X : Nat) (x : Sr) (f : Int) (e : Ending) (w' : World) : Prop := ∃ y m, e = .returned (.tuple #[.pointer none, .agg (List.toArray [.int .i64 1, .int .i64 f, .int .i64 x.e])]) ∧ Pair w' X y m ∧ y.L = x.L ∧ Chg (two X x) w w'
theorem table_rich (sz W H : Int) (top : Bool) (dp mt : Int) (co : Nat) (k0 k1 k2 k3 k4 k5 k6 k7 fr : Int) (X : Nat) (x : Sr) (l : Led) (f : Int) (kd : Nat) (w : World) (h : Pair w X x l) (hdp : dp ≤ 8) (hco1 : 1 ≤ co) (hco2 : co ≤ 256) (hkd : kd = if sz = 12 then 3 else 4)
    (hb : l.br = false) (hmb : l.bt + 4 * co ≤ l.mb) (hst : l.st + co < l.mx) :
    Calls Tryz.prog 19 #[.pointer (some ⟨X, 0, none⟩), .agg (List.toArray [.int .i64 sz, .int .i64 W, .int .i64 H, .bool top, .int .i64 dp, .int .i64 mt, .int .i64 co, .int .i64 k0, .int .i64 k1, .int .i64 k2, .int .i64 k3, .int .i64 k4, .int .i64 k5, .int .i64 k6, .int .i64 k7, .int .i64 fr]), .int .i64 f] w
      fun e w' => (x.p + kd * co ≤ x.e → TabGood w X x l kd co e w') ∧ (x.e < x.p + kd * co → TabBad w X x f e w') := by
  have hk34 : kd = 3 ∨ kd = 4 := by rw [hkd]; split <;> simp
  have ekd : (if sz = 12 then (3 : Int) else 4) = (kd : Int) := by rw [hkd]; split <;> rfl
  refine (table8_any sz W H top dp mt co k0 k1 k2 k3 k4 k5 k6 k7 fr X x l f w h hdp hco1 (by omega)).mono ?_
  intro e w' hp
  rw [ekd] at hp
  have hok := h.led.ok
  have htk : l.take (4 * (co : Int)) = ({ l with bt := l.bt + 4 * co, pk := if l.bt + 4 * co ≤ l.pk then l.pk else l.bt + 4 * co }, true) := by
    unfold Led.take; rw [if_neg (by rw [hb]; decide), if_neg (by omega)]
  have hl1 : (l.take (4 * (co : Int))).1.ok := Led.take_ok hok _
  unfold Table8Post at hp
  rw [if_neg (by rw [htk]; intro hh; cases hh)] at hp
  obtain ⟨P, B, g, h1, h2, h3, hc, hp⟩ := hp
  obtain ⟨l1, hl1e⟩ : ∃ l1, (l.take (4 * (co : Int))).1 = l1 := ⟨_, rfl⟩
  have eb : l1.br = false ∧ l1.st = l.st ∧ l1.mx = l.mx := by rw [← hl1e, htk]; exact ⟨hb, rfl, rfl⟩
  rw [hl1e] at hp hl1
  have hz : (zeros8 (4 * co)).length = 4 * co := by unfold zeros8; rw [List.length_replicate]
  have hrun := palR_run kd hk34 co ⟨B, ⟨x.L, g, zeros8 (4 * co), true⟩, 0, co⟩ x l1 h.src.ok hl1 eb.1 hz (by show 0 + co ≤ co; omega)
  obtain ⟨q, hq⟩ : ∃ q, palR kd ⟨B, ⟨x.L, g, zeros8 (4 * co), true⟩, 0, co⟩ x l1 co = q := ⟨_, rfl⟩
  rw [hq] at hp hrun
  obtain ⟨r1, rB, rg, rL, rop, rm, rlen, ry, rn⟩ := hrun
  have hcalm : q.1.2.2.br = false := by
    obtain ⟨k, hk, hlw⟩ := r1.lw
    rw [hlw.calm (by rw [eb.2.1, eb.2.2]; omega)]; exact eb.1
  refine ⟨fun hin => ?_, fun hin => ?_⟩
  · have hy : q.2 = true := by
      cases hh : q.2 with
      | true => rfl
      | false => have := (rn hh).2 hin; rw [hcalm] at this; cases this
    rw [if_pos hy] at hp
    obtain ⟨y1, y2, y3, y4, y5, y6⟩ := ry hy
    refine ⟨P, q.1.1, hp.1, hp.2.1, ?_, h1, by rw [rB]; exact h2, by rw [rg]; exact h3, ⟨by rw [y4]; show 0 + co = co; omega, by rw [rL], fun j hj => ?_⟩, hc⟩
    · have := hp.2.2
      rw [y2, y3] at this
      rw [← hl1e] at this
      rw [show (l.take (4 * (co : Int))).1.st = l.st by rw [htk]] at this
      exact this
    · have := y6 j hj
      rw [show (0 : Nat) + j = j by omega] at this
      exact this
  · have hy : q.2 = false := by
      cases hh : q.2 with
      | false => rfl
      | true => have := (ry hh).1; omega
    rw [if_neg (by rw [hy]; decide)] at hp
    refine ⟨_, _, ?_, hp.2, r1.L, hc⟩
    rw [hp.1]
    have hg : (q.1.2.2.give (4 * co : Nat)).1.br = false := by unfold Led.give; split <;> exact hcalm
    unfold faultL
    rw [if_neg (by rw [hg]; decide), r1.e]
structure RleRich (w : World) (X RR : Nat) (x : Sr) (l : Led) (p : Pal) (r : Ras) (W H M : Nat) (dp f : Int) (tb : List Value) (fu : Nat) (e : Ending) (w' : World) : Prop where
  y : ∃ (y : Sr) (m : Led) (d : List Int) (k : Nat) (t : Int × Int), e = .returned (.agg (fc f t).toArray) ∧ Pair w' X y m ∧ y.L = x.L ∧ y.p ≤ x.e ∧ RasAt w' RR { r with b := { r.b with d := d } } ∧ m = { l with st := l.st + k } ∧ x.p + k ≤ y.p + W * H + 1 ∧
    (match rle22 x.s tb M W H dp x.e fu ⟨0, 0, x.p, u8s r.b.d⟩ with
      | .error z => t = z ∧ z.1 ≠ 0
      | .ok L => t = (0, 0) ∧ u8s d = L)
  c : Chg (fun k => k = X ∨ k = x.L ∨ k = r.b.g) w w'
theorem rle_rich (X P RR : Nat) (sz : Int) (W H : Nat) (top : Bool) (dp mt co k0 k1 k2 k3 k4 k5 k6 k7 fr f : Int) (x : Sr) (l : Led) (p : Pal) (r : Ras) (fu kd en M : Nat) (w : World)
    (hx : Pair w X x l) (hp : PalAt w P p) (hr : RasAt w RR r) (ha : RleApart X P RR x p r) (hop : r.op = true) (hrw : r.w = W) (hrh : r.h = H) (hd : dp = 8 ∨ dp = 4) (hes : x.s.size < 1000000000) (hfu : x.e < x.p + fu)
    (hkd : kd = 3 ∨ kd = 4) (ht : TabOf x.s en kd M x.L p) (hen : en + kd * M ≤ x.s.size) (hb : l.br = false) (hst : l.st + x.e + W * H + 1 < l.mx) :
    Calls Tryz.prog 22 #[.pointer (some ⟨X, 0, none⟩), .agg (List.toArray [.int .i64 sz, .int .i64 W, .int .i64 H, .bool top, .int .i64 dp, .int .i64 mt, .int .i64 co, .int .i64 k0, .int .i64 k1, .int .i64 k2, .int .i64 k3, .int .i64 k4, .int .i64 k5, .int .i64 k6, .int .i64 k7, .int .i64 fr]), .pointer (some ⟨P, 0, none⟩), .pointer (some ⟨RR, 0, none⟩), .int .i64 f] w
      (RleRich w X RR x l p r W H M dp f (colsL (x.s.extract en x.s.size) kd M) fu) := by
  refine (dread_any X P RR sz W H top dp mt co k0 k1 k2 k3 k4 k5 k6 k7 fr f x l p r fu w hx hp hr ha hop hrw hrh hd hes hfu).mono ?_
  intro e w' hpost
  obtain ⟨K, hK⟩ : ∃ K, rleK X P RR W H dp f [.int .i64 sz, .bool top, .int .i64 mt, .int .i64 co, .int .i64 k0, .int .i64 k1, .int .i64 k2, .int .i64 k3, .int .i64 k4, .int .i64 k5, .int .i64 k6, .int .i64 k7, .int .i64 fr] x p r = K := ⟨_, rfl⟩
  obtain ⟨σ, hσ⟩ : ∃ σ, rleS x l r = σ := ⟨_, rfl⟩
  rw [hK, hσ] at hpost
  obtain ⟨N, hN, he, hj, hc⟩ := hpost
  have q1 : K.n.W = W ∧ K.n.H = H ∧ K.n.dp = dp ∧ K.n.f = f ∧ K.x = x ∧ K.p = p ∧ K.r = r ∧ K.n.X = X ∧ K.n.R = RR := by rw [← hK]; exact ⟨rfl, rfl, rfl, rfl, rfl, rfl, rfl, rfl, rfl⟩
  obtain ⟨qW, qH, qd, qf, qx, qp, qr, qX, qR⟩ := q1
  have q2 : σ.x = 0 ∧ σ.y = 0 ∧ σ.a = x.p ∧ σ.l = l ∧ σ.d = r.b.d := by rw [← hσ]; exact ⟨rfl, rfl, rfl, rfl, rfl⟩
  obtain ⟨s1, s2, s3, s4, s5⟩ := q2
  have hlen : r.b.d.length = 4 * (W * H) := by rw [hr.len, hrw, hrh]
  have hT : (colsL (x.s.extract en x.s.size) kd M).length = 4 * K.p.n := by rw [colsL_len, qp, ht.n]
  have hKO : KOk K (colsL (x.s.extract en x.s.size) kd M) := by
    refine ⟨by rw [qd]; exact hd, fun e he => ?_⟩
    rw [qp, ht.n] at he
    have hmul : kd * (e + 1) ≤ kd * M := Nat.mul_le_mul_left kd (by omega)
    rw [Nat.mul_succ] at hmul
    rw [colsL_px _ _ _ _ he]
    exact (ent_px K e x.s en kd x.s.size hkd (by rw [qp]; exact ht.ent e he) (by omega) (Nat.le_refl _)).symm
  have hs := read_sim hKO hT (colsL_all _ _ _) fu σ (by rw [s4]; exact hx.led.ok) (by rw [s4]; exact hb) (by rw [s3, qx]; exact hx.src.ok.pe) (by rw [s3, qx]; exact hfu) (by rw [s1]; omega) (by rw [s2]; omega) (by rw [s5, qW, qH]; exact hlen)
  obtain ⟨q, hq⟩ : ∃ q, K.read fu σ = q := ⟨_, rfl⟩
  rw [hq] at hs he hj
  obtain ⟨hcost, hsim⟩ := hs
  obtain ⟨k, hlw, hk⟩ := hcost.lw
  have hpot : K.pot q.1 ≤ H * W := by unfold JK.pot; rw [qW, qH]; omega
  have hpot0 : K.pot σ = 0 := by unfold JK.pot; rw [s1, s2]; omega
  have ha1 := hcost.a1
  rw [qx] at ha1
  rw [s4] at hlw
  rw [s3, hpot0] at hk
  have hWH : H * W = W * H := Nat.mul_comm _ _
  have hm := hlw.calm (by omega)
  have hbr : q.1.l.br = false := by rw [hm]; exact hb
  have hsim := hsim hbr
  rw [qx, qp, ht.n, qW, qH, qd, s1, s2, s3, s5] at hsim
  refine ⟨⟨K.sr q.1, q.1.l, q.1.d, k, q.2, by rw [he, qf]; rfl, ?_, ?_, ?_, ?_, hm, ?_, hsim⟩, hc⟩
  · have := hj.pr; rw [qX] at this; exact this
  · show K.x.L = x.L; rw [qx]
  · exact ha1
  · have := hj.ras
    unfold JK.ras at this
    rw [qR, qr] at this
    exact this
  · show x.p + k ≤ q.1.a + W * H + 1; omega
end Go.Proofs.YtlfbaggcfaenlaaGreat

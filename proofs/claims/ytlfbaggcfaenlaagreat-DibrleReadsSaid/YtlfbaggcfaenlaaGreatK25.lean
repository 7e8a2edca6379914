/- The painter's work as one object; what its small calls do to it. -/
import Derived.Test.YtlfbaggcfaenlaaGreatK24
import Derived.Test.YtlfbaggcfaenlaaGreatK1
import Derived.Test.YtlfbaggcfaenlaaGreatK0
namespace Go.Proofs.YtlfbaggcfaenlaaGreat
open Go.RowKit
set_option linter.unusedVariables false
set_option linter.unusedSimpArgs false
structure JK where
  n : Pn
  x : Sr
  p : Pal
  r : Ras
structure JS where
  x : Nat
  y : Nat
  a : Nat
  l : Led
  d : List Int
def JK.pn (K : JK) (σ : JS) : Pn := { K.n with x := σ.x, y := σ.y }
def JK.sr (K : JK) (σ : JS) : Sr := { K.x with p := σ.a }
def JK.ras (K : JK) (σ : JS) : Ras := { K.r with b := { K.r.b with d := σ.d } }
structure JAt (w : World) (N : Nat) (K : JK) (σ : JS) : Prop where
  pn : PnAt w N (K.pn σ)
  pr : Pair w K.n.X (K.sr σ) σ.l
  pal : PalAt w K.n.P K.p
  ras : RasAt w K.n.R (K.ras σ)
  ap : PnApart N K.n K.x K.p K.r
  op : K.r.op = true
  rw_ : K.r.w = K.n.W
  rh : K.r.h = K.n.H
def jS (N : Nat) (K : JK) (k : Nat) : Prop := k = N ∨ k = K.n.X ∨ k = K.x.L ∨ k = K.r.b.g
theorem JAt.sw {w : World} {N : Nat} {K : JK} {σ : JS} (h : JAt w N K σ) : K.n.W ≤ 16384 := by
  have h1 : K.r.w ≤ 16384 := h.ras.sw
  have h2 := h.rw_
  omega
theorem JAt.sh {w : World} {N : Nat} {K : JK} {σ : JS} (h : JAt w N K σ) : K.n.H ≤ 16384 := by
  have h1 : K.r.h ≤ 16384 := h.ras.sh
  have h2 := h.rh
  omega
theorem JAt.keep {w w' : World} {N : Nat} {K : JK} {σ : JS} (h : JAt w N K σ) (hc : Chg (fun _ => False) w w') : JAt w' N K σ :=
  ⟨hc.obj h.pn (fun h => h), ⟨h.pr.src.chg hc (fun h => h), h.pr.led.chg hc (fun h => h)⟩, h.pal.chg hc (fun h => h) (fun h => h) (fun h => h), h.ras.chg hc (fun h => h) (fun h => h) (fun h => h), h.ap, h.op, h.rw_, h.rh⟩
structure JLt (N : Nat) (K : JK) (b : Nat) : Prop where
  n : N < b
  x : K.n.X < b
  l : K.x.L < b
  p : K.n.P < b
  pb : K.p.B < b
  pg : K.p.b.g < b
  r : K.n.R < b
  rb : K.r.B < b
  rg : K.r.b.g < b
theorem JAt.jlt {w : World} {N : Nat} {K : JK} {σ : JS} (h : JAt w N K σ) : JLt N K w.heap.size :=
  ⟨h.pn.lt, h.pr.src.lt, h.pr.led.lt, h.pal.lt, h.pal.buf.lt, h.pal.buf.glt h.pal.opn, h.ras.lt, h.ras.buf.lt, h.ras.buf.glt (h.ras.opn.trans h.op)⟩
theorem JLt.mono {N : Nat} {K : JK} {a b : Nat} (h : JLt N K a) (hb : a ≤ b) : JLt N K b := by
  obtain ⟨h1, h2, h3, h4, h5, h6, h7, h8, h9⟩ := h
  constructor <;> omega
theorem JAt.far {w w' : World} {N : Nat} {K : JK} {σ : JS} {S : Nat → Prop} {b : Nat} (h : JAt w N K σ) (hl : JLt N K b) (hc : Chg S w w') (hS : ∀ k, S k → b ≤ k) : JAt w' N K σ := by
  have no : ∀ k, k < b → ¬ S k := fun k hk hs => by have := hS k hs; omega
  exact ⟨hc.obj h.pn (no _ hl.n), ⟨h.pr.src.chg hc (no _ hl.x), h.pr.led.chg hc (no _ hl.l)⟩, h.pal.chg hc (no _ hl.p) (no _ hl.pb) (no _ hl.pg), h.ras.chg hc (no _ hl.r) (no _ hl.rb) (no _ hl.rg), h.ap, h.op, h.rw_, h.rh⟩
theorem JAt.stored {w w' : World} {N : Nat} {K : JK} {σ : JS} {b o c : Nat} {vs : List Value} (h : JAt w N K σ) (hl : JLt N K c) (hst : Stored w b o vs w') (hb : c ≤ b) : JAt w' N K σ :=
  h.far hl (Stored.chgS (S := fun k => k = b) hst (Chg.refl _ _) (Or.inl rfl)) (fun k hk => by rw [hk]; exact hb)
theorem JAt.below {w w' : World} {N : Nat} {K : JK} {σ : JS} (h : JAt w N K σ) (hb : Below w.heap.size w w') : JAt w' N K σ := h.keep (chg_of_below hb _)
theorem JAt.drewN {w : World} {N : Nat} {K : JK} {σ : JS} (h : JAt w N K σ) (n : Nat) : JAt (w.drewN n) N K σ := h.keep ((Chg.refl _ _).drewN n)
theorem JAt.drew {w : World} {N : Nat} {K : JK} {σ : JS} (h : JAt w N K σ) : JAt w.drew N K σ := h.keep (Chg.refl _ _).drew
theorem JAt.alloc {w : World} {N : Nat} {K : JK} {σ : JS} (h : JAt w N K σ) (o : Obj) : JAt (w.alloc o) N K σ := h.keep ((Chg.refl _ _).alloc o)
theorem JAt.cell {w : World} {N : Nat} {K : JK} {σ : JS} (h : JAt w N K σ) (i : Nat) (v : Value) (hv : (K.pn σ).cells[i]? = some v) : w.cell? ⟨N, i, none⟩ = some v := (Obj1.cell h.pn i).trans (by simpa using hv)
def fc (f : Int) (t : Int × Int) : List Value := [.int .i64 t.1, .int .i64 (if t.1 = 0 then 0 else f), .int .i64 t.2]
def ftv (f : Int) (t : Int × Int) : Value := .agg (fc f t).toArray
def JK.ft (K : JK) (l : Led) (a : Nat) : Int × Int := if l.br = true then (4, a) else (1, K.x.e)
theorem ftv_ft (K : JK) (σ : JS) (l : Led) (f : Int) : Value.agg (faultL (K.sr σ) l f).toArray = ftv f (K.ft l σ.a) := by
  unfold faultL JK.ft ftv fc
  by_cases h : l.br = true
  · rw [if_pos h, if_pos h]; rfl
  · rw [if_neg h, if_neg h]; rfl
def JK.put (K : JK) (σ : JS) (c0 c1 c2 c3 : Int) : JS × (Int × Int) :=
  if (σ.l.work 1).2 = true then (⟨σ.x + 1, σ.y, σ.a, (σ.l.work 1).1, put4 σ.d (4 * ((K.n.H - 1 - σ.y) * K.n.W + σ.x)) c0 c1 c2 c3⟩, (0, 0)) else
  (⟨σ.x, σ.y, σ.a, (σ.l.work 1).1, σ.d⟩, K.ft (σ.l.work 1).1 σ.a)
theorem jput_any (N : Nat) (K : JK) (σ : JS) (c0 c1 c2 c3 : Int) (w : World) (h : JAt w N K σ) (hx : σ.x < K.n.W) (hy : σ.y < K.n.H)
    (h0 : 0 ≤ c0 ∧ c0 < 256) (h1 : 0 ≤ c1 ∧ c1 < 256) (h2 : 0 ≤ c2 ∧ c2 < 256) (h3 : 0 ≤ c3 ∧ c3 < 256) : Calls Tryz.prog 156 #[.pointer (some ⟨N, 0, none⟩), .agg #[.int .u8 c0, .int .u8 c1, .int .u8 c2, .int .u8 c3]] w fun e w' =>
    e = .returned (ftv K.n.f (K.put σ c0 c1 c2 c3).2) ∧ JAt w' N K (K.put σ c0 c1 c2 c3).1 ∧ Chg (jS N K) w w' := by
  have hW := h.sw
  have hH := h.sh
  have hro : (K.ras σ).op = true := h.op
  have hap : PnApart N (K.pn σ) (K.sr σ) K.p (K.ras σ) := ⟨h.ap.rl, h.ap.a1, h.ap.a2, h.ap.a3, h.ap.a4, h.ap.a5, h.ap.a6, h.ap.a7, h.ap.a8, h.ap.b1, h.ap.b2, h.ap.b3, h.ap.b4, h.ap.c1, h.ap.c2, h.ap.c3, h.ap.d1, h.ap.d2, h.ap.d3, h.ap.e1, h.ap.e2⟩
  refine (pput_any N (K.pn σ) (K.sr σ) σ.l K.p (K.ras σ) c0 c1 c2 c3 w h.pn h.pr h.ras hap (by show σ.x ≤ 100000; omega) (by show K.n.H ≤ 100000; omega) (by show σ.y ≤ 100000; omega) hro h0 h1 h2 h3).mono ?_
  rintro e w' ⟨hp, hpr, hra, hC⟩
  have hin : (K.ras σ).inB (K.pn σ).x (((K.pn σ).H : Int) - 1 - (K.pn σ).y) = true := by
    unfold Ras.inB; rw [hro, Bool.true_and, decide_eq_true_iff]
    show 0 ≤ (σ.x : Int) ∧ (σ.x : Int) < K.r.w ∧ 0 ≤ (K.n.H : Int) - 1 - σ.y ∧ (K.n.H : Int) - 1 - σ.y < K.r.h
    rw [h.rw_, h.rh]; omega
  have hpl : PalAt w' K.n.P K.p := h.pal.chg hC (fun hh => by rcases hh with hh | hh | hh; exact hap.a3 hh.symm; exact hap.c1 hh; exact hap.b2 hh) (fun hh => by rcases hh with hh | hh | hh; exact hap.a4 hh.symm; exact hap.c2 hh; exact hap.b3 hh) (fun hh => by rcases hh with hh | hh | hh; exact hap.a5 hh.symm; exact hap.c3 hh; exact hap.b4 hh)
  have hC2 : Chg (jS N K) w w' := hC.mono fun k _ hk => by
    rcases hk with hk | hk | hk
    · exact Or.inl hk
    · exact Or.inr (Or.inr (Or.inl hk))
    · exact Or.inr (Or.inr (Or.inr hk))
  cases hk : (σ.l.work 1).2 with
  | true =>
    have hset : (K.ras σ).set σ.l (K.pn σ).x (((K.pn σ).H : Int) - 1 - (K.pn σ).y) c0 c1 c2 c3 = ((K.ras (K.put σ c0 c1 c2 c3).1, (σ.l.work 1).1), true) := by
      unfold Ras.set
      rw [hin, if_neg (by decide), if_neg (by rw [hk]; decide)]
      unfold JK.put
      rw [if_pos hk]
      have e1 : (((K.pn σ).H : Int) - 1 - (K.pn σ).y).toNat = K.n.H - 1 - σ.y := by
        show ((K.n.H : Int) - 1 - σ.y).toNat = _; omega
      have e3 : (K.ras σ).w = K.n.W := h.rw_
      have e4 : put4 (K.ras σ).b.d (4 * ((K.n.H - 1 - σ.y) * (K.ras σ).w + ((K.pn σ).x : Int).toNat)) c0 c1 c2 c3 = put4 σ.d (4 * ((K.n.H - 1 - σ.y) * K.n.W + σ.x)) c0 c1 c2 c3 := by rw [e3]; rfl
      rw [e1, e4]
      rfl
    rw [hset] at hp hpr hra
    rw [if_pos rfl] at hp
    have ef : (K.put σ c0 c1 c2 c3).2 = (0, 0) := by unfold JK.put; rw [if_pos hk]
    have e1 : (K.put σ c0 c1 c2 c3).1.x = σ.x + 1 ∧ (K.put σ c0 c1 c2 c3).1.y = σ.y ∧ (K.put σ c0 c1 c2 c3).1.a = σ.a ∧ (K.put σ c0 c1 c2 c3).1.l = (σ.l.work 1).1 := by unfold JK.put; rw [if_pos hk]; exact ⟨rfl, rfl, rfl, rfl⟩
    obtain ⟨e2, e3, e4, e5⟩ := e1
    refine ⟨by rw [ef]; exact hp.1, ⟨?_, ?_, hpl, hra, h.ap, h.op, h.rw_, h.rh⟩, hC2⟩
    · have := hp.2; unfold JK.pn at this ⊢; rw [e2, e3]; exact this
    · unfold JK.sr at hpr ⊢; rw [e4, e5]; exact hpr
  | false =>
    have hset : (K.ras σ).set σ.l (K.pn σ).x (((K.pn σ).H : Int) - 1 - (K.pn σ).y) c0 c1 c2 c3 = ((K.ras σ, (σ.l.work 1).1), false) := by
      unfold Ras.set
      rw [hin, if_neg (by decide), if_pos hk]
    rw [hset] at hp hpr hra
    rw [if_neg (fun hh => by cases hh)] at hp
    have ep : K.put σ c0 c1 c2 c3 = (⟨σ.x, σ.y, σ.a, (σ.l.work 1).1, σ.d⟩, K.ft (σ.l.work 1).1 σ.a) := by unfold JK.put; rw [if_neg (by rw [hk]; decide)]
    rw [ep]
    refine ⟨?_, ⟨hp.2, hpr, hpl, hra, h.ap, h.op, h.rw_, h.rh⟩, hC2⟩
    rw [hp.1]
    exact congrArg Ending.returned (ftv_ft K σ (σ.l.work 1).1 K.n.f)
theorem jwrong_any (N : Nat) (K : JK) (σ : JS) (a : Int) (w : World) (h : JAt w N K σ) : Calls Tryz.prog 154 #[.pointer (some ⟨N, 0, none⟩), .int .i64 a] w fun e w' => e = .returned (ftv K.n.f (2, a)) ∧ Below w.heap.size w w' :=
  pwrong_any N (K.pn σ) a w h.pn
theorem jroom_any (N : Nat) (K : JK) (σ : JS) (c : Int) (w : World) (h : JAt w N K σ) (hx : σ.x ≤ K.n.W) : Calls Tryz.prog 153 #[.pointer (some ⟨N, 0, none⟩), .int .i64 c] w fun e w' => e = .returned (.bool (decide (σ.y < K.n.H ∧ c ≤ (K.n.W : Int) - σ.x))) ∧ Chg (fun _ => False) w w' :=
  proom_any N (K.pn σ) c w h.pn hx h.sw
def JK.ins (K : JK) (σ : JS) (a : Int) : Int × Int := if K.n.W < σ.x ∨ K.n.H < σ.y then (2, a) else (0, 0)
theorem jinside_any (N : Nat) (K : JK) (σ : JS) (a : Int) (w : World) (h : JAt w N K σ) : Calls Tryz.prog 82 #[.pointer (some ⟨N, 0, none⟩), .int .i64 a] w fun e w' => e = .returned (ftv K.n.f (K.ins σ a)) ∧ Chg (fun _ => False) w w' := by
  refine (pinside_any N (K.pn σ) a w h.pn).mono ?_
  rintro e w' ⟨he, hc⟩
  refine ⟨?_, hc⟩
  rw [he]
  unfold JK.ins
  by_cases hh : K.n.W < σ.x ∨ K.n.H < σ.y
  · rw [if_pos hh]; exact congrArg Ending.returned (if_pos hh)
  · rw [if_neg hh]; exact congrArg Ending.returned (if_neg hh)
def JK.next (K : JK) (σ : JS) (n : Nat) : JS × (ByteArray × Bool) :=
  if (σ.l.work 1).2 = true ∧ n ≤ K.x.e - σ.a then (⟨σ.x, σ.y, σ.a + n, (σ.l.work 1).1, σ.d⟩, (K.x.s.extract σ.a (σ.a + n), true)) else (⟨σ.x, σ.y, σ.a, (σ.l.work 1).1, σ.d⟩, (ByteArray.empty, false))
theorem jnext_eq {w : World} {N : Nat} {K : JK} {σ : JS} (h : JAt w N K σ) (n : Nat) : (K.sr σ).next σ.l n = ((K.sr (K.next σ n).1, (K.next σ n).1.l), (K.next σ n).2) := by
  have h1 : σ.a ≤ K.x.e := h.pr.src.ok.pe
  unfold Sr.next JK.next
  by_cases hc : (σ.l.work 1).2 = true ∧ n ≤ K.x.e - σ.a
  · rw [if_pos hc, if_pos ⟨hc.1, by omega, by show (n : Int) ≤ (K.x.e : Int) - σ.a; have := hc.2; omega⟩]
    rfl
  · rw [if_neg hc, if_neg (fun hh => hc ⟨hh.1, by have h2 : (n : Int) ≤ (K.x.e : Int) - σ.a := hh.2.2; omega⟩)]
    rfl
theorem jnext_at {w w' : World} {N : Nat} {K : JK} {σ : JS} (h : JAt w N K σ) (n : Nat) (hp : Pair w' K.n.X (K.sr (K.next σ n).1) (K.next σ n).1.l) (hC : Chg (two K.n.X (K.sr σ)) w w') : JAt w' N K (K.next σ n).1 ∧ Chg (jS N K) w w' := by
  have hap := h.ap
  have e1 : (K.next σ n).1.x = σ.x ∧ (K.next σ n).1.y = σ.y ∧ (K.next σ n).1.d = σ.d := by unfold JK.next; split <;> exact ⟨rfl, rfl, rfl⟩
  obtain ⟨e2, e3, e4⟩ := e1
  have no : ∀ k, k ≠ K.n.X → k ≠ K.x.L → ¬ two K.n.X (K.sr σ) k := fun k ha hb hh => by rcases hh with hh | hh; exact ha hh; exact hb hh
  have hgl : K.r.b.g ≠ K.x.L := by
    have := h.ras.buf.gl; have e : (K.ras σ).b.L = K.x.L := h.ras.bl.trans hap.rl
    rw [e] at this; exact this
  have hBl : K.r.B ≠ K.x.L := by
    have := h.ras.buf.nl; have e : (K.ras σ).b.L = K.x.L := h.ras.bl.trans hap.rl
    rw [e] at this; exact this
  have hRl : K.n.R ≠ K.x.L := by
    have := h.ras.nl; have e : (K.ras σ).L = K.x.L := hap.rl
    rw [e] at this; exact this
  refine ⟨⟨?_, hp, h.pal.chg hC (no _ hap.d1 hap.c1) (no _ hap.d2 hap.c2) (no _ hap.d3 hap.c3), ?_, h.ap, h.op, h.rw_, h.rh⟩, hC.mono fun k _ hk => ?_⟩
  · have := hC.obj h.pn (no _ hap.a1 hap.a2); unfold JK.pn at this ⊢; rw [e2, e3]; exact this
  · have := h.ras.chg hC (no _ hap.e1 hRl) (no _ hap.e2 hBl) (no _ (fun e => hap.b1 e.symm) hgl)
    unfold JK.ras at this ⊢; rw [e4]; exact this
  · rcases hk with hk | hk
    · exact Or.inr (Or.inl hk)
    · exact Or.inr (Or.inr (Or.inl hk))
theorem jtake_any (N : Nat) (K : JK) (σ : JS) (n : Nat) (w : World) (h : JAt w N K σ) : Calls Tryz.prog 66 #[.pointer (some ⟨K.n.X, 0, none⟩), .int .i64 n] w fun e w' =>
    e = .returned (.tuple #[.string (K.next σ n).2.1, .bool (K.next σ n).2.2]) ∧ JAt w' N K (K.next σ n).1 ∧ Chg (jS N K) w w' := by
  refine (take_any K.n.X (K.sr σ) σ.l n w h.pr).mono ?_
  rintro e w' ⟨he, hp, hc⟩
  rw [jnext_eq h n] at he hp
  exact ⟨he, jnext_at h n hp hc⟩
theorem jskip_any (N : Nat) (K : JK) (σ : JS) (n : Nat) (w : World) (h : JAt w N K σ) : Calls Tryz.prog 70 #[.pointer (some ⟨K.n.X, 0, none⟩), .int .i64 n] w fun e w' =>
    e = .returned (.bool (K.next σ n).2.2) ∧ JAt w' N K (K.next σ n).1 ∧ Chg (jS N K) w w' := by
  refine (skip_any K.n.X (K.sr σ) σ.l n w h.pr).mono ?_
  rintro e w' ⟨he, hp, hc⟩
  rw [jnext_eq h n] at he hp
  exact ⟨he, jnext_at h n hp hc⟩
theorem num_one (s : ByteArray) (p : Nat) (h : p < s.size) : numB (s.extract p (p + 1)) true = byN s p := by
  have hz : (s.extract p (p + 1)).size = 1 := by rw [ByteArray.size_extract]; omega
  unfold numB
  rw [if_pos rfl, hz]
  show (0 : Int) + byN (s.extract p (p + 1)) 0 * 2 ^ 0 = _
  have : byN (s.extract p (p + 1)) 0 = byN s p := by
    rw [← byN_get _ 0 (by omega), ← byN_get s p h]
    congr 2
    rw [ByteArray.getElem_extract]; rfl
  rw [this]; simp
theorem ju8_any (N : Nat) (K : JK) (σ : JS) (w : World) (h : JAt w N K σ) : Calls Tryz.prog 157 #[.pointer (some ⟨K.n.X, 0, none⟩)] w fun e w' =>
    e = .returned (.tuple #[.int .i64 (if (K.next σ 1).2.2 = true then byN K.x.s σ.a else 0), .bool (K.next σ 1).2.2]) ∧ JAt w' N K (K.next σ 1).1 ∧ Chg (jS N K) w w' := by
  refine (u8_any K.n.X (K.sr σ) σ.l w h.pr).mono ?_
  rintro e w' ⟨he, hp, hc⟩
  have hq := jnext_eq h 1
  have hq' : (K.sr σ).next σ.l 1 = ((K.sr (K.next σ 1).1, (K.next σ 1).1.l), (K.next σ 1).2) := hq
  rw [hq'] at he hp
  refine ⟨?_, jnext_at h 1 hp hc⟩
  rw [he]
  have hs : σ.a ≤ K.x.e := h.pr.src.ok.pe
  have hes : K.x.e ≤ K.x.s.size := h.pr.src.ok.es
  have hv : numB (K.next σ 1).2.1 true = if (K.next σ 1).2.2 = true then byN K.x.s σ.a else 0 := by
    unfold JK.next
    by_cases hc : (σ.l.work 1).2 = true ∧ 1 ≤ K.x.e - σ.a
    · rw [if_pos hc]
      show numB (K.x.s.extract σ.a (σ.a + 1)) true = byN K.x.s σ.a
      exact num_one K.x.s σ.a (by have := hc.2; omega)
    · rw [if_neg hc]; rfl
  rw [← hv]
theorem jfault_any (N : Nat) (K : JK) (σ : JS) (w : World) (h : JAt w N K σ) : Calls Tryz.prog 67 #[.pointer (some ⟨K.n.X, 0, none⟩), .int .i64 K.n.f] w fun e w' => e = .returned (ftv K.n.f (K.ft σ.l σ.a)) ∧ Below w.heap.size w w' := by
  refine (fault8_any K.n.X (K.sr σ) σ.l K.n.f w h.pr).mono ?_
  rintro e w' ⟨he, hb⟩
  exact ⟨by rw [he, ftv_ft K σ σ.l K.n.f], hb⟩
theorem jat_any (N : Nat) (K : JK) (σ : JS) (w : World) (h : JAt w N K σ) : Calls Tryz.prog 32 #[.pointer (some ⟨K.n.X, 0, none⟩)] w fun e w' => e = .returned (.int .i64 σ.a) ∧ w = w' :=
  at_any K.n.X (K.sr σ) w h.pr.src
end Go.Proofs.YtlfbaggcfaenlaaGreat

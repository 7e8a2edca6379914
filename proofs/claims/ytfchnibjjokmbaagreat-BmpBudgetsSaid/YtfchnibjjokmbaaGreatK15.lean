/- Parts. -/
import Derived.Test.YtfchnibjjokmbaaGreatK14
set_option linter.all false
set_option maxRecDepth 100000
set_option maxHeartbeats 16000000
open Go.Value renaming int → J, pointer → Y
open Go.IntKind renaming i64 → I, u8 → U
namespace Go.Proofs.YtfchnibjjokmbaaGreat
open Go.RowKit
structure JK where
 n : Pn
 x : Sr
 p : Pal
 r : Ras
structure JS where
 x : Nat
 y : Nat
 a : Nat
 l : Led
 d : List Int
def JK.pn (K : JK) (σ : JS) : Pn := { K.n with x := σ.x, y := σ.y }
def JK.sr (K : JK) (σ : JS) : Sr := { K.x with p := σ.a }
def JK.ras (K : JK) (σ : JS) : Ras := { K.r with b := { K.r.b with d := σ.d } }
structure JAt (w : World) (N : Nat) (K : JK) (σ : JS) : Prop where
 pn : PnAt w N (K.pn σ)
 pr : Pair w K.n.X (K.sr σ) σ.l
 pal : PalAt w K.n.P K.p
 ras : RasAt w K.n.R (K.ras σ)
 ap : PnApart N K.n K.x K.p K.r
 op : K.r.op = true
 rw_ : K.r.w = K.n.W
 rh : K.r.h = K.n.H
def jS (N : Nat) (K : JK) (k : Nat) : Prop := k = N ∨ k = K.n.X ∨ k = K.x.L ∨ k = K.r.b.g
theorem JAt.sw {w : World} {N : Nat} {K : JK} {σ : JS} (h : JAt w N K σ) : K.n.W ≤ 16384 := by
 have h1 : K.r.w ≤ 16384 := h.ras.sw
 have h2 := h.rw_
 omega
theorem JAt.sh {w : World} {N : Nat} {K : JK} {σ : JS} (h : JAt w N K σ) : K.n.H ≤ 16384 := by
 have h1 : K.r.h ≤ 16384 := h.ras.sh
 have h2 := h.rh
 omega
theorem JAt.keep {w w' : World} {N : Nat} {K : JK} {σ : JS} (h : JAt w N K σ) (hc : Chg (fun _ => False) w w') : JAt w' N K σ :=
 ⟨hc.obj h.pn (fun h => h), ⟨h.pr.src.chg hc (fun h => h), h.pr.led.chg hc (fun h => h)⟩, h.pal.chg hc (fun h => h) (fun h => h) (fun h => h), h.ras.chg hc (fun h => h) (fun h => h) (fun h => h), h.ap, h.op, h.rw_, h.rh⟩
structure JLt (N : Nat) (K : JK) (b : Nat) : Prop where
 n : N < b
 x : K.n.X < b
 l : K.x.L < b
 p : K.n.P < b
 pb : K.p.B < b
 pg : K.p.b.g < b
 r : K.n.R < b
 rb : K.r.B < b
 rg : K.r.b.g < b
theorem JAt.jlt {w : World} {N : Nat} {K : JK} {σ : JS} (h : JAt w N K σ) : JLt N K w.heap.size :=
 ⟨h.pn.lt, h.pr.src.lt, h.pr.led.lt, h.pal.lt, h.pal.buf.lt, h.pal.buf.glt h.pal.opn, h.ras.lt, h.ras.buf.lt, h.ras.buf.glt (h.ras.opn.trans h.op)⟩
theorem JLt.mono {N : Nat} {K : JK} {a b : Nat} (h : JLt N K a) (hb : a ≤ b) : JLt N K b := by
 obtain ⟨h1, h2, h3, h4, h5, h6, h7, h8, h9⟩ := h
 constructor <;> omega
theorem JAt.far {w w' : World} {N : Nat} {K : JK} {σ : JS} {S : Nat → Prop} {b : Nat} (h : JAt w N K σ) (hl : JLt N K b) (hc : Chg S w w') (hS : ∀ k, S k → b ≤ k) : JAt w' N K σ := by
 have no : ∀ k, k < b → ¬ S k := fun k hk hs => by have := hS k hs; omega
 exact ⟨hc.obj h.pn (no _ hl.n), ⟨h.pr.src.chg hc (no _ hl.x), h.pr.led.chg hc (no _ hl.l)⟩, h.pal.chg hc (no _ hl.p) (no _ hl.pb) (no _ hl.pg), h.ras.chg hc (no _ hl.r) (no _ hl.rb) (no _ hl.rg), h.ap, h.op, h.rw_, h.rh⟩
theorem JAt.stored {w w' : World} {N : Nat} {K : JK} {σ : JS} {b o c : Nat} {vs : List Value} (h : JAt w N K σ) (hl : JLt N K c) (hst : Stored w b o vs w') (hb : c ≤ b) : JAt w' N K σ :=
 h.far hl (Stored.chgS (S := fun k => k = b) hst (Chg.refl _ _) (Or.inl rfl)) (fun k hk => by rw [hk]; exact hb)
theorem JAt.below {w w' : World} {N : Nat} {K : JK} {σ : JS} (h : JAt w N K σ) (hb : Below w.heap.size w w') : JAt w' N K σ := h.keep (aB hb _)
theorem JAt.drewN {w : World} {N : Nat} {K : JK} {σ : JS} (h : JAt w N K σ) (n : Nat) : JAt (w.drewN n) N K σ := h.keep ((Chg.refl _ _).drewN n)
theorem JAt.drew {w : World} {N : Nat} {K : JK} {σ : JS} (h : JAt w N K σ) : JAt w.drew N K σ := h.keep (Chg.refl _ _).drew
theorem JAt.alloc {w : World} {N : Nat} {K : JK} {σ : JS} (h : JAt w N K σ) (o : Obj) : JAt (w.alloc o) N K σ := h.keep ((Chg.refl _ _).alloc o)
theorem JAt.cell {w : World} {N : Nat} {K : JK} {σ : JS} (h : JAt w N K σ) (i : Nat) (v : Value) (hv : (K.pn σ).cells[i]? = some v) : w.cell? ⟨N, i, none⟩ = some v := (Obj1.cell h.pn i).trans (by simpa using hv)
def fc (f : Int) (t : Int × Int) : List Value := [J I t.1, J I (if t.1 = 0 then 0 else f), J I t.2]
theorem fc_len (f : Int) (t : Int × Int) : (fc f t).length = 3 := rfl
theorem fc_one (f : Int) (t : Int × Int) : (fc f t).all (·.oneCell') = true := rfl
def ftv (f : Int) (t : Int × Int) : Value := .agg (fc f t).toArray
def JK.ft (K : JK) (l : Led) (a : Nat) : Int × Int := if l.br = true then (4, a) else (1, K.x.e)
theorem ftv_ft (K : JK) (σ : JS) (l : Led) (f : Int) : Value.agg (aK (K.sr σ) l f).toArray = ftv f (K.ft l σ.a) := by
 unfold aK JK.ft ftv fc
 by_cases h : l.br = true
 · rw [if_pos h, if_pos h]; rfl
 · rw [if_neg h, if_neg h]; rfl
def JK.put (K : JK) (σ : JS) (c0 c1 c2 c3 : Int) : JS × (Int × Int) :=
 if (σ.l.work 1).2 = true then (⟨σ.x + 1, σ.y, σ.a, (σ.l.work 1).1, put4 σ.d (4 * ((K.n.H - 1 - σ.y) * K.n.W + σ.x)) c0 c1 c2 c3⟩, (0, 0)) else
 (⟨σ.x, σ.y, σ.a, (σ.l.work 1).1, σ.d⟩, K.ft (σ.l.work 1).1 σ.a)
theorem jput_any (N : Nat) (K : JK) (σ : JS) (c0 c1 c2 c3 : Int) (w : World) (h : JAt w N K σ) (hx : σ.x < K.n.W) (hy : σ.y < K.n.H)
 (h0 : 0 ≤ c0 ∧ c0 < 256) (h1 : 0 ≤ c1 ∧ c1 < 256) (h2 : 0 ≤ c2 ∧ c2 < 256) (h3 : 0 ≤ c3 ∧ c3 < 256) : Calls Tryz.prog 188 #[Y (some ⟨N, 0, none⟩), .agg #[J U c0, J U c1, J U c2, J U c3]] w fun e w' =>
 e = .returned (ftv K.n.f (K.put σ c0 c1 c2 c3).2) ∧ JAt w' N K (K.put σ c0 c1 c2 c3).1 ∧ Chg (jS N K) w w' := by
 have hW := h.sw
 have hH := h.sh
 have hro : (K.ras σ).op = true := h.op
 have hap : PnApart N (K.pn σ) (K.sr σ) K.p (K.ras σ) := ⟨h.ap.rl, h.ap.a1, h.ap.a2, h.ap.a3, h.ap.a4, h.ap.a5, h.ap.a6, h.ap.a7, h.ap.a8, h.ap.b1, h.ap.b2, h.ap.b3, h.ap.b4, h.ap.c1, h.ap.c2, h.ap.c3, h.ap.d1, h.ap.d2, h.ap.d3, h.ap.e1, h.ap.e2⟩
 refine (pput_any N (K.pn σ) (K.sr σ) σ.l K.p (K.ras σ) c0 c1 c2 c3 w h.pn h.pr h.ras hap (by show σ.x ≤ 100000; omega) (by show K.n.H ≤ 100000; omega) (by show σ.y ≤ 100000; omega) hro h0 h1 h2 h3).mono ?_
 rintro e w' ⟨hp, hpr, hra, hC⟩
 have hin : (K.ras σ).inB (K.pn σ).x (((K.pn σ).H : Int) - 1 - (K.pn σ).y) = true := by
  unfold Ras.inB; rw [hro, Bool.true_and, decide_eq_true_iff]
  show 0 ≤ (σ.x : Int) ∧ (σ.x : Int) < K.r.w ∧ 0 ≤ (K.n.H : Int) - 1 - σ.y ∧ (K.n.H : Int) - 1 - σ.y < K.r.h
  rw [h.rw_, h.rh]; omega
 have hpl : PalAt w' K.n.P K.p := h.pal.chg hC (fun hh => by rcases hh with hh | hh | hh; exact hap.a3 hh.symm; exact hap.c1 hh; exact hap.b2 hh) (fun hh => by rcases hh with hh | hh | hh; exact hap.a4 hh.symm; exact hap.c2 hh; exact hap.b3 hh) (fun hh => by rcases hh with hh | hh | hh; exact hap.a5 hh.symm; exact hap.c3 hh; exact hap.b4 hh)
 have hC2 : Chg (jS N K) w w' := hC.mono fun k _ hk => by
  rcases hk with hk | hk | hk
  · exact Or.inl hk
  · exact Or.inr (Or.inr (Or.inl hk))
  · exact Or.inr (Or.inr (Or.inr hk))
 cases hk : (σ.l.work 1).2 with
 | true =>
   have hset : (K.ras σ).set σ.l (K.pn σ).x (((K.pn σ).H : Int) - 1 - (K.pn σ).y) c0 c1 c2 c3 = ((K.ras (K.put σ c0 c1 c2 c3).1, (σ.l.work 1).1), true) := by
    unfold Ras.set
    rw [hin, if_neg (by decide), if_neg (by rw [hk]; decide)]
    unfold JK.put
    rw [if_pos hk]
    have e1 : (((K.pn σ).H : Int) - 1 - (K.pn σ).y).toNat = K.n.H - 1 - σ.y := by
     show ((K.n.H : Int) - 1 - σ.y).toNat = _; omega
    have e3 : (K.ras σ).w = K.n.W := h.rw_
    have e4 : put4 (K.ras σ).b.d (4 * ((K.n.H - 1 - σ.y) * (K.ras σ).w + ((K.pn σ).x : Int).toNat)) c0 c1 c2 c3 = put4 σ.d (4 * ((K.n.H - 1 - σ.y) * K.n.W + σ.x)) c0 c1 c2 c3 := by rw [e3]; rfl
    rw [e1, e4]
    rfl
   rw [hset] at hp hpr hra
   rw [if_pos rfl] at hp
   have ef : (K.put σ c0 c1 c2 c3).2 = (0, 0) := by unfold JK.put; rw [if_pos hk]
   have e1 : (K.put σ c0 c1 c2 c3).1.x = σ.x + 1 ∧ (K.put σ c0 c1 c2 c3).1.y = σ.y ∧ (K.put σ c0 c1 c2 c3).1.a = σ.a ∧ (K.put σ c0 c1 c2 c3).1.l = (σ.l.work 1).1 := by unfold JK.put; rw [if_pos hk]; exact ⟨rfl, rfl, rfl, rfl⟩
   obtain ⟨e2, e3, e4, e5⟩ := e1
   refine ⟨by rw [ef]; exact hp.1, ⟨?_, ?_, hpl, hra, h.ap, h.op, h.rw_, h.rh⟩, hC2⟩
   · have := hp.2; unfold JK.pn at this ⊢; rw [e2, e3]; exact this
   · unfold JK.sr at hpr ⊢; rw [e4, e5]; exact hpr
 | false =>
   have hset : (K.ras σ).set σ.l (K.pn σ).x (((K.pn σ).H : Int) - 1 - (K.pn σ).y) c0 c1 c2 c3 = ((K.ras σ, (σ.l.work 1).1), false) := by
    unfold Ras.set
    rw [hin, if_neg (by decide), if_pos hk]
   rw [hset] at hp hpr hra
   rw [if_neg (fun hh => by cases hh)] at hp
   have ep : K.put σ c0 c1 c2 c3 = (⟨σ.x, σ.y, σ.a, (σ.l.work 1).1, σ.d⟩, K.ft (σ.l.work 1).1 σ.a) := by unfold JK.put; rw [if_neg (by rw [hk]; decide)]
   rw [ep]
   refine ⟨?_, ⟨hp.2, hpr, hpl, hra, h.ap, h.op, h.rw_, h.rh⟩, hC2⟩
   rw [hp.1]
   exact congrArg Ending.returned (ftv_ft K σ (σ.l.work 1).1 K.n.f)
theorem jwrong_any (N : Nat) (K : JK) (σ : JS) (a : Int) (w : World) (h : JAt w N K σ) : Calls Tryz.prog 186 #[Y (some ⟨N, 0, none⟩), J I a] w fun e w' => e = .returned (ftv K.n.f (2, a)) ∧ Below w.heap.size w w' :=
 pwrong_any N (K.pn σ) a w h.pn
theorem jroom_any (N : Nat) (K : JK) (σ : JS) (c : Int) (w : World) (h : JAt w N K σ) (hx : σ.x ≤ K.n.W) : Calls Tryz.prog 185 #[Y (some ⟨N, 0, none⟩), J I c] w fun e w' => e = .returned (.bool (decide (σ.y < K.n.H ∧ c ≤ (K.n.W : Int) - σ.x))) ∧ Chg (fun _ => False) w w' :=
 proom_any N (K.pn σ) c w h.pn hx h.sw
def JK.ins (K : JK) (σ : JS) (a : Int) : Int × Int := if K.n.W < σ.x ∨ K.n.H < σ.y then (2, a) else (0, 0)
theorem jinside_any (N : Nat) (K : JK) (σ : JS) (a : Int) (w : World) (h : JAt w N K σ) : Calls Tryz.prog 151 #[Y (some ⟨N, 0, none⟩), J I a] w fun e w' => e = .returned (ftv K.n.f (K.ins σ a)) ∧ Chg (fun _ => False) w w' := by
 refine (pinside_any N (K.pn σ) a w h.pn).mono ?_
 rintro e w' ⟨he, hc⟩
 refine ⟨?_, hc⟩
 rw [he]
 unfold JK.ins
 by_cases hh : K.n.W < σ.x ∨ K.n.H < σ.y
 · rw [if_pos hh]; exact congrArg Ending.returned (if_pos hh)
 · rw [if_neg hh]; exact congrArg Ending.returned (if_neg hh)
def JK.next (K : JK) (σ : JS) (n : Nat) : JS × (ByteArray × Bool) :=
 if (σ.l.work 1).2 = true ∧ n ≤ K.x.e - σ.a then (⟨σ.x, σ.y, σ.a + n, (σ.l.work 1).1, σ.d⟩, (K.x.s.extract σ.a (σ.a + n), true)) else (⟨σ.x, σ.y, σ.a, (σ.l.work 1).1, σ.d⟩, (ByteArray.empty, false))
theorem jnext_eq {w : World} {N : Nat} {K : JK} {σ : JS} (h : JAt w N K σ) (n : Nat) : (K.sr σ).next σ.l n = ((K.sr (K.next σ n).1, (K.next σ n).1.l), (K.next σ n).2) := by
 have h1 : σ.a ≤ K.x.e := h.pr.src.ok.pe
 unfold Sr.next JK.next
 by_cases hc : (σ.l.work 1).2 = true ∧ n ≤ K.x.e - σ.a
 · rw [if_pos hc, if_pos ⟨hc.1, by omega, by show (n : Int) ≤ (K.x.e : Int) - σ.a; have := hc.2; omega⟩]
   rfl
 · rw [if_neg hc, if_neg (fun hh => hc ⟨hh.1, by have h2 : (n : Int) ≤ (K.x.e : Int) - σ.a := hh.2.2; omega⟩)]
   rfl
theorem jnext_at {w w' : World} {N : Nat} {K : JK} {σ : JS} (h : JAt w N K σ) (n : Nat) (hp : Pair w' K.n.X (K.sr (K.next σ n).1) (K.next σ n).1.l) (hC : Chg (two K.n.X (K.sr σ)) w w') : JAt w' N K (K.next σ n).1 ∧ Chg (jS N K) w w' := by
 have hap := h.ap
 have e1 : (K.next σ n).1.x = σ.x ∧ (K.next σ n).1.y = σ.y ∧ (K.next σ n).1.d = σ.d := by unfold JK.next; split <;> exact ⟨rfl, rfl, rfl⟩
 obtain ⟨e2, e3, e4⟩ := e1
 have no : ∀ k, k ≠ K.n.X → k ≠ K.x.L → ¬ two K.n.X (K.sr σ) k := fun k ha hb hh => by rcases hh with hh | hh; exact ha hh; exact hb hh
 have hgl : K.r.b.g ≠ K.x.L := by
  have := h.ras.buf.gl; have e : (K.ras σ).b.L = K.x.L := h.ras.bl.trans hap.rl
  rw [e] at this; exact this
 have hBl : K.r.B ≠ K.x.L := by
  have := h.ras.buf.nl; have e : (K.ras σ).b.L = K.x.L := h.ras.bl.trans hap.rl
  rw [e] at this; exact this
 have hRl : K.n.R ≠ K.x.L := by
  have := h.ras.nl; have e : (K.ras σ).L = K.x.L := hap.rl
  rw [e] at this; exact this
 refine ⟨⟨?_, hp, h.pal.chg hC (no _ hap.d1 hap.c1) (no _ hap.d2 hap.c2) (no _ hap.d3 hap.c3), ?_, h.ap, h.op, h.rw_, h.rh⟩, hC.mono fun k _ hk => ?_⟩
 · have := hC.obj h.pn (no _ hap.a1 hap.a2); unfold JK.pn at this ⊢; rw [e2, e3]; exact this
 · have := h.ras.chg hC (no _ hap.e1 hRl) (no _ hap.e2 hBl) (no _ (fun e => hap.b1 e.symm) hgl)
   unfold JK.ras at this ⊢; rw [e4]; exact this
 · rcases hk with hk | hk
   · exact Or.inr (Or.inl hk)
   · exact Or.inr (Or.inr (Or.inl hk))
theorem jtake_any (N : Nat) (K : JK) (σ : JS) (n : Nat) (w : World) (h : JAt w N K σ) : Calls Tryz.prog 57 #[Y (some ⟨K.n.X, 0, none⟩), J I n] w fun e w' =>
 e = .returned (.tuple #[.string (K.next σ n).2.1, .bool (K.next σ n).2.2]) ∧ JAt w' N K (K.next σ n).1 ∧ Chg (jS N K) w w' := by
 refine (take_any K.n.X (K.sr σ) σ.l n w h.pr).mono ?_
 rintro e w' ⟨he, hp, hc⟩
 rw [jnext_eq h n] at he hp
 exact ⟨he, jnext_at h n hp hc⟩
theorem jskip_any (N : Nat) (K : JK) (σ : JS) (n : Nat) (w : World) (h : JAt w N K σ) : Calls Tryz.prog 128 #[Y (some ⟨K.n.X, 0, none⟩), J I n] w fun e w' =>
 e = .returned (.bool (K.next σ n).2.2) ∧ JAt w' N K (K.next σ n).1 ∧ Chg (jS N K) w w' := by
 refine (skip_any K.n.X (K.sr σ) σ.l n w h.pr).mono ?_
 rintro e w' ⟨he, hp, hc⟩
 rw [jnext_eq h n] at he hp
 exact ⟨he, jnext_at h n hp hc⟩
theorem num_one (s : ByteArray) (p : Nat) (h : p < s.size) : numB (s.extract p (p + 1)) true = aG s p := by
 have hz : (s.extract p (p + 1)).size = 1 := by rw [ByteArray.size_extract]; omega
 unfold numB
 rw [if_pos rfl, hz]
 show (0 : Int) + aG (s.extract p (p + 1)) 0 * 2 ^ 0 = _
 have : aG (s.extract p (p + 1)) 0 = aG s p := by
  rw [← aX _ 0 (by omega), ← aX s p h]
  congr 2
  rw [ByteArray.getElem_extract]; rfl
 rw [this]; simp
theorem ju8_any (N : Nat) (K : JK) (σ : JS) (w : World) (h : JAt w N K σ) : Calls Tryz.prog 179 #[Y (some ⟨K.n.X, 0, none⟩)] w fun e w' =>
 e = .returned (.tuple #[J I (if (K.next σ 1).2.2 = true then aG K.x.s σ.a else 0), .bool (K.next σ 1).2.2]) ∧ JAt w' N K (K.next σ 1).1 ∧ Chg (jS N K) w w' := by
 refine (u8_any K.n.X (K.sr σ) σ.l w h.pr).mono ?_
 rintro e w' ⟨he, hp, hc⟩
 have hq := jnext_eq h 1
 have hq' : (K.sr σ).next σ.l 1 = ((K.sr (K.next σ 1).1, (K.next σ 1).1.l), (K.next σ 1).2) := hq
 rw [hq'] at he hp
 refine ⟨?_, jnext_at h 1 hp hc⟩
 rw [he]
 have hs : σ.a ≤ K.x.e := h.pr.src.ok.pe
 have hes : K.x.e ≤ K.x.s.size := h.pr.src.ok.es
 have hv : numB (K.next σ 1).2.1 true = if (K.next σ 1).2.2 = true then aG K.x.s σ.a else 0 := by
  unfold JK.next
  by_cases hc : (σ.l.work 1).2 = true ∧ 1 ≤ K.x.e - σ.a
  · rw [if_pos hc]
    show numB (K.x.s.extract σ.a (σ.a + 1)) true = aG K.x.s σ.a
    exact num_one K.x.s σ.a (by have := hc.2; omega)
  · rw [if_neg hc]; rfl
 rw [← hv]
theorem jfault_any (N : Nat) (K : JK) (σ : JS) (w : World) (h : JAt w N K σ) : Calls Tryz.prog 37 #[Y (some ⟨K.n.X, 0, none⟩), J I K.n.f] w fun e w' => e = .returned (ftv K.n.f (K.ft σ.l σ.a)) ∧ Below w.heap.size w w' := by
 refine (fault8_any K.n.X (K.sr σ) σ.l K.n.f w h.pr).mono ?_
 rintro e w' ⟨he, hb⟩
 exact ⟨by rw [he, ftv_ft K σ σ.l K.n.f], hb⟩
theorem jat_any (N : Nat) (K : JK) (σ : JS) (w : World) (h : JAt w N K σ) : Calls Tryz.prog 23 #[Y (some ⟨K.n.X, 0, none⟩)] w fun e w' => e = .returned (J I σ.a) ∧ w = w' :=
 at_any K.n.X (K.sr σ) w h.pr.src
def JK.putE (K : JK) (σ : JS) (e : Int) : JS × (Int × Int) := K.put σ (aG (K.p.ent e.toNat) 0) (aG (K.p.ent e.toNat) 1) (aG (K.p.ent e.toNat) 2) (aG (K.p.ent e.toNat) 3)
def JK.byteL (K : JK) (v pl : Int) : Nat → Nat → JS → JS × (Int × Int)
 | 0, i, σ => (σ, (0, 0))
 | c + 1, i, σ => if K.p.has (aT v K.n.dp i) = false then (σ, (2, pl)) else
    if (K.putE σ (aT v K.n.dp i)).2.1 = 0 then K.byteL v pl c (i + 1) (K.putE σ (aT v K.n.dp i)).1 else K.putE σ (aT v K.n.dp i)
def JK.putsL (K : JK) (es : Nat → Int) : Nat → Nat → JS → JS × (Int × Int)
 | 0, i, σ => (σ, (0, 0))
 | c + 1, i, σ => if (K.putE σ (es i)).2.1 = 0 then K.putsL es c (i + 1) (K.putE σ (es i)).1 else K.putE σ (es i)
def JK.runL (K : JK) (e0 e1 : Int) : Nat → Nat → JS → JS × (Int × Int) := K.putsL fun i => if i % 2 = 0 then e0 else e1
def JK.room (K : JK) (σ : JS) (n : Nat) : Prop := σ.y < K.n.H ∧ σ.x + n ≤ K.n.W
instance (K : JK) (σ : JS) (n : Nat) : Decidable (K.room σ n) := by unfold JK.room; infer_instance
def JK.run (K : JK) (σ : JS) (n : Nat) (v a : Int) : JS × (Int × Int) :=
 if ¬ K.room σ n then (σ, (2, a)) else
 if K.p.has (aT v K.n.dp 0) = false ∨ K.p.has (aT v K.n.dp (if n = 1 then 0 else 1)) = false then (σ, (2, a + 1)) else
 K.runL (aT v K.n.dp 0) (aT v K.n.dp (if n = 1 then 0 else 1)) n 0 σ
def JK.each (K : JK) : Nat := (8 / K.n.dp).toNat
def JK.plainL (K : JK) : Nat → Nat → JS → JS × (Int × Int)
 | 0, c, σ => (σ, (0, 0))
 | m + 1, c, σ => if (K.next σ 1).2.2 = false then ((K.next σ 1).1, K.ft (K.next σ 1).1.l (K.next σ 1).1.a) else
    if (K.byteL (aG K.x.s σ.a) σ.a (min K.each c) 0 (K.next σ 1).1).2.1 = 0 then K.plainL m (c - K.each) (K.byteL (aG K.x.s σ.a) σ.a (min K.each c) 0 (K.next σ 1).1).1 else K.byteL (aG K.x.s σ.a) σ.a (min K.each c) 0 (K.next σ 1).1
def JK.bytes (K : JK) (n : Nat) : Nat := (n + K.each - 1) / K.each
def JK.plain (K : JK) (σ : JS) (n : Nat) (a : Int) : JS × (Int × Int) :=
 if ¬ K.room σ n then (σ, (2, a)) else
 if (K.plainL (K.bytes n) n σ).2.1 = 0 then
  (if K.bytes n % 2 = 1 then (if (K.next (K.plainL (K.bytes n) n σ).1 1).2.2 = false then ((K.next (K.plainL (K.bytes n) n σ).1 1).1, K.ft (K.next (K.plainL (K.bytes n) n σ).1 1).1.l (K.next (K.plainL (K.bytes n) n σ).1 1).1.a) else ((K.next (K.plainL (K.bytes n) n σ).1 1).1, (0, 0))) else ((K.plainL (K.bytes n) n σ).1, (0, 0)))
 else K.plainL (K.bytes n) n σ
def JK.move (K : JK) (σ : JS) (x y : Nat) (a : Int) : JS × (Int × Int) := (⟨x, y, σ.a, σ.l, σ.d⟩, K.ins ⟨x, y, σ.a, σ.l, σ.d⟩ a)
def JK.leap (K : JK) (σ : JS) (a : Int) : JS × (Int × Int) :=
 if (K.next σ 2).2.2 = false then ((K.next σ 2).1, K.ft (K.next σ 2).1.l (K.next σ 2).1.a) else
 K.move (K.next σ 2).1 (σ.x + (aG K.x.s σ.a).toNat) (σ.y + (aG K.x.s (σ.a + 1)).toNat) a
def JK.cmd (K : JK) (σ : JS) (n v a : Int) : JS × (Int × Int) :=
 if 0 < n then K.run σ n.toNat v a else if v = 0 then K.move σ 0 (σ.y + 1) a else if v = 2 then K.leap σ a else K.plain σ v.toNat a
def JK.read (K : JK) : Nat → JS → JS × (Int × Int)
 | 0, σ => (σ, (0, 0))
 | f + 1, σ => if (K.next σ 2).2.2 = false then ((K.next σ 2).1, K.ft (K.next σ 2).1.l (K.next σ 2).1.a) else
    if aG K.x.s σ.a = 0 ∧ aG K.x.s (σ.a + 1) = 1 then ((K.next σ 2).1, (0, 0)) else
    if (K.cmd (K.next σ 2).1 (aG K.x.s σ.a) (aG K.x.s (σ.a + 1)) σ.a).2.1 = 0 then K.read f (K.cmd (K.next σ 2).1 (aG K.x.s σ.a) (aG K.x.s (σ.a + 1)) σ.a).1 else
    K.cmd (K.next σ 2).1 (aG K.x.s σ.a) (aG K.x.s (σ.a + 1)) σ.a
/-! ### what it costs -/
def LW (l l' : Led) (k : Nat) : Prop := l' = { l with st := l.st + k } ∨ (l' = ({ l with st := l.st + k } : Led).refuse 3 1 ∧ l.st + k = l.mx)
theorem LW.refl (l : Led) : LW l l 0 := Or.inl (by simp)
theorem LW.one {l : Led} (hb : l.br = false) (ho : l.ok) : ((l.work 1).2 = true ∧ LW l (l.work 1).1 1 ∧ (l.work 1).1.br = false) ∨ ((l.work 1).2 = false ∧ LW l (l.work 1).1 0 ∧ (l.work 1).1.br = true) := by
 have h1 := ho.s1
 unfold Led.work
 rw [if_neg (by rw [hb]; decide)]
 by_cases h : (1 : Int) < 0 ∨ l.mx - l.st < 1
 · rw [if_pos h]; exact Or.inr ⟨rfl, Or.inr ⟨by simp, by omega⟩, rfl⟩
 · rw [if_neg h]; exact Or.inl ⟨rfl, Or.inl (by simp), hb⟩
theorem LW.trans {l l1 l2 : Led} {j k : Nat} (h : LW l l1 j) (hb : l1.br = false) (g : LW l1 l2 k) : LW l l2 (j + k) := by
 rcases h with h | ⟨h, h'⟩
 · subst h
   rcases g with g | ⟨g, g'⟩
   · left; rw [g]; simp; omega
   · right
     refine ⟨?_, by show l.st + ((j + k : Nat) : Int) = l.mx; have : l.st + j + k = l.mx := g'; omega⟩
     rw [g]; unfold Led.refuse; simp; omega
 · rw [h] at hb; cases hb
theorem LW.ok {l l' : Led} {k : Nat} (h : LW l l' k) (ho : l.ok) (hk : l.st + k ≤ l.mx) : l'.ok := by
 obtain ⟨a, b, c, d, e, f⟩ := ho
 rcases h with h | ⟨h, h'⟩
 · subst h; exact ⟨a, b, c, by show 0 ≤ l.st + k; omega, hk, f⟩
 · subst h; exact ⟨a, b, c, by show 0 ≤ l.st + k; omega, hk, f⟩
def JK.pot (K : JK) (σ : JS) : Nat := min (σ.y * K.n.W + σ.x) (K.n.H * K.n.W)
structure Cost (K : JK) (σ : JS) (q : JS × (Int × Int)) (c : Nat) : Prop where
 ok : q.1.l.ok
 lw : ∃ k, LW σ.l q.1.l k ∧ k + σ.a + K.pot σ ≤ q.1.a + K.pot q.1 + c
 a0 : σ.a ≤ q.1.a
 a1 : q.1.a ≤ K.x.e
 br : q.1.l.br = true → q.2.1 = 4 ∧ 0 ≤ q.2.2 ∧ q.2.2 ≤ K.x.e
 len : q.1.d.length = σ.d.length
theorem Cost.trans {K : JK} {σ τ : JS} {t : Int × Int} {q : JS × (Int × Int)} {c c' : Nat} (h : Cost K σ (τ, t) c) (hb : τ.l.br = false) (g : Cost K τ q c') : Cost K σ q (c + c') := by
 obtain ⟨k1, l1, b1⟩ := h.lw
 obtain ⟨k2, l2, b2⟩ := g.lw
 have := h.a0
 have := g.a0
 simp only at b1 b2 l1
 exact ⟨g.ok, ⟨k1 + k2, l1.trans hb l2, by omega⟩, by simp only at *; omega, g.a1, g.br, g.len.trans h.len⟩
theorem Cost.mono {K : JK} {σ : JS} {q : JS × (Int × Int)} {c c' : Nat} (h : Cost K σ q c) (hc : c ≤ c') : Cost K σ q c' := by
 obtain ⟨k1, l1, b1⟩ := h.lw
 exact ⟨h.ok, ⟨k1, l1, by omega⟩, h.a0, h.a1, h.br, h.len⟩
theorem Cost.stay {K : JK} {σ : JS} (ho : σ.l.ok) (hb : σ.l.br = false) (ha : σ.a ≤ K.x.e) (t : Int × Int) : Cost K σ (σ, t) 0 :=
 ⟨ho, ⟨0, LW.refl _, by simp only; omega⟩, Nat.le_refl _, ha, (fun h => by rw [hb] at h; cases h), rfl⟩
theorem put_cost {K : JK} {σ : JS} (ho : σ.l.ok) (hb : σ.l.br = false) (ha : σ.a ≤ K.x.e) (hx : σ.x < K.n.W) (hy : σ.y < K.n.H) (c0 c1 c2 c3 : Int) :
 Cost K σ (K.put σ c0 c1 c2 c3) 0 ∧ ((K.put σ c0 c1 c2 c3).2.1 = 0 → (K.put σ c0 c1 c2 c3).2 = (0, 0) ∧ (K.put σ c0 c1 c2 c3).1.l.br = false ∧ (K.put σ c0 c1 c2 c3).1.x = σ.x + 1 ∧ (K.put σ c0 c1 c2 c3).1.y = σ.y ∧ (K.put σ c0 c1 c2 c3).1.a = σ.a ∧ (K.put σ c0 c1 c2 c3).1.d = put4 σ.d (4 * ((K.n.H - 1 - σ.y) * K.n.W + σ.x)) c0 c1 c2 c3) ∧
 ((K.put σ c0 c1 c2 c3).2.1 ≠ 0 → (K.put σ c0 c1 c2 c3).1.l.br = true) := by
 have hok := Led.work_ok ho 1
 have hm : (σ.y + 1) * K.n.W ≤ K.n.H * K.n.W := Nat.mul_le_mul_right _ (by omega)
 rw [Nat.add_mul, Nat.one_mul] at hm
 rcases LW.one hb ho with ⟨h1, h2, h3⟩ | ⟨h1, h2, h3⟩
 · have e : K.put σ c0 c1 c2 c3 = (⟨σ.x + 1, σ.y, σ.a, (σ.l.work 1).1, put4 σ.d (4 * ((K.n.H - 1 - σ.y) * K.n.W + σ.x)) c0 c1 c2 c3⟩, (0, 0)) := by unfold JK.put; rw [if_pos h1]
   rw [e]
   refine ⟨⟨hok, ⟨1, h2, ?_⟩, Nat.le_refl _, ha, fun h => ?_, put4_len _ _ _ _ _ _⟩, fun _ => ⟨rfl, h3, rfl, rfl, rfl, rfl⟩, fun h => absurd rfl h⟩
   · unfold JK.pot; simp only; omega
   · rw [h3] at h; cases h
 · have e : K.put σ c0 c1 c2 c3 = (⟨σ.x, σ.y, σ.a, (σ.l.work 1).1, σ.d⟩, (4, (σ.a : Int))) := by unfold JK.put; rw [if_neg (by rw [h1]; decide)]; unfold JK.ft; rw [if_pos h3]
   rw [e]
   refine ⟨⟨hok, ⟨0, h2, ?_⟩, Nat.le_refl _, ha, fun _ => ⟨rfl, by simp only; omega, by simp only; omega⟩, rfl⟩, fun h => ?_, fun _ => h3⟩
   · unfold JK.pot; simp only; omega
   · cases h
theorem next_cost {K : JK} {σ : JS} (ho : σ.l.ok) (hb : σ.l.br = false) (ha : σ.a ≤ K.x.e) (n : Nat) :
 ((K.next σ n).2.2 = true ∧ (K.next σ n).1 = ⟨σ.x, σ.y, σ.a + n, (K.next σ n).1.l, σ.d⟩ ∧ (K.next σ n).1.l.br = false ∧ σ.a + n ≤ K.x.e ∧ (K.next σ n).1.l.ok ∧ LW σ.l (K.next σ n).1.l 1) ∨
 ((K.next σ n).2.2 = false ∧ Cost K σ ((K.next σ n).1, K.ft (K.next σ n).1.l (K.next σ n).1.a) 1 ∧ ((K.next σ n).1.l.br = false → K.x.e < σ.a + n ∧ K.ft (K.next σ n).1.l (K.next σ n).1.a = (1, (K.x.e : Int)))) := by
 have hok := Led.work_ok ho 1
 rcases LW.one hb ho with ⟨h1, h2, h3⟩ | ⟨h1, h2, h3⟩
 · by_cases hn : n ≤ K.x.e - σ.a
   · have e : K.next σ n = (⟨σ.x, σ.y, σ.a + n, (σ.l.work 1).1, σ.d⟩, (K.x.s.extract σ.a (σ.a + n), true)) := by unfold JK.next; rw [if_pos ⟨h1, hn⟩]
     rw [e]
     exact Or.inl ⟨rfl, rfl, h3, by omega, hok, h2⟩
   · have e : K.next σ n = (⟨σ.x, σ.y, σ.a, (σ.l.work 1).1, σ.d⟩, (ByteArray.empty, false)) := by unfold JK.next; rw [if_neg (fun h => hn h.2)]
     rw [e]
     refine Or.inr ⟨rfl, ⟨hok, ⟨1, h2, by unfold JK.pot; simp only; omega⟩, Nat.le_refl _, ha, fun h => ?_, rfl⟩, fun _ => ⟨by omega, ?_⟩⟩
     · rw [show ((⟨σ.x, σ.y, σ.a, (σ.l.work 1).1, σ.d⟩ : JS).l.br = false) from h3] at h; cases h
     · unfold JK.ft; rw [if_neg (by rw [h3]; decide)]
 · have e : K.next σ n = (⟨σ.x, σ.y, σ.a, (σ.l.work 1).1, σ.d⟩, (ByteArray.empty, false)) := by unfold JK.next; rw [if_neg (fun h => by rw [h1] at h; cases h.1)]
   rw [e]
   have ef : K.ft (σ.l.work 1).1 σ.a = (4, (σ.a : Int)) := by unfold JK.ft; rw [if_pos h3]
   refine Or.inr ⟨rfl, ⟨hok, ⟨0, h2, by unfold JK.pot; simp only; omega⟩, Nat.le_refl _, ha, fun _ => ?_, rfl⟩, fun h => ?_⟩
   · show (K.ft (σ.l.work 1).1 σ.a).1 = 4 ∧ 0 ≤ (K.ft (σ.l.work 1).1 σ.a).2 ∧ (K.ft (σ.l.work 1).1 σ.a).2 ≤ K.x.e
     rw [ef]; exact ⟨rfl, by simp only; omega, by simp only; omega⟩
   · rw [show ((⟨σ.x, σ.y, σ.a, (σ.l.work 1).1, σ.d⟩ : JS).l.br = true) from h3] at h; cases h
theorem jtake2_any (N : Nat) (K : JK) (σ : JS) (w : World) (h : JAt w N K σ) : Calls Tryz.prog 57 #[Y (some ⟨K.n.X, 0, none⟩), J I 2] w fun e w' =>
 e = .returned (.tuple #[.string (K.next σ 2).2.1, .bool (K.next σ 2).2.2]) ∧ JAt w' N K (K.next σ 2).1 ∧ Chg (jS N K) w w' := jtake_any N K σ 2 w h
theorem jskip1_any (N : Nat) (K : JK) (σ : JS) (w : World) (h : JAt w N K σ) : Calls Tryz.prog 128 #[Y (some ⟨K.n.X, 0, none⟩), J I 1] w fun e w' =>
 e = .returned (.bool (K.next σ 1).2.2) ∧ JAt w' N K (K.next σ 1).1 ∧ Chg (jS N K) w w' := jskip_any N K σ 1 w h
theorem jnext_str {w : World} {N : Nat} {K : JK} {σ : JS} (h : JAt w N K σ) (n : Nat) (hk : (K.next σ n).2.2 = true) : (K.next σ n).2.1.size = n ∧ (∀ k, k < n → aG (K.next σ n).2.1 k = aG K.x.s (σ.a + k)) ∧ (K.next σ n).1.x = σ.x ∧ (K.next σ n).1.y = σ.y ∧ (K.next σ n).1.a = σ.a + n ∧ (K.next σ n).1.d = σ.d := by
 have hes : K.x.e ≤ K.x.s.size := h.pr.src.ok.es
 have hpe : σ.a ≤ K.x.e := h.pr.src.ok.pe
 unfold JK.next at hk ⊢
 by_cases hc : (σ.l.work 1).2 = true ∧ n ≤ K.x.e - σ.a
 · rw [if_pos hc]
   have h2 := hc.2
   refine ⟨by show (K.x.s.extract σ.a (σ.a + n)).size = n; rw [ByteArray.size_extract]; omega, fun k hk2 => ?_, rfl, rfl, rfl, rfl⟩
   show aG (K.x.s.extract σ.a (σ.a + n)) k = _
   exact byN_ext K.x.s σ.a (σ.a + n) k (by omega) (by omega)
 · rw [if_neg hc] at hk; cases hk
theorem not_jS {N : Nat} {K : JK} {d b : Nat} (h : JLt N K d) (hb : d ≤ b) : ¬ jS N K b := by
 obtain ⟨l1, l2, l3, l4, l5, l6, l7, l8, l9⟩ := h
 unfold jS; omega
theorem each_is {K : JK} (hd : K.n.dp = 8 ∨ K.n.dp = 4) : (K.n.dp = 8 ∧ K.each = 1) ∨ (K.n.dp = 4 ∧ K.each = 2) := by
 unfold JK.each
 rcases hd with h | h
 · left; rw [h]; exact ⟨rfl, by simp⟩
 · right; rw [h]; exact ⟨rfl, by simp⟩
theorem ft_ne (K : JK) (l : Led) (a : Nat) : (K.ft l a).1 ≠ 0 := by unfold JK.ft; split <;> (intro h; cases h)
theorem put_xy {K : JK} {σ : JS} {c0 c1 c2 c3 : Int} (h : (K.put σ c0 c1 c2 c3).2.1 = 0) : (K.put σ c0 c1 c2 c3).1.x = σ.x + 1 ∧ (K.put σ c0 c1 c2 c3).1.y = σ.y := by
 unfold JK.put at h ⊢
 by_cases hk : (σ.l.work 1).2 = true
 · rw [if_pos hk]; exact ⟨rfl, rfl⟩
 · rw [if_neg hk] at h; exact absurd h (ft_ne _ _ _)
structure QK where
 X : Nat
 B : Nat
 hp : Bool
 P : Nat
 R : Nat
 dp : Nat
 q : Nat → Value
 m : Nat → Int
 f : Int
 x : Sr
 p : Pal
 r : Ras
structure QS where
 now : Nat
 left : Nat
 a : Nat
 l : Led
 d : List Int
def QK.pv (K : QK) : Value := .pointer (if K.hp = true then some ⟨K.P, 0, none⟩ else none)
def QK.ml (K : QK) : List Value := [J I (K.m 0), J I (K.m 1), J I (K.m 2), J I (K.m 3), J I (K.m 4), J I (K.m 5), J I (K.m 6), J I (K.m 7)]
def QK.cells (K : QK) : List Value := [Y (some ⟨K.X, 0, none⟩), Y (some ⟨K.B, 0, none⟩), K.q 0, K.q 1, K.q 2, K.q 3, J I K.dp, K.q 4, K.q 5, K.q 6, K.q 7, K.q 8, K.q 9, K.q 10, K.q 11, K.q 12, K.q 13, K.q 14, K.pv,
 J I (K.m 0), J I (K.m 1), J I (K.m 2), J I (K.m 3), J I (K.m 4), J I (K.m 5), J I (K.m 6), J I (K.m 7), J I K.f]
def QK.sr (K : QK) (σ : QS) : Sr := { K.x with p := σ.a }
def QK.ras (K : QK) (σ : QS) : Ras := { K.r with b := { K.r.b with d := σ.d } }
structure QApart (N : Nat) (K : QK) : Prop where
 rl : K.r.L = K.x.L
 n1 : N ≠ K.X
 n2 : N ≠ K.x.L
 n3 : N ≠ K.B
 n4 : N ≠ K.r.b.g
 b1 : K.B ≠ K.X
 b2 : K.B ≠ K.x.L
 b3 : K.B ≠ K.r.b.g
 x1 : K.X ≠ K.r.b.g
 r1 : K.R ≠ K.X
 r2 : K.R ≠ K.B
 s1 : K.r.B ≠ K.X
 s2 : K.r.B ≠ K.B
 p0 : K.hp = true → K.P ≠ K.X ∧ K.P ≠ K.x.L ∧ K.P ≠ K.B ∧ K.P ≠ K.r.b.g
 p1 : K.hp = true → K.p.B ≠ K.X ∧ K.p.B ≠ K.x.L ∧ K.p.B ≠ K.B ∧ K.p.B ≠ K.r.b.g
 p2 : K.hp = true → K.p.b.g ≠ K.X ∧ K.p.b.g ≠ K.x.L ∧ K.p.b.g ≠ K.B ∧ K.p.b.g ≠ K.r.b.g
structure QAt (w : World) (N : Nat) (K : QK) (σ : QS) : Prop where
 rw_ : Obj1 w N K.cells.toArray 213
 bt : BtAt w K.B K.X σ.now σ.left
 pr : Pair w K.X (K.sr σ) σ.l
 pal : K.hp = true → PalAt w K.P K.p
 ras : RasAt w K.R (K.ras σ)
 ap : QApart N K
 op : K.r.op = true
 n8 : σ.now < 256
 l8 : σ.left ≤ 8
def qS (K : QK) (k : Nat) : Prop := k = K.B ∨ k = K.X ∨ k = K.x.L ∨ k = K.r.b.g
theorem QAt.rgl {w : World} {N : Nat} {K : QK} {σ : QS} (h : QAt w N K σ) : K.r.b.g ≠ K.x.L ∧ K.r.B ≠ K.x.L ∧ K.R ≠ K.x.L ∧ K.R ≠ K.r.b.g ∧ K.r.B ≠ K.r.b.g := by
 have e : (K.ras σ).b.L = K.x.L := h.ras.bl.trans h.ap.rl
 refine ⟨?_, ?_, ?_, h.ras.ng, ?_⟩
 · have := h.ras.buf.gl; rw [e] at this; exact this
 · have := h.ras.buf.nl; rw [e] at this; exact this
 · have := h.ras.nl; rw [show (K.ras σ).L = K.x.L from h.ap.rl] at this; exact this
 · exact h.ras.buf.ne
theorem QAt.keep {w w' : World} {N : Nat} {K : QK} {σ : QS} (h : QAt w N K σ) (hc : Chg (fun _ => False) w w') : QAt w' N K σ :=
 ⟨hc.obj h.rw_ (fun h => h), hc.obj h.bt (fun h => h), ⟨h.pr.src.chg hc (fun h => h), h.pr.led.chg hc (fun h => h)⟩, fun hp => (h.pal hp).chg hc (fun h => h) (fun h => h) (fun h => h), h.ras.chg hc (fun h => h) (fun h => h) (fun h => h), h.ap, h.op, h.n8, h.l8⟩
structure QLt (N : Nat) (K : QK) (b : Nat) : Prop where
 n : N < b
 x : K.X < b
 l : K.x.L < b
 bb : K.B < b
 p : K.hp = true → K.P < b ∧ K.p.B < b ∧ K.p.b.g < b
 r : K.R < b
 rb : K.r.B < b
 rg : K.r.b.g < b
theorem QAt.jlt {w : World} {N : Nat} {K : QK} {σ : QS} (h : QAt w N K σ) : QLt N K w.heap.size :=
 ⟨h.rw_.lt, h.pr.src.lt, h.pr.led.lt, h.bt.lt, fun hp => ⟨(h.pal hp).lt, (h.pal hp).buf.lt, (h.pal hp).buf.glt (h.pal hp).opn⟩, h.ras.lt, h.ras.buf.lt, h.ras.buf.glt (h.ras.opn.trans h.op)⟩
theorem QAt.far {w w' : World} {N : Nat} {K : QK} {σ : QS} {S : Nat → Prop} {b : Nat} (h : QAt w N K σ) (hl : QLt N K b) (hc : Chg S w w') (hS : ∀ k, S k → b ≤ k) : QAt w' N K σ := by
 have no : ∀ k, k < b → ¬ S k := fun k hk hs => by have := hS k hs; omega
 exact ⟨hc.obj h.rw_ (no _ hl.n), hc.obj h.bt (no _ hl.bb), ⟨h.pr.src.chg hc (no _ hl.x), h.pr.led.chg hc (no _ hl.l)⟩, fun hp => (h.pal hp).chg hc (no _ (hl.p hp).1) (no _ (hl.p hp).2.1) (no _ (hl.p hp).2.2), h.ras.chg hc (no _ hl.r) (no _ hl.rb) (no _ hl.rg), h.ap, h.op, h.n8, h.l8⟩
theorem QAt.stored {w w' : World} {N : Nat} {K : QK} {σ : QS} {b o c : Nat} {vs : List Value} (h : QAt w N K σ) (hl : QLt N K c) (hst : Stored w b o vs w') (hb : c ≤ b) : QAt w' N K σ :=
 h.far hl (Stored.chgS (S := fun k => k = b) hst (Chg.refl _ _) (Or.inl rfl)) (fun k hk => by rw [hk]; exact hb)
theorem QAt.below {w w' : World} {N : Nat} {K : QK} {σ : QS} (h : QAt w N K σ) (hb : Below w.heap.size w w') : QAt w' N K σ := h.keep (aB hb _)
theorem QAt.drewN {w : World} {N : Nat} {K : QK} {σ : QS} (h : QAt w N K σ) (n : Nat) : QAt (w.drewN n) N K σ := h.keep ((Chg.refl _ _).drewN n)
theorem QAt.drew {w : World} {N : Nat} {K : QK} {σ : QS} (h : QAt w N K σ) : QAt w.drew N K σ := h.keep (Chg.refl _ _).drew
theorem QAt.alloc {w : World} {N : Nat} {K : QK} {σ : QS} (h : QAt w N K σ) (o : Obj) : QAt (w.alloc o) N K σ := h.keep ((Chg.refl _ _).alloc o)
theorem QAt.cell {w : World} {N : Nat} {K : QK} {σ : QS} (h : QAt w N K σ) (i : Nat) (v : Value) (hv : K.cells[i]? = some v) : w.cell? ⟨N, i, none⟩ = some v := (Obj1.cell h.rw_ i).trans (by simpa using hv)
theorem not_qS {N : Nat} {K : QK} {d b : Nat} (h : QLt N K d) (hb : d ≤ b) : ¬ qS K b := by
 obtain ⟨l1, l2, l3, l4, -, l6, l7, l8⟩ := h
 unfold qS; omega
theorem QAt.nN {w : World} {N : Nat} {K : QK} {σ : QS} (h : QAt w N K σ) : ¬ qS K N := by
 have ha := h.ap
 intro hh
 rcases hh with hh | hh | hh | hh
 · exact ha.n3 hh
 · exact ha.n1 hh
 · exact ha.n2 hh
 · exact ha.n4 hh
theorem QAt.srcled {w w' : World} {N : Nat} {K : QK} {σ : QS} (h : QAt w N K σ) {a : Nat} {l : Led} (hp : Pair w' K.X { K.x with p := a } l) (hC : Chg (two K.X (K.sr σ)) w w') : QAt w' N K ⟨σ.now, σ.left, a, l, σ.d⟩ ∧ Chg (qS K) w w' := by
 have ha := h.ap
 obtain ⟨g1, g2, g3, g4, g5⟩ := h.rgl
 have no : ∀ k, k ≠ K.X → k ≠ K.x.L → ¬ two K.X (K.sr σ) k := fun k ha hb hh => by rcases hh with hh | hh; exact ha hh; exact hb hh
 refine ⟨⟨hC.obj h.rw_ (no _ ha.n1 ha.n2), hC.obj h.bt (no _ ha.b1 ha.b2), hp, fun e => (h.pal e).chg hC (no _ (ha.p0 e).1 (ha.p0 e).2.1) (no _ (ha.p1 e).1 (ha.p1 e).2.1) (no _ (ha.p2 e).1 (ha.p2 e).2.1), h.ras.chg hC (no _ ha.r1 g3) (no _ ha.s1 g2) (no _ (fun e => ha.x1 e.symm) g1), ha, h.op, h.n8, h.l8⟩, hC.mono fun k _ hk => ?_⟩
 rcases hk with hk | hk
 · exact Or.inr (Or.inl hk)
 · exact Or.inr (Or.inr (Or.inl hk))
theorem QAt.bitsAt {w w' : World} {N : Nat} {K : QK} {σ : QS} (h : QAt w N K σ) {now left a : Nat} {l : Led} (hb : BtAt w' K.B K.X now left) (hp : Pair w' K.X { K.x with p := a } l) (hC : Chg (btS K.B K.X (K.sr σ)) w w') (h1 : now < 256) (h2 : left ≤ 8) : QAt w' N K ⟨now, left, a, l, σ.d⟩ ∧ Chg (qS K) w w' := by
 have ha := h.ap
 obtain ⟨g1, g2, g3, g4, g5⟩ := h.rgl
 have no : ∀ k, k ≠ K.B → k ≠ K.X → k ≠ K.x.L → ¬ btS K.B K.X (K.sr σ) k := fun k hb hx hl hh => by rcases hh with hh | hh | hh; exact hb hh; exact hx hh; exact hl hh
 refine ⟨⟨hC.obj h.rw_ (no _ ha.n3 ha.n1 ha.n2), hb, hp, fun e => (h.pal e).chg hC (no _ (ha.p0 e).2.2.1 (ha.p0 e).1 (ha.p0 e).2.1) (no _ (ha.p1 e).2.2.1 (ha.p1 e).1 (ha.p1 e).2.1) (no _ (ha.p2 e).2.2.1 (ha.p2 e).1 (ha.p2 e).2.1), h.ras.chg hC (no _ ha.r2 ha.r1 g3) (no _ ha.s2 ha.s1 g2) (no _ (fun e => ha.b3 e.symm) (fun e => ha.x1 e.symm) g1), ha, h.op, h1, h2⟩, hC.mono fun k _ hk => ?_⟩
 rcases hk with hk | hk | hk
 · exact Or.inl hk
 · exact Or.inr (Or.inl hk)
 · exact Or.inr (Or.inr (Or.inl hk))
def QK.ft (K : QK) (l : Led) (a : Nat) : Int × Int := if l.br = true then (4, a) else (1, K.x.e)
theorem qft_fault (K : QK) (σ : QS) (l : Led) (f : Int) : Value.agg (aK (K.sr σ) l f).toArray = ftv f (K.ft l σ.a) := by
 unfold aK QK.ft ftv fc
 by_cases h : l.br = true
 · rw [if_pos h, if_pos h]; rfl
 · rw [if_neg h, if_neg h]; rfl
def QK.next (K : QK) (σ : QS) (n : Nat) : QS × (ByteArray × Bool) :=
 if (σ.l.work 1).2 = true ∧ n ≤ K.x.e - σ.a then (⟨σ.now, σ.left, σ.a + n, (σ.l.work 1).1, σ.d⟩, (K.x.s.extract σ.a (σ.a + n), true)) else (⟨σ.now, σ.left, σ.a, (σ.l.work 1).1, σ.d⟩, (ByteArray.empty, false))
theorem qnext_eq {w : World} {N : Nat} {K : QK} {σ : QS} (h : QAt w N K σ) (n : Nat) : (K.sr σ).next σ.l n = (({ K.x with p := (K.next σ n).1.a }, (K.next σ n).1.l), (K.next σ n).2) ∧ (K.next σ n).1 = ⟨σ.now, σ.left, (K.next σ n).1.a, (K.next σ n).1.l, σ.d⟩ := by
 have h1 : σ.a ≤ K.x.e := h.pr.src.ok.pe
 unfold Sr.next QK.next
 by_cases hc : (σ.l.work 1).2 = true ∧ n ≤ K.x.e - σ.a
 · rw [if_pos hc, if_pos ⟨hc.1, by omega, by show (n : Int) ≤ (K.x.e : Int) - σ.a; have := hc.2; omega⟩]
   exact ⟨rfl, rfl⟩
 · rw [if_neg hc, if_neg (fun hh => hc ⟨hh.1, by have h2 : (n : Int) ≤ (K.x.e : Int) - σ.a := hh.2.2; omega⟩)]
   exact ⟨rfl, rfl⟩
theorem qnext_at {w w' : World} {N : Nat} {K : QK} {σ : QS} (h : QAt w N K σ) (n : Nat) (hp : Pair w' K.X { K.x with p := (K.next σ n).1.a } (K.next σ n).1.l) (hC : Chg (two K.X (K.sr σ)) w w') : QAt w' N K (K.next σ n).1 ∧ Chg (qS K) w w' := by
 have := h.srcled hp hC
 rw [← (qnext_eq h n).2] at this
 exact this
theorem qtake_any (N : Nat) (K : QK) (σ : QS) (n : Nat) (w : World) (h : QAt w N K σ) : Calls Tryz.prog 57 #[Y (some ⟨K.X, 0, none⟩), J I n] w fun e w' =>
 e = .returned (.tuple #[.string (K.next σ n).2.1, .bool (K.next σ n).2.2]) ∧ QAt w' N K (K.next σ n).1 ∧ Chg (qS K) w w' := by
 refine (take_any K.X (K.sr σ) σ.l n w h.pr).mono ?_
 rintro e w' ⟨he, hp, hc⟩
 rw [(qnext_eq h n).1] at he hp
 exact ⟨he, qnext_at h n hp hc⟩
theorem qskip_any (N : Nat) (K : QK) (σ : QS) (n : Nat) (w : World) (h : QAt w N K σ) : Calls Tryz.prog 128 #[Y (some ⟨K.X, 0, none⟩), J I n] w fun e w' =>
 e = .returned (.bool (K.next σ n).2.2) ∧ QAt w' N K (K.next σ n).1 ∧ Chg (qS K) w w' := by
 refine (skip_any K.X (K.sr σ) σ.l n w h.pr).mono ?_
 rintro e w' ⟨he, hp, hc⟩
 rw [(qnext_eq h n).1] at he hp
 exact ⟨he, qnext_at h n hp hc⟩
theorem qle16_any (N : Nat) (K : QK) (σ : QS) (w : World) (h : QAt w N K σ) : Calls Tryz.prog 197 #[Y (some ⟨K.X, 0, none⟩)] w fun e w' =>
 e = .returned (.tuple #[J I (numB (K.next σ 2).2.1 true), .bool (K.next σ 2).2.2]) ∧ QAt w' N K (K.next σ 2).1 ∧ Chg (qS K) w w' := by
 refine (le16_any K.X (K.sr σ) σ.l w h.pr).mono ?_
 rintro e w' ⟨he, hp, hc⟩
 have hq : (K.sr σ).next σ.l 2 = (({ K.x with p := (K.next σ 2).1.a }, (K.next σ 2).1.l), (K.next σ 2).2) := (qnext_eq h 2).1
 rw [hq] at he hp
 exact ⟨he, qnext_at h 2 hp hc⟩
theorem qle32_any (N : Nat) (K : QK) (σ : QS) (w : World) (h : QAt w N K σ) : Calls Tryz.prog 198 #[Y (some ⟨K.X, 0, none⟩)] w fun e w' =>
 e = .returned (.tuple #[J I (numB (K.next σ 4).2.1 true), .bool (K.next σ 4).2.2]) ∧ QAt w' N K (K.next σ 4).1 ∧ Chg (qS K) w w' := by
 refine (le32_any K.X (K.sr σ) σ.l w h.pr).mono ?_
 rintro e w' ⟨he, hp, hc⟩
 have hq : (K.sr σ).next σ.l 4 = (({ K.x with p := (K.next σ 4).1.a }, (K.next σ 4).1.l), (K.next σ 4).2) := (qnext_eq h 4).1
 rw [hq] at he hp
 exact ⟨he, qnext_at h 4 hp hc⟩
theorem qfault_any (N : Nat) (K : QK) (σ : QS) (w : World) (h : QAt w N K σ) : Calls Tryz.prog 37 #[Y (some ⟨K.X, 0, none⟩), J I K.f] w fun e w' => e = .returned (ftv K.f (K.ft σ.l σ.a)) ∧ Below w.heap.size w w' := by
 refine (fault8_any K.X (K.sr σ) σ.l K.f w h.pr).mono ?_
 rintro e w' ⟨he, hb⟩
 exact ⟨by rw [he, qft_fault K σ σ.l K.f], hb⟩
theorem qat_any (N : Nat) (K : QK) (σ : QS) (w : World) (h : QAt w N K σ) : Calls Tryz.prog 23 #[Y (some ⟨K.X, 0, none⟩)] w fun e w' => e = .returned (J I σ.a) ∧ w = w' :=
 at_any K.X (K.sr σ) w h.pr.src
theorem qof_any (N : Nat) (K : QK) (σ : QS) (e : Int) (w : World) (h : QAt w N K σ) (hp : K.hp = true) : Calls Tryz.prog 200 #[Y (some ⟨K.P, 0, none⟩), J I e] w fun e' w' =>
 e' = .returned (.tuple #[if K.p.has e = true then colS4 (K.p.ent e.toNat) else colZ4, .bool (K.p.has e)]) ∧ Chg (fun _ => False) w w' := pof_any K.P K.p e w (h.pal hp)
theorem qalign_any (N : Nat) (K : QK) (σ : QS) (w : World) (h : QAt w N K σ) : Calls Tryz.prog 134 #[Y (some ⟨K.B, 0, none⟩)] w fun e w' =>
 e = .returned (J I σ.left) ∧ QAt w' N K ⟨σ.now, 0, σ.a, σ.l, σ.d⟩ ∧ Chg (qS K) w w' := by
 have c2 : w.cell? ⟨K.B, 2, none⟩ = some (J I σ.left) := (h.bt.cell 2).trans rfl
 have f2 := h.bt.frozen 2
 have hc := (Chg.refl (btS K.B K.X (K.sr σ)) w).set ⟨K.B, 2, none⟩ (J I 0) (Or.inl (Or.inl rfl))
 have FIN := Hi (h.bitsAt (now := σ.now) (left := 0) (a := σ.a) (l := σ.l) (h.bt.set 2 (J I 0)) (h.pr.put (K := K.B) (i := 2) (J I 0) h.ap.b1 h.ap.b2) hc h.n8 (by decide))
 obtain ⟨z, hz⟩ : ∃ z, σ.left = z := ⟨_, rfl⟩
 rw [hz] at c2 ⊢
 clear h hz hc
 go_enter Tryz.func134, Tryz.ntmps134
 go_wp2
 go_ret
 exact ⟨rfl, FIN.out.1, FIN.out.2⟩
def QK.bits (K : QK) (σ : QS) : QS × Option Nat :=
 if σ.left = 0 then
  (if (K.next σ 1).2.2 = true then (⟨(aG K.x.s σ.a).toNat, 8 - K.dp, (K.next σ 1).1.a, (K.next σ 1).1.l, σ.d⟩, some (valB (aG K.x.s σ.a).toNat 8 K.dp)) else ((K.next σ 1).1, none))
 else (⟨σ.now, σ.left - K.dp, σ.a, σ.l, σ.d⟩, some (valB σ.now σ.left K.dp))
def natOr (o : Option Nat) : Int := match o with | some v => v | none => 0
theorem qbits_any (N : Nat) (K : QK) (σ : QS) (w : World) (h : QAt w N K σ) (h1 : 1 ≤ K.dp) (h2 : K.dp ≤ 8) (h3 : σ.left = 0 ∨ K.dp ≤ σ.left) : Calls Tryz.prog 141 #[Y (some ⟨K.B, 0, none⟩), J I K.dp] w fun e w' =>
 e = .returned (.tuple #[J I (natOr (K.bits σ).2), .bool (K.bits σ).2.isSome]) ∧ QAt w' N K (K.bits σ).1 ∧ Chg (qS K) w w' := by
 have hq := (qnext_eq h 1).1
 have hq1 : (K.sr σ).next σ.l 1 = (({ K.x with p := (K.next σ 1).1.a }, (K.next σ 1).1.l), (K.next σ 1).2) := hq
 have hq2 := (qnext_eq h 1).2
 by_cases hz : σ.left = 0
 · have hbt : BtAt w K.B K.X σ.now 0 := by have := h.bt; rw [hz] at this; exact this
   cases hk : (K.next σ 1).2.2 with
   | false =>
     have e1 : K.bits σ = ((K.next σ 1).1, none) := by unfold QK.bits; rw [if_pos hz, if_neg (by rw [hk]; decide)]
     rw [e1]
     refine (bread_no K.B K.X (K.sr σ) σ.l σ.now K.dp w hbt h.pr h.ap.b1 h.ap.b2 h1 h2 (by rw [hq1]; exact hk)).mono ?_
     rintro e w' ⟨he, hb, hp, hc⟩
     rw [hq1] at hp
     have := h.bitsAt (now := σ.now) (left := 0) hb hp hc h.n8 (by decide)
     refine ⟨he, ?_, this.2⟩
     have e2 : (K.next σ 1).1 = ⟨σ.now, 0, (K.next σ 1).1.a, (K.next σ 1).1.l, σ.d⟩ := by rw [← hz]; exact hq2
     show QAt w' N K (K.next σ 1).1
     rw [e2]
     exact this.1
   | true =>
     have hby := aS K.x.s σ.a
     have hB : (((aG K.x.s σ.a).toNat : Nat) : Int) = aG K.x.s σ.a := Int.toNat_of_nonneg hby.1
     have e1 : K.bits σ = (⟨(aG K.x.s σ.a).toNat, 8 - K.dp, (K.next σ 1).1.a, (K.next σ 1).1.l, σ.d⟩, some (valB (aG K.x.s σ.a).toNat 8 K.dp)) := by unfold QK.bits; rw [if_pos hz, if_pos hk]
     rw [e1]
     have hu : ∀ w0, Pair w0 K.X (K.sr σ) σ.l → Calls Tryz.prog 179 #[Y (some ⟨K.X, 0, none⟩)] w0 fun e w' => e = .returned (.tuple #[J I ((aG K.x.s σ.a).toNat : Nat), .bool true]) ∧ Pair w' K.X { K.x with p := (K.next σ 1).1.a } (K.next σ 1).1.l ∧ Chg (two K.X (K.sr σ)) w0 w' := by
      intro w0 h0
      refine (u8_any K.X (K.sr σ) σ.l w0 h0).mono ?_
      rintro e w' ⟨he, hp, hc⟩
      rw [hq1] at he hp
      refine ⟨?_, hp, hc⟩
      rw [he]
      have hv : numB (K.next σ 1).2.1 true = aG K.x.s σ.a := by
       have hin : (σ.l.work 1).2 = true ∧ 1 ≤ K.x.e - σ.a := by
        by_cases hc : (σ.l.work 1).2 = true ∧ 1 ≤ K.x.e - σ.a
        · exact hc
        · unfold QK.next at hk; rw [if_neg hc] at hk; cases hk
       unfold QK.next
       rw [if_pos hin]
       have hes : K.x.e ≤ K.x.s.size := h.pr.src.ok.es
       exact num_one K.x.s σ.a (by have := hin.2; omega)
      show Ending.returned (.tuple #[J I (numB (K.next σ 1).2.1 true), .bool (K.next σ 1).2.2]) = _
      rw [hv, hk, hB]
     refine (bread_yes K.B K.X (K.sr σ) { K.x with p := (K.next σ 1).1.a } σ.l (K.next σ 1).1.l σ.now 0 (aG K.x.s σ.a).toNat 8 K.dp w hbt h.pr h.ap.b1 h.ap.b2 rfl (by omega) (Nat.le_refl _) h2 (Or.inl ⟨rfl, rfl, hu⟩) h1).mono ?_
     rintro e w' ⟨he, hb, hp, hc⟩
     have := h.bitsAt hb hp hc (by omega) (by omega)
     exact ⟨he, this.1, this.2⟩
 · have e1 : K.bits σ = (⟨σ.now, σ.left - K.dp, σ.a, σ.l, σ.d⟩, some (valB σ.now σ.left K.dp)) := by unfold QK.bits; rw [if_neg hz]
   rw [e1]
   refine (bread_yes K.B K.X (K.sr σ) (K.sr σ) σ.l σ.l σ.now σ.left σ.now σ.left K.dp w h.bt h.pr h.ap.b1 h.ap.b2 rfl h.n8 h.l8 (by omega) (Or.inr ⟨by omega, rfl, rfl, rfl, rfl⟩) h1).mono ?_
   rintro e w' ⟨he, hb, hp, hc⟩
   have hl8 := h.l8
   have := h.bitsAt hb hp hc h.n8 (by omega)
   exact ⟨he, this.1, this.2⟩
def QK.put (K : QK) (σ : QS) (x y : Nat) (c0 c1 c2 c3 : Int) : QS × Bool :=
 if (σ.l.work 1).2 = true then (⟨σ.now, σ.left, σ.a, (σ.l.work 1).1, put4 σ.d (4 * (y * K.r.w + x)) c0 c1 c2 c3⟩, true) else (⟨σ.now, σ.left, σ.a, (σ.l.work 1).1, σ.d⟩, false)
theorem qput_any (N : Nat) (K : QK) (σ : QS) (x y : Nat) (c0 c1 c2 c3 : Int) (w : World) (h : QAt w N K σ) (hx : x < K.r.w) (hy : y < K.r.h)
 (h0 : 0 ≤ c0 ∧ c0 < 256) (h1 : 0 ≤ c1 ∧ c1 < 256) (h2 : 0 ≤ c2 ∧ c2 < 256) (h3 : 0 ≤ c3 ∧ c3 < 256) : Calls Tryz.prog 133 #[Y (some ⟨K.R, 0, none⟩), J I x, J I y, .agg #[J U c0, J U c1, J U c2, J U c3]] w fun e w' =>
 e = .returned (.bool (K.put σ x y c0 c1 c2 c3).2) ∧ QAt w' N K (K.put σ x y c0 c1 c2 c3).1 ∧ Chg (qS K) w w' := by
 have ha := h.ap
 obtain ⟨g1, g2, g3, g4, g5⟩ := h.rgl
 have hro : (K.ras σ).op = true := h.op
 have hin : (K.ras σ).inB x y = true := by
  unfold Ras.inB; rw [hro, Bool.true_and, decide_eq_true_iff]
  show 0 ≤ (x : Int) ∧ (x : Int) < K.r.w ∧ 0 ≤ (y : Int) ∧ (y : Int) < K.r.h
  omega
 refine (rset_any K.R (K.ras σ) σ.l x y c0 c1 c2 c3 w h.ras (by rw [show (K.ras σ).L = K.x.L from ha.rl]; exact h.pr.led) h0 h1 h2 h3).mono ?_
 rintro e w' ⟨he, hra, hle, hC⟩
 have hC0 : Chg (fun k => k = K.x.L ∨ k = K.r.b.g) w w' := hC.mono fun k _ hk => by
  rcases hk with hk | hk
  · exact Or.inl (by rw [hk]; exact ha.rl)
  · exact Or.inr hk
 have no : ∀ k, k ≠ K.x.L → k ≠ K.r.b.g → ¬ (k = K.x.L ∨ k = K.r.b.g) := fun k ha hb hh => by rcases hh with hh | hh; exact ha hh; exact hb hh
 have hC2 : Chg (qS K) w w' := hC0.mono fun k _ hk => by
  rcases hk with hk | hk
  · exact Or.inr (Or.inr (Or.inl hk))
  · exact Or.inr (Or.inr (Or.inr hk))
 rw [show (K.ras σ).L = K.x.L from ha.rl] at hle
 have hrest : ∀ l d, LedAt w' K.x.L l → RasAt w' K.R { K.r with b := { K.r.b with d := d } } → QAt w' N K ⟨σ.now, σ.left, σ.a, l, d⟩ := fun l d hl hr =>
  ⟨hC0.obj h.rw_ (no _ ha.n2 ha.n4), hC0.obj h.bt (no _ ha.b2 ha.b3), ⟨h.pr.src.chg hC0 (no _ h.pr.src.ne ha.x1), hl⟩, fun e => (h.pal e).chg hC0 (no _ (ha.p0 e).2.1 (ha.p0 e).2.2.2) (no _ (ha.p1 e).2.1 (ha.p1 e).2.2.2) (no _ (ha.p2 e).2.1 (ha.p2 e).2.2.2), hr, ha, h.op, h.n8, h.l8⟩
 cases hk : (σ.l.work 1).2 with
 | true =>
   have hset : (K.ras σ).set σ.l x y c0 c1 c2 c3 = ((K.ras (K.put σ x y c0 c1 c2 c3).1, (σ.l.work 1).1), true) := by
    unfold Ras.set
    rw [hin, if_neg (by decide), if_neg (by rw [hk]; decide)]
    unfold QK.put
    rw [if_pos hk]
    rfl
   have e1 : K.put σ x y c0 c1 c2 c3 = (⟨σ.now, σ.left, σ.a, (σ.l.work 1).1, put4 σ.d (4 * (y * K.r.w + x)) c0 c1 c2 c3⟩, true) := by unfold QK.put; rw [if_pos hk]
   rw [hset] at he hra hle
   rw [e1] at hra ⊢
   exact ⟨he, hrest _ _ hle hra, hC2⟩
 | false =>
   have hset : (K.ras σ).set σ.l x y c0 c1 c2 c3 = ((K.ras σ, (σ.l.work 1).1), false) := by
    unfold Ras.set
    rw [hin, if_neg (by decide), if_pos hk]
   have e1 : K.put σ x y c0 c1 c2 c3 = (⟨σ.now, σ.left, σ.a, (σ.l.work 1).1, σ.d⟩, false) := by unfold QK.put; rw [if_neg (by rw [hk]; decide)]
   rw [hset] at he hra hle
   rw [e1]
   exact ⟨he, hrest _ _ hle hra, hC2⟩
abbrev C4 := Int × Int × Int × Int
def c4v (c : C4) : List Value := [J U c.1, J U c.2.1, J U c.2.2.1, J U c.2.2.2]
theorem c4v_len (c : C4) : (c4v c).length = 4 := rfl
theorem c4v_one (c : C4) : (c4v c).all (·.oneCell') = true := rfl
def c4z : C4 := (0, 0, 0, 0)
def c4e (s : ByteArray) : C4 := (aG s 0, aG s 1, aG s 2, aG s 3)
def pxv (f : Int) (r : C4 × (Int × Int)) : Value := .tuple #[.agg (c4v r.1).toArray, .agg (fc f r.2).toArray]
def QK.nmB (K : QK) (τ : QS) : Option Nat → QS × (C4 × (Int × Int))
 | none => (τ, (c4z, K.ft τ.l τ.a))
 | some v => if K.p.has v = true then (τ, (c4e (K.p.ent v), (0, 0))) else (τ, (c4z, (2, (τ.a : Int) - 1)))
def QK.num (K : QK) (σ : QS) : QS × (C4 × (Int × Int)) := K.nmB (K.bits σ).1 (K.bits σ).2
theorem qnext_a {w : World} {N : Nat} {K : QK} {σ : QS} (h : QAt w N K σ) (n : Nat) : (K.next σ n).1.a ≤ K.x.e := by
 have h1 : σ.a ≤ K.x.e := h.pr.src.ok.pe
 unfold QK.next
 by_cases hc : (σ.l.work 1).2 = true ∧ n ≤ K.x.e - σ.a
 · rw [if_pos hc]; have := hc.2; show σ.a + n ≤ K.x.e; omega
 · rw [if_neg hc]; exact h1
theorem qbits_a {w : World} {N : Nat} {K : QK} {σ : QS} (h : QAt w N K σ) : (K.bits σ).1.a ≤ K.x.e := by
 unfold QK.bits
 split
 · split
   · exact qnext_a h 1
   · exact qnext_a h 1
 · exact h.pr.src.ok.pe
theorem qnum_any (N : Nat) (K : QK) (σ : QS) (w : World) (h : QAt w N K σ) (h1 : 1 ≤ K.dp) (h2 : K.dp ≤ 8) (h3 : σ.left = 0 ∨ K.dp ≤ σ.left) (hp : K.hp = true) : Calls Tryz.prog 175 #[Y (some ⟨N, 0, none⟩)] w fun e w' =>
 e = .returned (pxv K.f (K.num σ).2) ∧ QAt w' N K (K.num σ).1 ∧ Chg (qS K) w w' := by
 have hC := ((Chg.refl (fun _ => False) w).alloc (.cells #[J U 0, J U 0, J U 0, J U 0] 104)).alloc (.cells #[J I 0, J I 0, J I 0] 31)
 have OC := Hi ((aA w #[J U 0, J U 0, J U 0, J U 0] 104).alloc (.cells #[J I 0, J I 0, J I 0] 31))
 have OF := Hi (aA (w.alloc (.cells #[J U 0, J U 0, J U 0, J U 0] 104)) #[J I 0, J I 0, J I 0] 31)
 obtain ⟨d, hd⟩ : ∃ d, w.heap.size = d := ⟨_, rfl⟩
 have HDe := Hi hd
 rw [show (w.alloc (.cells #[J U 0, J U 0, J U 0, J U 0] 104)).heap.size = d + 1 by rw [← hd]; simp] at OF
 rw [hd] at OC
 have JA := Hi (h.keep hC)
 have CH := Hi (hC.mono (S' := qS K) (fun _ _ h => h.elim))
 have JL := Hi h.jlt
 rw [hd] at JL
 have HBR := Hi (fun w0 (h0 : QAt w0 N K σ) => qbits_any N K σ w0 h0 h1 h2 h3)
 have HFA := Hi (fun w0 (τ : QS) (h0 : QAt w0 N K τ) => qfault_any N K τ w0 h0)
 have HAT := Hi (fun w0 (τ : QS) (h0 : QAt w0 N K τ) => qat_any N K τ w0 h0)
 have HOF := Hi (fun w0 (τ : QS) (e : Int) (h0 : QAt w0 N K τ) => qof_any N K τ e w0 h0 hp)
 have HPV := Hi (show K.pv = Y (some ⟨K.P, 0, none⟩) by unfold QK.pv; rw [hp]; rfl)
 have HA9 := Hi (show ((K.bits σ).1.a : Int) ≤ 9223372036854775807 by have h4 := (qbits_a h); have h5 := h.pr.src.ok.es; have h6 := h.pr.src.ok.sz; have h7 : (K.sr σ).e = K.x.e := rfl; have h8 : (K.sr σ).s = K.x.s := rfl; rw [h7, h8] at h5; rw [h8] at h6; omega)
 have HB0 := Hi (show ∀ τ : QS, 0 ≤ (τ.a : Int) from fun τ => by omega)
 obtain ⟨τ, hτ⟩ : ∃ τ, (K.bits σ).1 = τ := ⟨_, rfl⟩
 obtain ⟨b, hb⟩ : ∃ b, (K.bits σ).2 = b := ⟨_, rfl⟩
 have HR := Hi (show K.num σ = K.nmB τ b by unfold QK.num; rw [hτ, hb])
 rw [hτ, hb] at HBR
 rw [hτ] at HA9
 clear h h1 h2 h3 hp hC hτ hb
 cases b with
 | none =>
   have HBR := Hi (fun w0 h0 => (HBR.out w0 h0).mono (R' := fun e w' => e = .returned (.tuple #[J I 0, .bool false]) ∧ QAt w' N K τ ∧ Chg (qS K) w0 w') fun e w' hh => hh)
   go_enter Tryz.func175, Tryz.ntmps175
   go_upto_region 1 with (fail)
   clear hd
   generalize World.alloc _ _ = wr at OC OF JA CH ⊢
   refine wp_region_noPanic ?_
   refine wp_region_held_drew (S := fun w' => Chg (qS K) wr w') (by kernel_rfl) (Chg.refl _ _).drew (fun hHeld => ?_)
   refine za 0 (Y (some ⟨N, 0, none⟩)) rfl hHeld ?_
   refine za 1 (Y (some ⟨N, 0, none⟩)) rfl hHeld ?_
   refine za 2 (Y (some ⟨N, 1, none⟩)) rfl hHeld ?_
   refine zt 3 (Y (some ⟨K.B, 0, none⟩)) rfl hHeld ?_ (hy := fun w hS => by (have hc : w.cell? ⟨N, 1, none⟩ = some (Y (some ⟨K.B, 0, none⟩)) := (hS.cell (b := N) (o := 1) JA.out.rw_.lt JA.out.nN).trans (JA.out.cell 1 (Y (some ⟨K.B, 0, none⟩)) rfl); go_simp))
   refine za 4 (Y (some ⟨N, 0, none⟩)) rfl hHeld ?_
   refine za 5 (Y (some ⟨N, 0, none⟩)) rfl hHeld ?_
   refine za 6 (Y (some ⟨N, 2, none⟩)) rfl hHeld ?_
   refine za 7 (Y (some ⟨N, 6, none⟩)) rfl hHeld ?_
   refine zt 8 (J I K.dp) rfl hHeld ?_ (hy := fun w hS => by (have hc : w.cell? ⟨N, 6, none⟩ = some (J I K.dp) := (hS.cell (b := N) (o := 6) JA.out.rw_.lt JA.out.nN).trans (JA.out.cell 6 (J I K.dp) rfl); go_simp))
   have hS := (Chg.refl (qS K) wr).drew
   have hF := (Chg.refl (fun _ => False) wr).drew
   generalize World.drew _ = wk at hS hF ⊢
   have JA := Hi (JA.out.keep hF)
   have OC := Hi (hF.obj OC.out (fun h => h))
   have OF := Hi (hF.obj OF.out (fun h => h))
   refine wpAnyH_ready (rs := [9]) (by kernel_rfl) (by simp) ?_
   refine AllReadyH.cons (o := _) rfl (fun K' hK => ?_) AllReadyH.nil
   go_simp
   with_reducible refine (HBR.out _ JA.out).mono ?_
   rintro e6 wv ⟨rfl, hj1, hc1⟩
   have JA := Hi hj1
   have OC := Hi (hc1.obj OC.out (not_qS JL.out (by omega)))
   have OF := Hi (hc1.obj OF.out (not_qS JL.out (by omega)))
   have hS := hS.trans hc1
   clear hj1 hc1
   go_wp2_with fail
   refine hK _ _ hS (fun hH2 => ?_)
   clear hK K'
   try simp only [Act.put, zq1, zq2, zq3, zq4, zq5, zq6]
   refine zt 10 (.tuple #[J I 0, .bool false]) rfl hH2 ?_
   refine zt 11 (J I 0) rfl hH2 ?_
   refine zt 12 (.bool false) rfl hH2 ?_
   refine zt 13 (J I 0) rfl hH2 ?_
   refine zt 14 (.bool false) rfl hH2 ?_
   refine wpAnyH_done (by kernel_rfl) ?_ _
   refine NoPanic.normal ?_
   have CH := Hi (CH.out.trans hS)
   go_upto_region 3 with (fail)
   refine wp_region_noPanic ?_
   refine wp_region_held_drew (S := fun w' => Chg (fun k => k = d ∨ k = d + 1) wv w') (by kernel_rfl) (Chg.refl _ _).drew (fun hHeld => ?_)
   refine zt 0 (.agg #[J U 0, J U 0, J U 0, J U 0]) rfl hHeld ?_
   refine za 1 (Y (some ⟨N, 0, none⟩)) rfl hHeld ?_
   refine za 2 (Y (some ⟨N, 0, none⟩)) rfl hHeld ?_
   refine za 3 (Y (some ⟨N, 0, none⟩)) rfl hHeld ?_
   refine zt 4 (Y (some ⟨K.X, 0, none⟩)) rfl hHeld ?_ (hy := fun w hS => by (have hc : w.cell? ⟨N, 0, none⟩ = some (Y (some ⟨K.X, 0, none⟩)) := (hS.cell (b := N) (o := 0) JA.out.rw_.lt (show ¬ (N = d ∨ N = d + 1) by have := JL.out.n; omega)).trans (JA.out.cell 0 (Y (some ⟨K.X, 0, none⟩)) rfl); go_simp))
   refine za 5 (Y (some ⟨N, 0, none⟩)) rfl hHeld ?_
   refine za 6 (Y (some ⟨N, 0, none⟩)) rfl hHeld ?_
   refine za 7 (Y (some ⟨N, 27, none⟩)) rfl hHeld ?_
   refine zt 8 (J I K.f) rfl hHeld ?_ (hy := fun w hS => by (have hc : w.cell? ⟨N, 27, none⟩ = some (J I K.f) := (hS.cell (b := N) (o := 27) JA.out.rw_.lt (show ¬ (N = d ∨ N = d + 1) by have := JL.out.n; omega)).trans (JA.out.cell 27 (J I K.f) rfl); go_simp))
   have hS := (Chg.refl (fun k => k = d ∨ k = d + 1) wv).drew
   have hF := (Chg.refl (fun _ => False) wv).drew
   generalize World.drew _ = wk at hS hF ⊢
   have JA := Hi (JA.out.keep hF)
   have OC := Hi (hF.obj OC.out (fun h => h))
   have OF := Hi (hF.obj OF.out (fun h => h))
   refine wpAnyH_ready (rs := [9]) (by kernel_rfl) (by simp) ?_
   refine AllReadyH.cons (o := _) rfl (fun K' hK => ?_) AllReadyH.nil
   go_simp
   with_reducible refine (HFA.out _ _ JA.out).mono ?_
   rintro e6 w6 ⟨rfl, hb6⟩
   have JA := Hi (JA.out.below hb6)
   have OC := Hi (OC.out.below hb6 OC.out.lt)
   have OF := Hi (OF.out.below hb6 OF.out.lt)
   have hS := hS.trans (aB hb6 _)
   go_wp2_with fail
   refine hK _ _ hS (fun hH2 => ?_)
   clear hK K'
   try simp only [Act.put, zq1, zq2, zq3, zq4, zq5, zq6]
   refine wpAnyH_ready (rs := [10]) (by kernel_rfl) (by simp) ?_
   refine AllReadyH.cons (o := _) rfl (fun K' hK => ?_) AllReadyH.nil
   rw [if_pos (by rfl)]
   refine wp_store_mid 104 _ _ rfl (d) 0 (c4v c4z).toArray rfl rfl (by have := OC.out.there 0 4 (by simp); simpa [c4v_len, fc_len] using this) (by first | kernel_rfl) (by have := c4v_one c4z; simpa using this) ?_
   simp only [Act.put, zq1, zq2, zq3, zq4, zq5, zq6]
   have hst : Stored w6 (d) 0 (c4v c4z) (w6.setCells (d) 0 (c4v c4z)) := rfl
   have OC := Hi (hst.whole OC.out rfl)
   have OF := Hi (hst.oth OF.out (by omega))
   have JA := Hi (JA.out.stored JL.out hst (by omega))
   have hS := Stored.chgS hst hS (Or.inl (by first | exact Or.inl rfl | exact Or.inr rfl))
   generalize World.setCells _ _ _ _ = w7 at JA hS OC OF ⊢
   clear hst
   refine hK _ _ hS (fun hH3 => ?_)
   clear hK K'
   try simp only [Act.put, zq1, zq2, zq3, zq4, zq5, zq6]
   refine wpAnyH_ready (rs := [11]) (by kernel_rfl) (by simp) ?_
   refine AllReadyH.cons (o := _) rfl (fun K' hK => ?_) AllReadyH.nil
   rw [if_pos (by rfl)]
   refine wp_store_mid 31 _ _ rfl (d + 1) 0 (fc K.f (K.ft τ.l τ.a)).toArray rfl rfl (by have := OF.out.there 0 3 (by simp); simpa [c4v_len, fc_len] using this) (by first | kernel_rfl) (by have := fc_one K.f (K.ft τ.l τ.a); simpa using this) ?_
   simp only [Act.put, zq1, zq2, zq3, zq4, zq5, zq6]
   have hst : Stored w7 (d + 1) 0 (fc K.f (K.ft τ.l τ.a)) (w7.setCells (d + 1) 0 (fc K.f (K.ft τ.l τ.a))) := rfl
   have OF := Hi (hst.whole OF.out rfl)
   have OC := Hi (hst.oth OC.out (by omega))
   have JA := Hi (JA.out.stored JL.out hst (by omega))
   have hS := Stored.chgS hst hS (Or.inl (by first | exact Or.inl rfl | exact Or.inr rfl))
   generalize World.setCells _ _ _ _ = w8 at JA hS OC OF ⊢
   clear hst
   refine hK _ _ hS (fun hH4 => ?_)
   clear hK K'
   try simp only [Act.put, zq1, zq2, zq3, zq4, zq5, zq6]
   refine wpAnyH_done (by kernel_rfl) ?_ _
   refine NoPanic.normal ?_
   have CH := Hi (CH.out.after hS (fun k hk hk2 => by have := HDe.out; rcases hk2 with hk2 | hk2 <;> omega))
   go_wp2_with fail
   refine bodyPost_ret (v := .tuple #[.agg (c4v c4z).toArray, .agg (fc K.f (K.ft τ.l τ.a)).toArray]) ?_ rfl ⟨by rw [HR.out]; rfl, by rw [HR.out]; exact JA.out, CH.out⟩
   exact aQ Tryz.results175 _ _ _ _ (c4v c4z) (fc K.f (K.ft τ.l τ.a)) _ _ rfl OC.out.range0 Tryz.underlying104 rfl (by kernel_rfl) rfl OF.out.range0 Tryz.underlying31 rfl (by kernel_rfl)
 | some v =>
   have HBR := Hi (fun w0 h0 => (HBR.out w0 h0).mono (R' := fun e w' => e = .returned (.tuple #[J I v, .bool true]) ∧ QAt w' N K τ ∧ Chg (qS K) w0 w') fun e w' hh => hh)
   go_enter Tryz.func175, Tryz.ntmps175
   go_upto_region 1 with (fail)
   clear hd
   generalize World.alloc _ _ = wr at OC OF JA CH ⊢
   refine wp_region_noPanic ?_
   refine wp_region_held_drew (S := fun w' => Chg (qS K) wr w') (by kernel_rfl) (Chg.refl _ _).drew (fun hHeld => ?_)
   refine za 0 (Y (some ⟨N, 0, none⟩)) rfl hHeld ?_
   refine za 1 (Y (some ⟨N, 0, none⟩)) rfl hHeld ?_
   refine za 2 (Y (some ⟨N, 1, none⟩)) rfl hHeld ?_
   refine zt 3 (Y (some ⟨K.B, 0, none⟩)) rfl hHeld ?_ (hy := fun w hS => by (have hc : w.cell? ⟨N, 1, none⟩ = some (Y (some ⟨K.B, 0, none⟩)) := (hS.cell (b := N) (o := 1) JA.out.rw_.lt JA.out.nN).trans (JA.out.cell 1 (Y (some ⟨K.B, 0, none⟩)) rfl); go_simp))
   refine za 4 (Y (some ⟨N, 0, none⟩)) rfl hHeld ?_
   refine za 5 (Y (some ⟨N, 0, none⟩)) rfl hHeld ?_
   refine za 6 (Y (some ⟨N, 2, none⟩)) rfl hHeld ?_
   refine za 7 (Y (some ⟨N, 6, none⟩)) rfl hHeld ?_
   refine zt 8 (J I K.dp) rfl hHeld ?_ (hy := fun w hS => by (have hc : w.cell? ⟨N, 6, none⟩ = some (J I K.dp) := (hS.cell (b := N) (o := 6) JA.out.rw_.lt JA.out.nN).trans (JA.out.cell 6 (J I K.dp) rfl); go_simp))
   have hS := (Chg.refl (qS K) wr).drew
   have hF := (Chg.refl (fun _ => False) wr).drew
   generalize World.drew _ = wk at hS hF ⊢
   have JA := Hi (JA.out.keep hF)
   have OC := Hi (hF.obj OC.out (fun h => h))
   have OF := Hi (hF.obj OF.out (fun h => h))
   refine wpAnyH_ready (rs := [9]) (by kernel_rfl) (by simp) ?_
   refine AllReadyH.cons (o := _) rfl (fun K' hK => ?_) AllReadyH.nil
   go_simp
   with_reducible refine (HBR.out _ JA.out).mono ?_
   rintro e6 wv ⟨rfl, hj1, hc1⟩
   have JA := Hi hj1
   have OC := Hi (hc1.obj OC.out (not_qS JL.out (by omega)))
   have OF := Hi (hc1.obj OF.out (not_qS JL.out (by omega)))
   have hS := hS.trans hc1
   clear hj1 hc1
   go_wp2_with fail
   refine hK _ _ hS (fun hH2 => ?_)
   clear hK K'
   try simp only [Act.put, zq1, zq2, zq3, zq4, zq5, zq6]
   refine zt 10 (.tuple #[J I (v : Int), .bool true]) rfl hH2 ?_
   refine zt 11 (J I (v : Int)) rfl hH2 ?_
   refine zt 12 (.bool true) rfl hH2 ?_
   refine zt 13 (J I (v : Int)) rfl hH2 ?_
   refine zt 14 (.bool true) rfl hH2 ?_
   refine wpAnyH_done (by kernel_rfl) ?_ _
   refine NoPanic.normal ?_
   have CH := Hi (CH.out.trans hS)
   have k18 := JA.out.cell 18 (Y (some ⟨K.P, 0, none⟩)) (by rw [← HPV.out]; rfl)
   cases hh : K.p.has (v : Int) with
   | false =>
     have HOF := Hi (fun w0 (h0 : QAt w0 N K τ) => (HOF.out w0 τ (v : Int) h0).mono (R' := fun e' w' => e' = .returned (.tuple #[.agg (c4v c4z).toArray, .bool false]) ∧ Chg (fun _ => False) w0 w') fun e' w' hq => by rw [hh] at hq; exact hq)
     go_wp2_with fail
     with_reducible refine (HOF.out _ JA.out).mono ?_
     rintro e w6 ⟨rfl, hc⟩
     have JA := Hi (JA.out.keep hc)
     have OC := Hi (hc.obj OC.out (fun h => h))
     have OF := Hi (hc.obj OF.out (fun h => h))
     have CH := Hi (CH.out.trans (hc.mono (fun _ _ h => h.elim)))
     clear hc
     clear k18
     obtain ⟨dv, hdv⟩ : ∃ b, w6.heap.size = b := ⟨_, rfl⟩
     have lzdv := OF.out.lt
     have OV := Hi (aA w6 #[J U 0, J U 0, J U 0, J U 0] 104)
     rw [hdv] at OV lzdv
     have JA := Hi (JA.out.alloc (.cells #[J U 0, J U 0, J U 0, J U 0] 104))
     have CH := Hi (CH.out.alloc (.cells #[J U 0, J U 0, J U 0, J U 0] 104))
     have OC := Hi (OC.out.alloc (.cells #[J U 0, J U 0, J U 0, J U 0] 104))
     have OF := Hi (OF.out.alloc (.cells #[J U 0, J U 0, J U 0, J U 0] 104))
     go_upto_region 5 with (first
      | (refine so 104 4 (dv) (c4v c4z) OV.out ?_; intro ws hst hO; have OV := Hi hO; have JA := Hi (JA.out.stored JL.out hst (by omega)); have OC := Hi (hst.oth OC.out (by omega)); have OF := Hi (hst.oth OF.out (by omega)); have CH := Hi (Stored.chgS hst CH.out (Or.inr (by have := HDe.out; omega))); clear hst hO))
     clear hdv
     have HR := Hi (show K.num σ = (τ, (c4z, (2, (τ.a : Int) - 1))) by rw [HR.out]; exact if_neg (by rw [hh]; decide))
     clear hh
     go_upto_region 6 with (fail)
     refine wp_region_noPanic ?_
     refine wp_region_held_drew (S := fun w' => Chg (fun k => k = d ∨ k = d + 1) ws w') (by kernel_rfl) (Chg.refl _ _).drew (fun hHeld => ?_)
     refine zt 0 (.agg #[J U 0, J U 0, J U 0, J U 0]) rfl hHeld ?_
     refine za 1 (Y (some ⟨N, 0, none⟩)) rfl hHeld ?_
     refine za 2 (Y (some ⟨N, 0, none⟩)) rfl hHeld ?_
     refine za 3 (Y (some ⟨N, 27, none⟩)) rfl hHeld ?_
     refine zt 4 (J I K.f) rfl hHeld ?_ (hy := fun w hS => by (have hc : w.cell? ⟨N, 27, none⟩ = some (J I K.f) := (hS.cell (b := N) (o := 27) JA.out.rw_.lt (show ¬ (N = d ∨ N = d + 1) by have := JL.out.n; omega)).trans (JA.out.cell 27 (J I K.f) rfl); go_simp))
     refine za 5 (Y (some ⟨N, 0, none⟩)) rfl hHeld ?_
     refine za 6 (Y (some ⟨N, 0, none⟩)) rfl hHeld ?_
     refine za 7 (Y (some ⟨N, 0, none⟩)) rfl hHeld ?_
     refine zt 8 (Y (some ⟨K.X, 0, none⟩)) rfl hHeld ?_ (hy := fun w hS => by (have hc : w.cell? ⟨N, 0, none⟩ = some (Y (some ⟨K.X, 0, none⟩)) := (hS.cell (b := N) (o := 0) JA.out.rw_.lt (show ¬ (N = d ∨ N = d + 1) by have := JL.out.n; omega)).trans (JA.out.cell 0 (Y (some ⟨K.X, 0, none⟩)) rfl); go_simp))
     have hS := (Chg.refl (fun k => k = d ∨ k = d + 1) ws).drew
     have hF := (Chg.refl (fun _ => False) ws).drew
     generalize World.drew _ = wk at hS hF ⊢
     have JA := Hi (JA.out.keep hF)
     have OC := Hi (hF.obj OC.out (fun h => h))
     have OF := Hi (hF.obj OF.out (fun h => h))
     have OV := Hi (hF.obj OV.out (fun h => h))
     refine wpAnyH_ready (rs := [9]) (by kernel_rfl) (by simp) ?_
     refine AllReadyH.cons (o := _) rfl (fun K' hK => ?_) AllReadyH.nil
     go_simp
     with_reducible refine (HAT.out _ _ JA.out).mono ?_
     rintro e6 w7 ⟨rfl, rfl⟩
     go_wp2_with fail
     refine hK _ _ hS (fun hH2 => ?_)
     clear hK K'
     try simp only [Act.put, zq1, zq2, zq3, zq4, zq5, zq6]
     refine zt 10 (J I ((τ.a : Int) - 1)) rfl hH2 ?_ (hy := fun w hS => by (go_simp; rw [IntKind.wrap_i64]; have := HB0.out τ; have := HA9.out; omega))
     refine zt 11 (.agg #[J I 2, J I K.f, J I ((τ.a : Int) - 1)]) rfl hH2 ?_
     refine wpAnyH_ready (rs := [12]) (by kernel_rfl) (by simp) ?_
     refine AllReadyH.cons (o := _) rfl (fun K' hK => ?_) AllReadyH.nil
     rw [if_pos (by rfl)]
     refine wp_store_mid 104 _ _ rfl (d) 0 (c4v c4z).toArray rfl rfl (by have := OC.out.there 0 4 (by simp); simpa [c4v_len, fc_len] using this) (by first | kernel_rfl) (by have := c4v_one c4z; simpa using this) ?_
     simp only [Act.put, zq1, zq2, zq3, zq4, zq5, zq6]
     have hst : Stored wk (d) 0 (c4v c4z) (wk.setCells (d) 0 (c4v c4z)) := rfl
     have OC := Hi (hst.whole OC.out rfl)
     have OF := Hi (hst.oth OF.out (by omega))
     have OV := Hi (hst.oth OV.out (by omega))
     have JA := Hi (JA.out.stored JL.out hst (by omega))
     have hS := Stored.chgS hst hS (Or.inl (by first | exact Or.inl rfl | exact Or.inr rfl))
     generalize World.setCells _ _ _ _ = w8 at JA hS OC OF OV ⊢
     clear hst
     refine hK _ _ hS (fun hH3 => ?_)
     clear hK K'
     try simp only [Act.put, zq1, zq2, zq3, zq4, zq5, zq6]
     refine wpAnyH_ready (rs := [13]) (by kernel_rfl) (by simp) ?_
     refine AllReadyH.cons (o := _) rfl (fun K' hK => ?_) AllReadyH.nil
     rw [if_pos (by rfl)]
     refine wp_store_mid 31 _ _ rfl (d + 1) 0 (fc K.f (2, (τ.a : Int) - 1)).toArray rfl rfl (by have := OF.out.there 0 3 (by simp); simpa [c4v_len, fc_len] using this) (by first | kernel_rfl) (by have := fc_one K.f (2, (τ.a : Int) - 1); simpa using this) ?_
     simp only [Act.put, zq1, zq2, zq3, zq4, zq5, zq6]
     have hst : Stored w8 (d + 1) 0 (fc K.f (2, (τ.a : Int) - 1)) (w8.setCells (d + 1) 0 (fc K.f (2, (τ.a : Int) - 1))) := rfl
     have OF := Hi (hst.whole OF.out rfl)
     have OC := Hi (hst.oth OC.out (by omega))
     have OV := Hi (hst.oth OV.out (by omega))
     have JA := Hi (JA.out.stored JL.out hst (by omega))
     have hS := Stored.chgS hst hS (Or.inl (by first | exact Or.inl rfl | exact Or.inr rfl))
     generalize World.setCells _ _ _ _ = w9 at JA hS OC OF OV ⊢
     clear hst
     refine hK _ _ hS (fun hH4 => ?_)
     clear hK K'
     try simp only [Act.put, zq1, zq2, zq3, zq4, zq5, zq6]
     refine wpAnyH_done (by kernel_rfl) ?_ _
     refine NoPanic.normal ?_
     have CH := Hi (CH.out.after hS (fun k hk hk2 => by have := HDe.out; rcases hk2 with hk2 | hk2 <;> omega))
     go_wp2_with fail
     refine bodyPost_ret (v := .tuple #[.agg (c4v c4z).toArray, .agg (fc K.f (2, (τ.a : Int) - 1)).toArray]) ?_ rfl ⟨by rw [HR.out]; rfl, by rw [HR.out]; exact JA.out, CH.out⟩
     exact aQ Tryz.results175 _ _ _ _ (c4v c4z) (fc K.f (2, (τ.a : Int) - 1)) _ _ rfl OC.out.range0 Tryz.underlying104 rfl (by kernel_rfl) rfl OF.out.range0 Tryz.underlying31 rfl (by kernel_rfl)
   | true =>
     have HOF := Hi (fun w0 (h0 : QAt w0 N K τ) => (HOF.out w0 τ (v : Int) h0).mono (R' := fun e' w' => e' = .returned (.tuple #[.agg (c4v (c4e (K.p.ent v))).toArray, .bool true]) ∧ Chg (fun _ => False) w0 w') fun e' w' hq => by rw [hh] at hq; exact hq)
     go_wp2_with fail
     with_reducible refine (HOF.out _ JA.out).mono ?_
     rintro e w6 ⟨rfl, hc⟩
     have JA := Hi (JA.out.keep hc)
     have OC := Hi (hc.obj OC.out (fun h => h))
     have OF := Hi (hc.obj OF.out (fun h => h))
     have CH := Hi (CH.out.trans (hc.mono (fun _ _ h => h.elim)))
     clear hc
     clear k18
     obtain ⟨dv, hdv⟩ : ∃ b, w6.heap.size = b := ⟨_, rfl⟩
     have lzdv := OF.out.lt
     have OV := Hi (aA w6 #[J U 0, J U 0, J U 0, J U 0] 104)
     rw [hdv] at OV lzdv
     have JA := Hi (JA.out.alloc (.cells #[J U 0, J U 0, J U 0, J U 0] 104))
     have CH := Hi (CH.out.alloc (.cells #[J U 0, J U 0, J U 0, J U 0] 104))
     have OC := Hi (OC.out.alloc (.cells #[J U 0, J U 0, J U 0, J U 0] 104))
     have OF := Hi (OF.out.alloc (.cells #[J U 0, J U 0, J U 0, J U 0] 104))
     go_upto_region 5 with (first
      | (refine so 104 4 (dv) (c4v (c4e (K.p.ent v))) OV.out ?_; intro ws hst hO; have OV := Hi hO; have JA := Hi (JA.out.stored JL.out hst (by omega)); have OC := Hi (hst.oth OC.out (by omega)); have OF := Hi (hst.oth OF.out (by omega)); have CH := Hi (Stored.chgS hst CH.out (Or.inr (by have := HDe.out; omega))); clear hst hO))
     clear hdv
     have HR := Hi (show K.num σ = (τ, (c4e (K.p.ent v), (0, 0))) by rw [HR.out]; exact if_pos hh)
     clear hh
     go_wp2_with (first
      | (refine aL (by kernel_rfl) 104 4 _ rfl (dv) (c4v (c4e (K.p.ent v))) rfl rfl OV.out Tryz.underlying104 rfl (by kernel_rfl) ?_; intro _)
      | (refine so 104 4 (d) (c4v (c4e (K.p.ent v))) OC.out ?_; intro ws hst hO; have OC := Hi hO; have JA := Hi (JA.out.stored JL.out hst (by omega)); have OF := Hi (hst.oth OF.out (by omega)); have OV := Hi (hst.oth OV.out (by omega)); have CH := Hi (Stored.chgS hst CH.out (Or.inr (by have := HDe.out; omega))); clear hst hO)
      | (refine so 31 3 ((d + 1)) (fc K.f (0, 0)) OF.out ?_; intro ws hst hO; have OF := Hi hO; have JA := Hi (JA.out.stored JL.out hst (by omega)); have OC := Hi (hst.oth OC.out (by omega)); have OV := Hi (hst.oth OV.out (by omega)); have CH := Hi (Stored.chgS hst CH.out (Or.inr (by have := HDe.out; omega))); clear hst hO))
     refine bodyPost_ret (v := .tuple #[.agg (c4v (c4e (K.p.ent v))).toArray, .agg (fc K.f (0, 0)).toArray]) ?_ rfl ⟨by rw [HR.out]; rfl, by rw [HR.out]; exact JA.out, CH.out⟩
     exact aQ Tryz.results175 _ _ _ _ (c4v (c4e (K.p.ent v))) (fc K.f (0, 0)) _ _ rfl OC.out.range0 Tryz.underlying104 rfl (by kernel_rfl) rfl OF.out.range0 Tryz.underlying31 rfl (by kernel_rfl)
end Go.Proofs.YtfchnibjjokmbaaGreat

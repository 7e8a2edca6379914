/- The rows' work as one object; what its small calls do to it. -/
import Derived.Test.YtlfbaggcfaenlaaGreatK2
import Derived.Test.YtlfbaggcfaenlaaGreatK24
import Derived.Test.YtlfbaggcfaenlaaGreatK0
namespace Go.Proofs.YtlfbaggcfaenlaaGreat
open Go.RowKit
set_option linter.unusedVariables false
set_option linter.unusedSimpArgs false
structure QK where
  X : Nat
  B : Nat
  hp : Bool
  P : Nat
  R : Nat
  dp : Nat
  q : Nat → Value
  m : Nat → Int
  f : Int
  x : Sr
  p : Pal
  r : Ras
structure QS where
  now : Nat
  left : Nat
  a : Nat
  l : Led
  d : List Int
def QK.pv (K : QK) : Value := .pointer (if K.hp = true then some ⟨K.P, 0, none⟩ else none)
def QK.ml (K : QK) : List Value := [.int .i64 (K.m 0), .int .i64 (K.m 1), .int .i64 (K.m 2), .int .i64 (K.m 3), .int .i64 (K.m 4), .int .i64 (K.m 5), .int .i64 (K.m 6), .int .i64 (K.m 7)]
def QK.cells (K : QK) : List Value := [.pointer (some ⟨K.X, 0, none⟩), .pointer (some ⟨K.B, 0, none⟩), K.q 0, K.q 1, K.q 2, K.q 3, .int .i64 K.dp, K.q 4, K.q 5, K.q 6, K.q 7, K.q 8, K.q 9, K.q 10, K.q 11, K.q 12, K.q 13, K.q 14, K.pv,
  .int .i64 (K.m 0), .int .i64 (K.m 1), .int .i64 (K.m 2), .int .i64 (K.m 3), .int .i64 (K.m 4), .int .i64 (K.m 5), .int .i64 (K.m 6), .int .i64 (K.m 7), .int .i64 K.f]
def QK.sr (K : QK) (σ : QS) : Sr := { K.x with p := σ.a }
def QK.ras (K : QK) (σ : QS) : Ras := { K.r with b := { K.r.b with d := σ.d } }
structure QApart (N : Nat) (K : QK) : Prop where
  rl : K.r.L = K.x.L
  n1 : N ≠ K.X
  n2 : N ≠ K.x.L
  n3 : N ≠ K.B
  n4 : N ≠ K.r.b.g
  b1 : K.B ≠ K.X
  b2 : K.B ≠ K.x.L
  b3 : K.B ≠ K.r.b.g
  x1 : K.X ≠ K.r.b.g
  r1 : K.R ≠ K.X
  r2 : K.R ≠ K.B
  s1 : K.r.B ≠ K.X
  s2 : K.r.B ≠ K.B
  p0 : K.hp = true → K.P ≠ K.X ∧ K.P ≠ K.x.L ∧ K.P ≠ K.B ∧ K.P ≠ K.r.b.g
  p1 : K.hp = true → K.p.B ≠ K.X ∧ K.p.B ≠ K.x.L ∧ K.p.B ≠ K.B ∧ K.p.B ≠ K.r.b.g
  p2 : K.hp = true → K.p.b.g ≠ K.X ∧ K.p.b.g ≠ K.x.L ∧ K.p.b.g ≠ K.B ∧ K.p.b.g ≠ K.r.b.g
structure QAt (w : World) (N : Nat) (K : QK) (σ : QS) : Prop where
  rw_ : Obj1 w N K.cells.toArray 179
  bt : BtAt w K.B K.X σ.now σ.left
  pr : Pair w K.X (K.sr σ) σ.l
  pal : K.hp = true → PalAt w K.P K.p
  ras : RasAt w K.R (K.ras σ)
  ap : QApart N K
  op : K.r.op = true
  n8 : σ.now < 256
  l8 : σ.left ≤ 8
def qS (K : QK) (k : Nat) : Prop := k = K.B ∨ k = K.X ∨ k = K.x.L ∨ k = K.r.b.g
theorem QAt.rgl {w : World} {N : Nat} {K : QK} {σ : QS} (h : QAt w N K σ) : K.r.b.g ≠ K.x.L ∧ K.r.B ≠ K.x.L ∧ K.R ≠ K.x.L ∧ K.R ≠ K.r.b.g ∧ K.r.B ≠ K.r.b.g := by
  have e : (K.ras σ).b.L = K.x.L := h.ras.bl.trans h.ap.rl
  refine ⟨?_, ?_, ?_, h.ras.ng, ?_⟩
  · have := h.ras.buf.gl; rw [e] at this; exact this
  · have := h.ras.buf.nl; rw [e] at this; exact this
  · have := h.ras.nl; rw [show (K.ras σ).L = K.x.L from h.ap.rl] at this; exact this
  · exact h.ras.buf.ne
theorem QAt.keep {w w' : World} {N : Nat} {K : QK} {σ : QS} (h : QAt w N K σ) (hc : Chg (fun _ => False) w w') : QAt w' N K σ :=
  ⟨hc.obj h.rw_ (fun h => h), hc.obj h.bt (fun h => h), ⟨h.pr.src.chg hc (fun h => h), h.pr.led.chg hc (fun h => h)⟩, fun hp => (h.pal hp).chg hc (fun h => h) (fun h => h) (fun h => h), h.ras.chg hc (fun h => h) (fun h => h) (fun h => h), h.ap, h.op, h.n8, h.l8⟩
structure QLt (N : Nat) (K : QK) (b : Nat) : Prop where
  n : N < b
  x : K.X < b
  l : K.x.L < b
  bb : K.B < b
  p : K.hp = true → K.P < b ∧ K.p.B < b ∧ K.p.b.g < b
  r : K.R < b
  rb : K.r.B < b
  rg : K.r.b.g < b
theorem QAt.jlt {w : World} {N : Nat} {K : QK} {σ : QS} (h : QAt w N K σ) : QLt N K w.heap.size :=
  ⟨h.rw_.lt, h.pr.src.lt, h.pr.led.lt, h.bt.lt, fun hp => ⟨(h.pal hp).lt, (h.pal hp).buf.lt, (h.pal hp).buf.glt (h.pal hp).opn⟩, h.ras.lt, h.ras.buf.lt, h.ras.buf.glt (h.ras.opn.trans h.op)⟩
theorem QAt.far {w w' : World} {N : Nat} {K : QK} {σ : QS} {S : Nat → Prop} {b : Nat} (h : QAt w N K σ) (hl : QLt N K b) (hc : Chg S w w') (hS : ∀ k, S k → b ≤ k) : QAt w' N K σ := by
  have no : ∀ k, k < b → ¬ S k := fun k hk hs => by have := hS k hs; omega
  exact ⟨hc.obj h.rw_ (no _ hl.n), hc.obj h.bt (no _ hl.bb), ⟨h.pr.src.chg hc (no _ hl.x), h.pr.led.chg hc (no _ hl.l)⟩, fun hp => (h.pal hp).chg hc (no _ (hl.p hp).1) (no _ (hl.p hp).2.1) (no _ (hl.p hp).2.2), h.ras.chg hc (no _ hl.r) (no _ hl.rb) (no _ hl.rg), h.ap, h.op, h.n8, h.l8⟩
theorem QAt.stored {w w' : World} {N : Nat} {K : QK} {σ : QS} {b o c : Nat} {vs : List Value} (h : QAt w N K σ) (hl : QLt N K c) (hst : Stored w b o vs w') (hb : c ≤ b) : QAt w' N K σ :=
  h.far hl (Stored.chgS (S := fun k => k = b) hst (Chg.refl _ _) (Or.inl rfl)) (fun k hk => by rw [hk]; exact hb)
theorem QAt.below {w w' : World} {N : Nat} {K : QK} {σ : QS} (h : QAt w N K σ) (hb : Below w.heap.size w w') : QAt w' N K σ := h.keep (chg_of_below hb _)
theorem QAt.drewN {w : World} {N : Nat} {K : QK} {σ : QS} (h : QAt w N K σ) (n : Nat) : QAt (w.drewN n) N K σ := h.keep ((Chg.refl _ _).drewN n)
theorem QAt.drew {w : World} {N : Nat} {K : QK} {σ : QS} (h : QAt w N K σ) : QAt w.drew N K σ := h.keep (Chg.refl _ _).drew
theorem QAt.alloc {w : World} {N : Nat} {K : QK} {σ : QS} (h : QAt w N K σ) (o : Obj) : QAt (w.alloc o) N K σ := h.keep ((Chg.refl _ _).alloc o)
theorem QAt.cell {w : World} {N : Nat} {K : QK} {σ : QS} (h : QAt w N K σ) (i : Nat) (v : Value) (hv : K.cells[i]? = some v) : w.cell? ⟨N, i, none⟩ = some v := (Obj1.cell h.rw_ i).trans (by simpa using hv)
theorem not_qS {N : Nat} {K : QK} {d b : Nat} (h : QLt N K d) (hb : d ≤ b) : ¬ qS K b := by
  obtain ⟨l1, l2, l3, l4, -, l6, l7, l8⟩ := h
  unfold qS; omega
theorem QAt.nN {w : World} {N : Nat} {K : QK} {σ : QS} (h : QAt w N K σ) : ¬ qS K N := by
  have ha := h.ap
  intro hh
  rcases hh with hh | hh | hh | hh
  · exact ha.n3 hh
  · exact ha.n1 hh
  · exact ha.n2 hh
  · exact ha.n4 hh
theorem QAt.srcled {w w' : World} {N : Nat} {K : QK} {σ : QS} (h : QAt w N K σ) {a : Nat} {l : Led} (hp : Pair w' K.X { K.x with p := a } l) (hC : Chg (two K.X (K.sr σ)) w w') : QAt w' N K ⟨σ.now, σ.left, a, l, σ.d⟩ ∧ Chg (qS K) w w' := by
  have ha := h.ap
  obtain ⟨g1, g2, g3, g4, g5⟩ := h.rgl
  have no : ∀ k, k ≠ K.X → k ≠ K.x.L → ¬ two K.X (K.sr σ) k := fun k ha hb hh => by rcases hh with hh | hh; exact ha hh; exact hb hh
  refine ⟨⟨hC.obj h.rw_ (no _ ha.n1 ha.n2), hC.obj h.bt (no _ ha.b1 ha.b2), hp, fun e => (h.pal e).chg hC (no _ (ha.p0 e).1 (ha.p0 e).2.1) (no _ (ha.p1 e).1 (ha.p1 e).2.1) (no _ (ha.p2 e).1 (ha.p2 e).2.1), h.ras.chg hC (no _ ha.r1 g3) (no _ ha.s1 g2) (no _ (fun e => ha.x1 e.symm) g1), ha, h.op, h.n8, h.l8⟩, hC.mono fun k _ hk => ?_⟩
  rcases hk with hk | hk
  · exact Or.inr (Or.inl hk)
  · exact Or.inr (Or.inr (Or.inl hk))
theorem QAt.bitsAt {w w' : World} {N : Nat} {K : QK} {σ : QS} (h : QAt w N K σ) {now left a : Nat} {l : Led} (hb : BtAt w' K.B K.X now left) (hp : Pair w' K.X { K.x with p := a } l) (hC : Chg (btS K.B K.X (K.sr σ)) w w') (h1 : now < 256) (h2 : left ≤ 8) : QAt w' N K ⟨now, left, a, l, σ.d⟩ ∧ Chg (qS K) w w' := by
  have ha := h.ap
  obtain ⟨g1, g2, g3, g4, g5⟩ := h.rgl
  have no : ∀ k, k ≠ K.B → k ≠ K.X → k ≠ K.x.L → ¬ btS K.B K.X (K.sr σ) k := fun k hb hx hl hh => by rcases hh with hh | hh | hh; exact hb hh; exact hx hh; exact hl hh
  refine ⟨⟨hC.obj h.rw_ (no _ ha.n3 ha.n1 ha.n2), hb, hp, fun e => (h.pal e).chg hC (no _ (ha.p0 e).2.2.1 (ha.p0 e).1 (ha.p0 e).2.1) (no _ (ha.p1 e).2.2.1 (ha.p1 e).1 (ha.p1 e).2.1) (no _ (ha.p2 e).2.2.1 (ha.p2 e).1 (ha.p2 e).2.1), h.ras.chg hC (no _ ha.r2 ha.r1 g3) (no _ ha.s2 ha.s1 g2) (no _ (fun e => ha.b3 e.symm) (fun e => ha.x1 e.symm) g1), ha, h.op, h1, h2⟩, hC.mono fun k _ hk => ?_⟩
  rcases hk with hk | hk | hk
  · exact Or.inl hk
  · exact Or.inr (Or.inl hk)
  · exact Or.inr (Or.inr (Or.inl hk))
def QK.ft (K : QK) (l : Led) (a : Nat) : Int × Int := if l.br = true then (4, a) else (1, K.x.e)
theorem qft_fault (K : QK) (σ : QS) (l : Led) (f : Int) : Value.agg (faultL (K.sr σ) l f).toArray = ftv f (K.ft l σ.a) := by
  unfold faultL QK.ft ftv fc
  by_cases h : l.br = true
  · rw [if_pos h, if_pos h]; rfl
  · rw [if_neg h, if_neg h]; rfl
def QK.next (K : QK) (σ : QS) (n : Nat) : QS × (ByteArray × Bool) :=
  if (σ.l.work 1).2 = true ∧ n ≤ K.x.e - σ.a then (⟨σ.now, σ.left, σ.a + n, (σ.l.work 1).1, σ.d⟩, (K.x.s.extract σ.a (σ.a + n), true)) else (⟨σ.now, σ.left, σ.a, (σ.l.work 1).1, σ.d⟩, (ByteArray.empty, false))
theorem qnext_eq {w : World} {N : Nat} {K : QK} {σ : QS} (h : QAt w N K σ) (n : Nat) : (K.sr σ).next σ.l n = (({ K.x with p := (K.next σ n).1.a }, (K.next σ n).1.l), (K.next σ n).2) ∧ (K.next σ n).1 = ⟨σ.now, σ.left, (K.next σ n).1.a, (K.next σ n).1.l, σ.d⟩ := by
  have h1 : σ.a ≤ K.x.e := h.pr.src.ok.pe
  unfold Sr.next QK.next
  by_cases hc : (σ.l.work 1).2 = true ∧ n ≤ K.x.e - σ.a
  · rw [if_pos hc, if_pos ⟨hc.1, by omega, by show (n : Int) ≤ (K.x.e : Int) - σ.a; have := hc.2; omega⟩]
    exact ⟨rfl, rfl⟩
  · rw [if_neg hc, if_neg (fun hh => hc ⟨hh.1, by have h2 : (n : Int) ≤ (K.x.e : Int) - σ.a := hh.2.2; omega⟩)]
    exact ⟨rfl, rfl⟩
theorem qnext_at {w w' : World} {N : Nat} {K : QK} {σ : QS} (h : QAt w N K σ) (n : Nat) (hp : Pair w' K.X { K.x with p := (K.next σ n).1.a } (K.next σ n).1.l) (hC : Chg (two K.X (K.sr σ)) w w') : QAt w' N K (K.next σ n).1 ∧ Chg (qS K) w w' := by
  have := h.srcled hp hC
  rw [← (qnext_eq h n).2] at this
  exact this
theorem qtake_any (N : Nat) (K : QK) (σ : QS) (n : Nat) (w : World) (h : QAt w N K σ) : Calls Tryz.prog 66 #[.pointer (some ⟨K.X, 0, none⟩), .int .i64 n] w fun e w' =>
    e = .returned (.tuple #[.string (K.next σ n).2.1, .bool (K.next σ n).2.2]) ∧ QAt w' N K (K.next σ n).1 ∧ Chg (qS K) w w' := by
  refine (take_any K.X (K.sr σ) σ.l n w h.pr).mono ?_
  rintro e w' ⟨he, hp, hc⟩
  rw [(qnext_eq h n).1] at he hp
  exact ⟨he, qnext_at h n hp hc⟩
theorem qskip_any (N : Nat) (K : QK) (σ : QS) (n : Nat) (w : World) (h : QAt w N K σ) : Calls Tryz.prog 70 #[.pointer (some ⟨K.X, 0, none⟩), .int .i64 n] w fun e w' =>
    e = .returned (.bool (K.next σ n).2.2) ∧ QAt w' N K (K.next σ n).1 ∧ Chg (qS K) w w' := by
  refine (skip_any K.X (K.sr σ) σ.l n w h.pr).mono ?_
  rintro e w' ⟨he, hp, hc⟩
  rw [(qnext_eq h n).1] at he hp
  exact ⟨he, qnext_at h n hp hc⟩
theorem qle16_any (N : Nat) (K : QK) (σ : QS) (w : World) (h : QAt w N K σ) : Calls Tryz.prog 223 #[.pointer (some ⟨K.X, 0, none⟩)] w fun e w' =>
    e = .returned (.tuple #[.int .i64 (numB (K.next σ 2).2.1 true), .bool (K.next σ 2).2.2]) ∧ QAt w' N K (K.next σ 2).1 ∧ Chg (qS K) w w' := by
  refine (le16_any K.X (K.sr σ) σ.l w h.pr).mono ?_
  rintro e w' ⟨he, hp, hc⟩
  have hq : (K.sr σ).next σ.l 2 = (({ K.x with p := (K.next σ 2).1.a }, (K.next σ 2).1.l), (K.next σ 2).2) := (qnext_eq h 2).1
  rw [hq] at he hp
  exact ⟨he, qnext_at h 2 hp hc⟩
theorem qle32_any (N : Nat) (K : QK) (σ : QS) (w : World) (h : QAt w N K σ) : Calls Tryz.prog 224 #[.pointer (some ⟨K.X, 0, none⟩)] w fun e w' =>
    e = .returned (.tuple #[.int .i64 (numB (K.next σ 4).2.1 true), .bool (K.next σ 4).2.2]) ∧ QAt w' N K (K.next σ 4).1 ∧ Chg (qS K) w w' := by
  refine (le32_any K.X (K.sr σ) σ.l w h.pr).mono ?_
  rintro e w' ⟨he, hp, hc⟩
  have hq : (K.sr σ).next σ.l 4 = (({ K.x with p := (K.next σ 4).1.a }, (K.next σ 4).1.l), (K.next σ 4).2) := (qnext_eq h 4).1
  rw [hq] at he hp
  exact ⟨he, qnext_at h 4 hp hc⟩
theorem qfault_any (N : Nat) (K : QK) (σ : QS) (w : World) (h : QAt w N K σ) : Calls Tryz.prog 67 #[.pointer (some ⟨K.X, 0, none⟩), .int .i64 K.f] w fun e w' => e = .returned (ftv K.f (K.ft σ.l σ.a)) ∧ Below w.heap.size w w' := by
  refine (fault8_any K.X (K.sr σ) σ.l K.f w h.pr).mono ?_
  rintro e w' ⟨he, hb⟩
  exact ⟨by rw [he, qft_fault K σ σ.l K.f], hb⟩
theorem qat_any (N : Nat) (K : QK) (σ : QS) (w : World) (h : QAt w N K σ) : Calls Tryz.prog 32 #[.pointer (some ⟨K.X, 0, none⟩)] w fun e w' => e = .returned (.int .i64 σ.a) ∧ w = w' :=
  at_any K.X (K.sr σ) w h.pr.src
theorem qof_any (N : Nat) (K : QK) (σ : QS) (e : Int) (w : World) (h : QAt w N K σ) (hp : K.hp = true) : Calls Tryz.prog 218 #[.pointer (some ⟨K.P, 0, none⟩), .int .i64 e] w fun e' w' =>
    e' = .returned (.tuple #[if K.p.has e = true then colS4 (K.p.ent e.toNat) else colZ4, .bool (K.p.has e)]) ∧ Chg (fun _ => False) w w' := pof_any K.P K.p e w (h.pal hp)
theorem qalign_any (N : Nat) (K : QK) (σ : QS) (w : World) (h : QAt w N K σ) : Calls Tryz.prog 102 #[.pointer (some ⟨K.B, 0, none⟩)] w fun e w' =>
    e = .returned (.int .i64 σ.left) ∧ QAt w' N K ⟨σ.now, 0, σ.a, σ.l, σ.d⟩ ∧ Chg (qS K) w w' := by
  have c2 : w.cell? ⟨K.B, 2, none⟩ = some (.int .i64 σ.left) := (h.bt.cell 2).trans rfl
  have f2 := h.bt.frozen 2
  have hc := (Chg.refl (btS K.B K.X (K.sr σ)) w).set ⟨K.B, 2, none⟩ (.int .i64 0) (Or.inl (Or.inl rfl))
  have FIN := Hi (h.bitsAt (now := σ.now) (left := 0) (a := σ.a) (l := σ.l) (h.bt.set 2 (.int .i64 0)) (h.pr.put (K := K.B) (i := 2) (.int .i64 0) h.ap.b1 h.ap.b2) hc h.n8 (by decide))
  obtain ⟨z, hz⟩ : ∃ z, σ.left = z := ⟨_, rfl⟩
  rw [hz] at c2 ⊢
  clear h hz hc
  go_enter Tryz.func102, Tryz.ntmps102
  go_wp2
  go_ret
  exact ⟨rfl, FIN.out.1, FIN.out.2⟩
def QK.bits (K : QK) (σ : QS) : QS × Option Nat :=
  if σ.left = 0 then
    (if (K.next σ 1).2.2 = true then (⟨(byN K.x.s σ.a).toNat, 8 - K.dp, (K.next σ 1).1.a, (K.next σ 1).1.l, σ.d⟩, some (valB (byN K.x.s σ.a).toNat 8 K.dp)) else ((K.next σ 1).1, none))
  else (⟨σ.now, σ.left - K.dp, σ.a, σ.l, σ.d⟩, some (valB σ.now σ.left K.dp))
def natOr (o : Option Nat) : Int := match o with | some v => v | none => 0
theorem qbits_any (N : Nat) (K : QK) (σ : QS) (w : World) (h : QAt w N K σ) (h1 : 1 ≤ K.dp) (h2 : K.dp ≤ 8) (h3 : σ.left = 0 ∨ K.dp ≤ σ.left) : Calls Tryz.prog 226 #[.pointer (some ⟨K.B, 0, none⟩), .int .i64 K.dp] w fun e w' =>
    e = .returned (.tuple #[.int .i64 (natOr (K.bits σ).2), .bool (K.bits σ).2.isSome]) ∧ QAt w' N K (K.bits σ).1 ∧ Chg (qS K) w w' := by
  have hq := (qnext_eq h 1).1
  have hq1 : (K.sr σ).next σ.l 1 = (({ K.x with p := (K.next σ 1).1.a }, (K.next σ 1).1.l), (K.next σ 1).2) := hq
  have hq2 := (qnext_eq h 1).2
  by_cases hz : σ.left = 0
  · have hbt : BtAt w K.B K.X σ.now 0 := by have := h.bt; rw [hz] at this; exact this
    cases hk : (K.next σ 1).2.2 with
    | false =>
      have e1 : K.bits σ = ((K.next σ 1).1, none) := by unfold QK.bits; rw [if_pos hz, if_neg (by rw [hk]; decide)]
      rw [e1]
      refine (bread_no K.B K.X (K.sr σ) σ.l σ.now K.dp w hbt h.pr h.ap.b1 h.ap.b2 h1 h2 (by rw [hq1]; exact hk)).mono ?_
      rintro e w' ⟨he, hb, hp, hc⟩
      rw [hq1] at hp
      have := h.bitsAt (now := σ.now) (left := 0) hb hp hc h.n8 (by decide)
      refine ⟨he, ?_, this.2⟩
      have e2 : (K.next σ 1).1 = ⟨σ.now, 0, (K.next σ 1).1.a, (K.next σ 1).1.l, σ.d⟩ := by rw [← hz]; exact hq2
      show QAt w' N K (K.next σ 1).1
      rw [e2]
      exact this.1
    | true =>
      have hby := byN_bd K.x.s σ.a
      have hB : (((byN K.x.s σ.a).toNat : Nat) : Int) = byN K.x.s σ.a := Int.toNat_of_nonneg hby.1
      have e1 : K.bits σ = (⟨(byN K.x.s σ.a).toNat, 8 - K.dp, (K.next σ 1).1.a, (K.next σ 1).1.l, σ.d⟩, some (valB (byN K.x.s σ.a).toNat 8 K.dp)) := by unfold QK.bits; rw [if_pos hz, if_pos hk]
      rw [e1]
      have hu : ∀ w0, Pair w0 K.X (K.sr σ) σ.l → Calls Tryz.prog 157 #[.pointer (some ⟨K.X, 0, none⟩)] w0 fun e w' => e = .returned (.tuple #[.int .i64 ((byN K.x.s σ.a).toNat : Nat), .bool true]) ∧ Pair w' K.X { K.x with p := (K.next σ 1).1.a } (K.next σ 1).1.l ∧ Chg (two K.X (K.sr σ)) w0 w' := by
        intro w0 h0
        refine (u8_any K.X (K.sr σ) σ.l w0 h0).mono ?_
        rintro e w' ⟨he, hp, hc⟩
        rw [hq1] at he hp
        refine ⟨?_, hp, hc⟩
        rw [he]
        have hv : numB (K.next σ 1).2.1 true = byN K.x.s σ.a := by
          have hin : (σ.l.work 1).2 = true ∧ 1 ≤ K.x.e - σ.a := by
            by_cases hc : (σ.l.work 1).2 = true ∧ 1 ≤ K.x.e - σ.a
            · exact hc
            · unfold QK.next at hk; rw [if_neg hc] at hk; cases hk
          unfold QK.next
          rw [if_pos hin]
          have hes : K.x.e ≤ K.x.s.size := h.pr.src.ok.es
          exact num_one K.x.s σ.a (by have := hin.2; omega)
        show Ending.returned (.tuple #[.int .i64 (numB (K.next σ 1).2.1 true), .bool (K.next σ 1).2.2]) = _
        rw [hv, hk, hB]
      refine (bread_yes K.B K.X (K.sr σ) { K.x with p := (K.next σ 1).1.a } σ.l (K.next σ 1).1.l σ.now 0 (byN K.x.s σ.a).toNat 8 K.dp w hbt h.pr h.ap.b1 h.ap.b2 rfl (by omega) (Nat.le_refl _) h2 (Or.inl ⟨rfl, rfl, hu⟩) h1).mono ?_
      rintro e w' ⟨he, hb, hp, hc⟩
      have := h.bitsAt hb hp hc (by omega) (by omega)
      exact ⟨he, this.1, this.2⟩
  · have e1 : K.bits σ = (⟨σ.now, σ.left - K.dp, σ.a, σ.l, σ.d⟩, some (valB σ.now σ.left K.dp)) := by unfold QK.bits; rw [if_neg hz]
    rw [e1]
    refine (bread_yes K.B K.X (K.sr σ) (K.sr σ) σ.l σ.l σ.now σ.left σ.now σ.left K.dp w h.bt h.pr h.ap.b1 h.ap.b2 rfl h.n8 h.l8 (by omega) (Or.inr ⟨by omega, rfl, rfl, rfl, rfl⟩) h1).mono ?_
    rintro e w' ⟨he, hb, hp, hc⟩
    have hl8 := h.l8
    have := h.bitsAt hb hp hc h.n8 (by omega)
    exact ⟨he, this.1, this.2⟩
def QK.put (K : QK) (σ : QS) (x y : Nat) (c0 c1 c2 c3 : Int) : QS × Bool :=
  if (σ.l.work 1).2 = true then (⟨σ.now, σ.left, σ.a, (σ.l.work 1).1, put4 σ.d (4 * (y * K.r.w + x)) c0 c1 c2 c3⟩, true) else (⟨σ.now, σ.left, σ.a, (σ.l.work 1).1, σ.d⟩, false)
theorem qput_any (N : Nat) (K : QK) (σ : QS) (x y : Nat) (c0 c1 c2 c3 : Int) (w : World) (h : QAt w N K σ) (hx : x < K.r.w) (hy : y < K.r.h)
    (h0 : 0 ≤ c0 ∧ c0 < 256) (h1 : 0 ≤ c1 ∧ c1 < 256) (h2 : 0 ≤ c2 ∧ c2 < 256) (h3 : 0 ≤ c3 ∧ c3 < 256) : Calls Tryz.prog 101 #[.pointer (some ⟨K.R, 0, none⟩), .int .i64 x, .int .i64 y, .agg #[.int .u8 c0, .int .u8 c1, .int .u8 c2, .int .u8 c3]] w fun e w' =>
    e = .returned (.bool (K.put σ x y c0 c1 c2 c3).2) ∧ QAt w' N K (K.put σ x y c0 c1 c2 c3).1 ∧ Chg (qS K) w w' := by
  have ha := h.ap
  obtain ⟨g1, g2, g3, g4, g5⟩ := h.rgl
  have hro : (K.ras σ).op = true := h.op
  have hin : (K.ras σ).inB x y = true := by
    unfold Ras.inB; rw [hro, Bool.true_and, decide_eq_true_iff]
    show 0 ≤ (x : Int) ∧ (x : Int) < K.r.w ∧ 0 ≤ (y : Int) ∧ (y : Int) < K.r.h
    omega
  refine (rset_any K.R (K.ras σ) σ.l x y c0 c1 c2 c3 w h.ras (by rw [show (K.ras σ).L = K.x.L from ha.rl]; exact h.pr.led) h0 h1 h2 h3).mono ?_
  rintro e w' ⟨he, hra, hle, hC⟩
  have hC0 : Chg (fun k => k = K.x.L ∨ k = K.r.b.g) w w' := hC.mono fun k _ hk => by
    rcases hk with hk | hk
    · exact Or.inl (by rw [hk]; exact ha.rl)
    · exact Or.inr hk
  have no : ∀ k, k ≠ K.x.L → k ≠ K.r.b.g → ¬ (k = K.x.L ∨ k = K.r.b.g) := fun k ha hb hh => by rcases hh with hh | hh; exact ha hh; exact hb hh
  have hC2 : Chg (qS K) w w' := hC0.mono fun k _ hk => by
    rcases hk with hk | hk
    · exact Or.inr (Or.inr (Or.inl hk))
    · exact Or.inr (Or.inr (Or.inr hk))
  rw [show (K.ras σ).L = K.x.L from ha.rl] at hle
  have hrest : ∀ l d, LedAt w' K.x.L l → RasAt w' K.R { K.r with b := { K.r.b with d := d } } → QAt w' N K ⟨σ.now, σ.left, σ.a, l, d⟩ := fun l d hl hr =>
    ⟨hC0.obj h.rw_ (no _ ha.n2 ha.n4), hC0.obj h.bt (no _ ha.b2 ha.b3), ⟨h.pr.src.chg hC0 (no _ h.pr.src.ne ha.x1), hl⟩, fun e => (h.pal e).chg hC0 (no _ (ha.p0 e).2.1 (ha.p0 e).2.2.2) (no _ (ha.p1 e).2.1 (ha.p1 e).2.2.2) (no _ (ha.p2 e).2.1 (ha.p2 e).2.2.2), hr, ha, h.op, h.n8, h.l8⟩
  cases hk : (σ.l.work 1).2 with
  | true =>
    have hset : (K.ras σ).set σ.l x y c0 c1 c2 c3 = ((K.ras (K.put σ x y c0 c1 c2 c3).1, (σ.l.work 1).1), true) := by
      unfold Ras.set
      rw [hin, if_neg (by decide), if_neg (by rw [hk]; decide)]
      unfold QK.put
      rw [if_pos hk]
      rfl
    have e1 : K.put σ x y c0 c1 c2 c3 = (⟨σ.now, σ.left, σ.a, (σ.l.work 1).1, put4 σ.d (4 * (y * K.r.w + x)) c0 c1 c2 c3⟩, true) := by unfold QK.put; rw [if_pos hk]
    rw [hset] at he hra hle
    rw [e1] at hra ⊢
    exact ⟨he, hrest _ _ hle hra, hC2⟩
  | false =>
    have hset : (K.ras σ).set σ.l x y c0 c1 c2 c3 = ((K.ras σ, (σ.l.work 1).1), false) := by
      unfold Ras.set
      rw [hin, if_neg (by decide), if_pos hk]
    have e1 : K.put σ x y c0 c1 c2 c3 = (⟨σ.now, σ.left, σ.a, (σ.l.work 1).1, σ.d⟩, false) := by unfold QK.put; rw [if_neg (by rw [hk]; decide)]
    rw [hset] at he hra hle
    rw [e1]
    exact ⟨he, hrest _ _ hle hra, hC2⟩
end Go.Proofs.YtlfbaggcfaenlaaGreat

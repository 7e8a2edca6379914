/- dibrle: a painter as an object; wrong, room, inside; walked. -/
import Derived.Test.YtlfbaggcfaenlaaGreatK23
import Derived.Test.YtlfbaggcfaenlaaGreatK1
import Derived.Test.YtlfbaggcfaenlaaGreatK3
import Derived.Deep.CutRange
import Derived.Test.YtlfbaggcfaenlaaGreatK9
import Derived.Test.YtlfbaggcfaenlaaGreatK2
import Derived.Test.YtlfbaggcfaenlaaGreatK0
namespace Go.Proofs.YtlfbaggcfaenlaaGreat
open Go.RowKit
set_option linter.unusedVariables false
set_option linter.unusedSimpArgs false
structure Pn where
  X : Nat
  P : Nat
  R : Nat
  W : Nat
  H : Nat
  dp : Int
  f : Int
  x : Nat
  y : Nat
  q : Nat → Value
def Pn.cells (n : Pn) : List Value := [.pointer (some ⟨n.X, 0, none⟩), n.q 0, .int .i64 n.W, .int .i64 n.H, n.q 1, .int .i64 n.dp, n.q 2, n.q 3, n.q 4, n.q 5, n.q 6, n.q 7, n.q 8, n.q 9, n.q 10, n.q 11, n.q 12, .pointer (some ⟨n.P, 0, none⟩), .pointer (some ⟨n.R, 0, none⟩), .int .i64 n.f, .int .i64 n.x, .int .i64 n.y]
abbrev PnAt (w : World) (N : Nat) (n : Pn) : Prop := Obj1 w N n.cells.toArray 159
theorem range_chgU {S : Nat → Prop} {w w' : World} {b o : Nat} {L : List Value} (h : w.rangeAt b o L) (hc : Chg S w w') (hlt : b < w.heap.size) (hn : ¬ S b) : w'.rangeAt b o L := fun j v hv => (hc.cell hlt hn).trans (h j v hv)
structure PnApart (N : Nat) (n : Pn) (x : Sr) (p : Pal) (r : Ras) : Prop where
  rl : r.L = x.L
  a1 : N ≠ n.X
  a2 : N ≠ x.L
  a3 : N ≠ n.P
  a4 : N ≠ p.B
  a5 : N ≠ p.b.g
  a6 : N ≠ n.R
  a7 : N ≠ r.B
  a8 : N ≠ r.b.g
  b1 : n.X ≠ r.b.g
  b2 : n.P ≠ r.b.g
  b3 : p.B ≠ r.b.g
  b4 : p.b.g ≠ r.b.g
  c1 : n.P ≠ x.L
  c2 : p.B ≠ x.L
  c3 : p.b.g ≠ x.L
  d1 : n.P ≠ n.X
  d2 : p.B ≠ n.X
  d3 : p.b.g ≠ n.X
  e1 : n.R ≠ n.X
  e2 : r.B ≠ n.X
structure JobAt (w : World) (N : Nat) (n : Pn) (x : Sr) (l : Led) (p : Pal) (r : Ras) : Prop where
  pn : PnAt w N n
  pr : Pair w n.X x l
  pal : PalAt w n.P p
  ras : RasAt w n.R r
  ap : PnApart N n x p r
  op : r.op = true
  rw_ : r.w = n.W
  rh : r.h = n.H
  br : l.br = false
theorem PnApart.keep {N : Nat} {n n' : Pn} {x : Sr} {p : Pal} {r r' : Ras} (h : PnApart N n x p r) (h1 : n'.X = n.X) (h2 : n'.P = n.P) (h3 : n'.R = n.R) (h4 : r'.L = r.L) (h5 : r'.B = r.B) (h6 : r'.b.g = r.b.g) : PnApart N n' x p r' := by
  obtain ⟨a1, a2, a3, a4, a5, a6, a7, a8, a9, a10, a11, a12, a13, a14, a15, a16, a17, a18, a19, a20, a21⟩ := h
  constructor <;> (first | (rw [h1] ; assumption) | (rw [h1, h6]; assumption) | skip) <;> (try rw [h1]) <;> (try rw [h2]) <;> (try rw [h3]) <;> (try rw [h4]) <;> (try rw [h5]) <;> (try rw [h6]) <;> assumption
theorem JobAt.keep {w w' : World} {N : Nat} {n : Pn} {x : Sr} {l : Led} {p : Pal} {r : Ras} (h : JobAt w N n x l p r) (hc : Chg (fun _ => False) w w') : JobAt w' N n x l p r :=
  ⟨hc.obj h.pn (fun h => h), ⟨h.pr.src.chg hc (fun h => h), h.pr.led.chg hc (fun h => h)⟩, h.pal.chg hc (fun h => h) (fun h => h) (fun h => h), h.ras.chg hc (fun h => h) (fun h => h) (fun h => h), h.ap, h.op, h.rw_, h.rh, h.br⟩
structure JK where
  n : Pn
  x : Sr
  p : Pal
  r : Ras
structure JS where
  x : Nat
  y : Nat
  a : Nat
  l : Led
  d : List Int
def JK.pn (K : JK) (σ : JS) : Pn := { K.n with x := σ.x, y := σ.y }
def JK.sr (K : JK) (σ : JS) : Sr := { K.x with p := σ.a }
def JK.ras (K : JK) (σ : JS) : Ras := { K.r with b := { K.r.b with d := σ.d } }
structure JAt (w : World) (N : Nat) (K : JK) (σ : JS) : Prop where
  pn : PnAt w N (K.pn σ)
  pr : Pair w K.n.X (K.sr σ) σ.l
  pal : PalAt w K.n.P K.p
  ras : RasAt w K.n.R (K.ras σ)
  ap : PnApart N K.n K.x K.p K.r
  op : K.r.op = true
  rw_ : K.r.w = K.n.W
  rh : K.r.h = K.n.H
theorem JAt.sw {w : World} {N : Nat} {K : JK} {σ : JS} (h : JAt w N K σ) : K.n.W ≤ 16384 := by
  have h1 : K.r.w ≤ 16384 := h.ras.sw
  have h2 := h.rw_
  omega
theorem JAt.sh {w : World} {N : Nat} {K : JK} {σ : JS} (h : JAt w N K σ) : K.n.H ≤ 16384 := by
  have h1 : K.r.h ≤ 16384 := h.ras.sh
  have h2 := h.rh
  omega
theorem JAt.keep {w w' : World} {N : Nat} {K : JK} {σ : JS} (h : JAt w N K σ) (hc : Chg (fun _ => False) w w') : JAt w' N K σ :=
  ⟨hc.obj h.pn (fun h => h), ⟨h.pr.src.chg hc (fun h => h), h.pr.led.chg hc (fun h => h)⟩, h.pal.chg hc (fun h => h) (fun h => h) (fun h => h), h.ras.chg hc (fun h => h) (fun h => h) (fun h => h), h.ap, h.op, h.rw_, h.rh⟩
structure JLt (N : Nat) (K : JK) (b : Nat) : Prop where
  n : N < b
  x : K.n.X < b
  l : K.x.L < b
  p : K.n.P < b
  pb : K.p.B < b
  pg : K.p.b.g < b
  r : K.n.R < b
  rb : K.r.B < b
  rg : K.r.b.g < b
theorem JAt.jlt {w : World} {N : Nat} {K : JK} {σ : JS} (h : JAt w N K σ) : JLt N K w.heap.size :=
  ⟨h.pn.lt, h.pr.src.lt, h.pr.led.lt, h.pal.lt, h.pal.buf.lt, h.pal.buf.glt h.pal.opn, h.ras.lt, h.ras.buf.lt, h.ras.buf.glt (h.ras.opn.trans h.op)⟩
theorem JLt.mono {N : Nat} {K : JK} {a b : Nat} (h : JLt N K a) (hb : a ≤ b) : JLt N K b := by
  obtain ⟨h1, h2, h3, h4, h5, h6, h7, h8, h9⟩ := h
  constructor <;> omega
theorem JAt.far {w w' : World} {N : Nat} {K : JK} {σ : JS} {S : Nat → Prop} {b : Nat} (h : JAt w N K σ) (hl : JLt N K b) (hc : Chg S w w') (hS : ∀ k, S k → b ≤ k) : JAt w' N K σ := by
  have no : ∀ k, k < b → ¬ S k := fun k hk hs => by have := hS k hs; omega
  exact ⟨hc.obj h.pn (no _ hl.n), ⟨h.pr.src.chg hc (no _ hl.x), h.pr.led.chg hc (no _ hl.l)⟩, h.pal.chg hc (no _ hl.p) (no _ hl.pb) (no _ hl.pg), h.ras.chg hc (no _ hl.r) (no _ hl.rb) (no _ hl.rg), h.ap, h.op, h.rw_, h.rh⟩
theorem JAt.stored {w w' : World} {N : Nat} {K : JK} {σ : JS} {b o c : Nat} {vs : List Value} (h : JAt w N K σ) (hl : JLt N K c) (hst : Stored w b o vs w') (hb : c ≤ b) : JAt w' N K σ :=
  h.far hl (Stored.chgS (S := fun k => k = b) hst (Chg.refl _ _) (Or.inl rfl)) (fun k hk => by rw [hk]; exact hb)
theorem JAt.below {w w' : World} {N : Nat} {K : JK} {σ : JS} (h : JAt w N K σ) (hb : Below w.heap.size w w') : JAt w' N K σ := h.keep (chg_of_below hb _)
theorem JAt.drewN {w : World} {N : Nat} {K : JK} {σ : JS} (h : JAt w N K σ) (n : Nat) : JAt (w.drewN n) N K σ := h.keep ((Chg.refl _ _).drewN n)
theorem JAt.drew {w : World} {N : Nat} {K : JK} {σ : JS} (h : JAt w N K σ) : JAt w.drew N K σ := h.keep (Chg.refl _ _).drew
theorem JAt.alloc {w : World} {N : Nat} {K : JK} {σ : JS} (h : JAt w N K σ) (o : Obj) : JAt (w.alloc o) N K σ := h.keep ((Chg.refl _ _).alloc o)
theorem JAt.cell {w : World} {N : Nat} {K : JK} {σ : JS} (h : JAt w N K σ) (i : Nat) (v : Value) (hv : (K.pn σ).cells[i]? = some v) : w.cell? ⟨N, i, none⟩ = some v := (Obj1.cell h.pn i).trans (by simpa using hv)
def fc (f : Int) (t : Int × Int) : List Value := [.int .i64 t.1, .int .i64 (if t.1 = 0 then 0 else f), .int .i64 t.2]
theorem fc_len (f : Int) (t : Int × Int) : (fc f t).length = 3 := rfl
theorem fc_one (f : Int) (t : Int × Int) : (fc f t).all (·.oneCell') = true := rfl
def ftv (f : Int) (t : Int × Int) : Value := .agg (fc f t).toArray
def JK.ft (K : JK) (l : Led) (a : Nat) : Int × Int := if l.br = true then (4, a) else (1, K.x.e)
def JK.put (K : JK) (σ : JS) (c0 c1 c2 c3 : Int) : JS × (Int × Int) :=
  if (σ.l.work 1).2 = true then (⟨σ.x + 1, σ.y, σ.a, (σ.l.work 1).1, put4 σ.d (4 * ((K.n.H - 1 - σ.y) * K.n.W + σ.x)) c0 c1 c2 c3⟩, (0, 0)) else
  (⟨σ.x, σ.y, σ.a, (σ.l.work 1).1, σ.d⟩, K.ft (σ.l.work 1).1 σ.a)
def JK.ins (K : JK) (σ : JS) (a : Int) : Int × Int := if K.n.W < σ.x ∨ K.n.H < σ.y then (2, a) else (0, 0)
def JK.next (K : JK) (σ : JS) (n : Nat) : JS × (ByteArray × Bool) :=
  if (σ.l.work 1).2 = true ∧ n ≤ K.x.e - σ.a then (⟨σ.x, σ.y, σ.a + n, (σ.l.work 1).1, σ.d⟩, (K.x.s.extract σ.a (σ.a + n), true)) else (⟨σ.x, σ.y, σ.a, (σ.l.work 1).1, σ.d⟩, (ByteArray.empty, false))
theorem num_one (s : ByteArray) (p : Nat) (h : p < s.size) : numB (s.extract p (p + 1)) true = byN s p := by
  have hz : (s.extract p (p + 1)).size = 1 := by rw [ByteArray.size_extract]; omega
  unfold numB
  rw [if_pos rfl, hz]
  show (0 : Int) + byN (s.extract p (p + 1)) 0 * 2 ^ 0 = _
  have : byN (s.extract p (p + 1)) 0 = byN s p := by
    rw [← byN_get _ 0 (by omega), ← byN_get s p h]
    congr 2
    rw [ByteArray.getElem_extract]; rfl
  rw [this]; simp
theorem size10_4 (w : World) : Calls Tryz.prog 160 #[.int .i64 4] w fun e w' => e = .returned (.int .i64 4) ∧ w' = w := by
  go_enter Tryz.func160, Tryz.ntmps160
  go_wp2
  go_ret
  exact ⟨rfl, rfl⟩
theorem size10_3 (w : World) : Calls Tryz.prog 160 #[.int .i64 3] w fun e w' => e = .returned (.int .i64 3) ∧ w' = w := by
  go_enter Tryz.func160, Tryz.ntmps160
  go_wp2
  go_ret
  exact ⟨rfl, rfl⟩
def entR (b d : Int) (i : Nat) : Int := if d = 8 then b else if i % 2 = 0 then b / 16 else b % 16
def bad13 (k a : Int) : List Value := [.int .i64 0, .int .i64 0, .slice none 0 0, .int .i64 k, .int .i64 a]
theorem bad13_any (k a : Int) (w : World) : Calls Tryz.prog 93 #[.int .i64 k, .int .i64 a] w fun e w' => e = .returned (.agg (List.toArray (bad13 k a))) ∧ Below w.heap.size w w' := by
  go_enter Tryz.func93, Tryz.ntmps93
  go_wp2
  refine bodyPost_ret (v := .agg (List.toArray (bad13 k a))) ?_ rfl ⟨rfl, (Below.refl _ _).alloc (Nat.le_refl _) _⟩
  exact results_c Tryz.results93 _ _ _ (bad13 k a) _ rfl (Obj1.range0 (cs := (bad13 k a)) (obj1_new w _ _)) Tryz.underlying59 rfl (by kernel_rfl)
def JK.putE (K : JK) (σ : JS) (e : Int) : JS × (Int × Int) := K.put σ (byN (K.p.ent e.toNat) 0) (byN (K.p.ent e.toNat) 1) (byN (K.p.ent e.toNat) 2) (byN (K.p.ent e.toNat) 3)
def JK.byteL (K : JK) (v pl : Int) : Nat → Nat → JS → JS × (Int × Int)
  | 0, i, σ => (σ, (0, 0))
  | c + 1, i, σ => if K.p.has (entR v K.n.dp i) = false then (σ, (2, pl)) else
      if (K.putE σ (entR v K.n.dp i)).2.1 = 0 then K.byteL v pl c (i + 1) (K.putE σ (entR v K.n.dp i)).1 else K.putE σ (entR v K.n.dp i)
def JK.putsL (K : JK) (es : Nat → Int) : Nat → Nat → JS → JS × (Int × Int)
  | 0, i, σ => (σ, (0, 0))
  | c + 1, i, σ => if (K.putE σ (es i)).2.1 = 0 then K.putsL es c (i + 1) (K.putE σ (es i)).1 else K.putE σ (es i)
def JK.runL (K : JK) (e0 e1 : Int) : Nat → Nat → JS → JS × (Int × Int) := K.putsL fun i => if i % 2 = 0 then e0 else e1
def JK.room (K : JK) (σ : JS) (n : Nat) : Prop := σ.y < K.n.H ∧ σ.x + n ≤ K.n.W
instance (K : JK) (σ : JS) (n : Nat) : Decidable (K.room σ n) := by unfold JK.room; infer_instance
def JK.run (K : JK) (σ : JS) (n : Nat) (v a : Int) : JS × (Int × Int) :=
  if ¬ K.room σ n then (σ, (2, a)) else
  if K.p.has (entR v K.n.dp 0) = false ∨ K.p.has (entR v K.n.dp (if n = 1 then 0 else 1)) = false then (σ, (2, a + 1)) else
  K.runL (entR v K.n.dp 0) (entR v K.n.dp (if n = 1 then 0 else 1)) n 0 σ
def JK.each (K : JK) : Nat := (8 / K.n.dp).toNat
def JK.plainL (K : JK) : Nat → Nat → JS → JS × (Int × Int)
  | 0, c, σ => (σ, (0, 0))
  | m + 1, c, σ => if (K.next σ 1).2.2 = false then ((K.next σ 1).1, K.ft (K.next σ 1).1.l (K.next σ 1).1.a) else
      if (K.byteL (byN K.x.s σ.a) σ.a (min K.each c) 0 (K.next σ 1).1).2.1 = 0 then K.plainL m (c - K.each) (K.byteL (byN K.x.s σ.a) σ.a (min K.each c) 0 (K.next σ 1).1).1 else K.byteL (byN K.x.s σ.a) σ.a (min K.each c) 0 (K.next σ 1).1
def JK.bytes (K : JK) (n : Nat) : Nat := (n + K.each - 1) / K.each
def JK.plain (K : JK) (σ : JS) (n : Nat) (a : Int) : JS × (Int × Int) :=
  if ¬ K.room σ n then (σ, (2, a)) else
  if (K.plainL (K.bytes n) n σ).2.1 = 0 then
    (if K.bytes n % 2 = 1 then (if (K.next (K.plainL (K.bytes n) n σ).1 1).2.2 = false then ((K.next (K.plainL (K.bytes n) n σ).1 1).1, K.ft (K.next (K.plainL (K.bytes n) n σ).1 1).1.l (K.next (K.plainL (K.bytes n) n σ).1 1).1.a) else ((K.next (K.plainL (K.bytes n) n σ).1 1).1, (0, 0))) else ((K.plainL (K.bytes n) n σ).1, (0, 0)))
  else K.plainL (K.bytes n) n σ
def JK.move (K : JK) (σ : JS) (x y : Nat) (a : Int) : JS × (Int × Int) := (⟨x, y, σ.a, σ.l, σ.d⟩, K.ins ⟨x, y, σ.a, σ.l, σ.d⟩ a)
def JK.leap (K : JK) (σ : JS) (a : Int) : JS × (Int × Int) :=
  if (K.next σ 2).2.2 = false then ((K.next σ 2).1, K.ft (K.next σ 2).1.l (K.next σ 2).1.a) else
  K.move (K.next σ 2).1 (σ.x + (byN K.x.s σ.a).toNat) (σ.y + (byN K.x.s (σ.a + 1)).toNat) a
def JK.cmd (K : JK) (σ : JS) (n v a : Int) : JS × (Int × Int) :=
  if 0 < n then K.run σ n.toNat v a else if v = 0 then K.move σ 0 (σ.y + 1) a else if v = 2 then K.leap σ a else K.plain σ v.toNat a
def JK.read (K : JK) : Nat → JS → JS × (Int × Int)
  | 0, σ => (σ, (0, 0))
  | f + 1, σ => if (K.next σ 2).2.2 = false then ((K.next σ 2).1, K.ft (K.next σ 2).1.l (K.next σ 2).1.a) else
      if byN K.x.s σ.a = 0 ∧ byN K.x.s (σ.a + 1) = 1 then ((K.next σ 2).1, (0, 0)) else
      if (K.cmd (K.next σ 2).1 (byN K.x.s σ.a) (byN K.x.s (σ.a + 1)) σ.a).2.1 = 0 then K.read f (K.cmd (K.next σ 2).1 (byN K.x.s σ.a) (byN K.x.s (σ.a + 1)) σ.a).1 else
      K.cmd (K.next σ 2).1 (byN K.x.s σ.a) (byN K.x.s (σ.a + 1)) σ.a
/-! ### what it costs -/
def LW (l l' : Led) (k : Nat) : Prop := l' = { l with st := l.st + k } ∨ (l' = ({ l with st := l.st + k } : Led).refuse 3 1 ∧ l.st + k = l.mx)
theorem LW.refl (l : Led) : LW l l 0 := Or.inl (by simp)
theorem LW.one {l : Led} (hb : l.br = false) (ho : l.ok) : ((l.work 1).2 = true ∧ LW l (l.work 1).1 1 ∧ (l.work 1).1.br = false) ∨ ((l.work 1).2 = false ∧ LW l (l.work 1).1 0 ∧ (l.work 1).1.br = true) := by
  have h1 := ho.s1
  unfold Led.work
  rw [if_neg (by rw [hb]; decide)]
  by_cases h : (1 : Int) < 0 ∨ l.mx - l.st < 1
  · rw [if_pos h]; exact Or.inr ⟨rfl, Or.inr ⟨by simp, by omega⟩, rfl⟩
  · rw [if_neg h]; exact Or.inl ⟨rfl, Or.inl (by simp), hb⟩
theorem LW.trans {l l1 l2 : Led} {j k : Nat} (h : LW l l1 j) (hb : l1.br = false) (g : LW l1 l2 k) : LW l l2 (j + k) := by
  rcases h with h | ⟨h, h'⟩
  · subst h
    rcases g with g | ⟨g, g'⟩
    · left; rw [g]; simp; omega
    · right
      refine ⟨?_, by show l.st + ((j + k : Nat) : Int) = l.mx; have : l.st + j + k = l.mx := g'; omega⟩
      rw [g]; unfold Led.refuse; simp; omega
  · rw [h] at hb; cases hb
theorem LW.ok {l l' : Led} {k : Nat} (h : LW l l' k) (ho : l.ok) (hk : l.st + k ≤ l.mx) : l'.ok := by
  obtain ⟨a, b, c, d, e, f⟩ := ho
  rcases h with h | ⟨h, h'⟩
  · subst h; exact ⟨a, b, c, by show 0 ≤ l.st + k; omega, hk, f⟩
  · subst h; exact ⟨a, b, c, by show 0 ≤ l.st + k; omega, hk, f⟩
def JK.pot (K : JK) (σ : JS) : Nat := min (σ.y * K.n.W + σ.x) (K.n.H * K.n.W)
structure Cost (K : JK) (σ : JS) (q : JS × (Int × Int)) (c : Nat) : Prop where
  ok : q.1.l.ok
  lw : ∃ k, LW σ.l q.1.l k ∧ k + σ.a + K.pot σ ≤ q.1.a + K.pot q.1 + c
  a0 : σ.a ≤ q.1.a
  a1 : q.1.a ≤ K.x.e
  br : q.1.l.br = true → q.2.1 = 4 ∧ 0 ≤ q.2.2 ∧ q.2.2 ≤ K.x.e
  len : q.1.d.length = σ.d.length
theorem Cost.trans {K : JK} {σ τ : JS} {t : Int × Int} {q : JS × (Int × Int)} {c c' : Nat} (h : Cost K σ (τ, t) c) (hb : τ.l.br = false) (g : Cost K τ q c') : Cost K σ q (c + c') := by
  obtain ⟨k1, l1, b1⟩ := h.lw
  obtain ⟨k2, l2, b2⟩ := g.lw
  have := h.a0
  have := g.a0
  simp only at b1 b2 l1
  exact ⟨g.ok, ⟨k1 + k2, l1.trans hb l2, by omega⟩, by simp only at *; omega, g.a1, g.br, g.len.trans h.len⟩
theorem Cost.mono {K : JK} {σ : JS} {q : JS × (Int × Int)} {c c' : Nat} (h : Cost K σ q c) (hc : c ≤ c') : Cost K σ q c' := by
  obtain ⟨k1, l1, b1⟩ := h.lw
  exact ⟨h.ok, ⟨k1, l1, by omega⟩, h.a0, h.a1, h.br, h.len⟩
theorem Cost.stay {K : JK} {σ : JS} (ho : σ.l.ok) (hb : σ.l.br = false) (ha : σ.a ≤ K.x.e) (t : Int × Int) : Cost K σ (σ, t) 0 :=
  ⟨ho, ⟨0, LW.refl _, by simp only; omega⟩, Nat.le_refl _, ha, (fun h => by rw [hb] at h; cases h), rfl⟩
end Go.Proofs.YtlfbaggcfaenlaaGreat

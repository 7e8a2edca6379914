/- Parts. -/
import Derived.Test.YtfchnibjjokmbaaGreatK27
set_option linter.all false
set_option maxRecDepth 100000
set_option maxHeartbeats 16000000
open Go.Value renaming int → J, pointer → Y
open Go.IntKind renaming i64 → I, u8 → U
namespace Go.Proofs.YtfchnibjjokmbaaGreat
open Go.RowKit
def tblankB (b : Int) : Bool := decide (b = 32 ∨ (9 ≤ b ∧ b ≤ 13))
def endB (b : Int) : Bool := decide (b = 10 ∨ b = 13)
def Sr.ftc (x : Sr) (l : Led) : Int × Int := if l.br = true then (4, x.p) else (1, x.e)
abbrev SL := Sr × Led
def overM : Nat → Sr → Led → Bool → SL × (Int × Int)
 | 0, x, l, _ => ((x, l), (0, 0))
 | f + 1, x, l, rm =>
   if (x.next l 1).2.2 = false then ((x.next l 1).1, if (x.next l 1).1.2.br = true then (x.next l 1).1.1.ftc (x.next l 1).1.2 else (0, 0))
   else if rm = true then overM f (x.next l 1).1.1 (x.next l 1).1.2 (!endB (aG x.s x.p))
   else if aG x.s x.p = 35 then overM f (x.next l 1).1.1 (x.next l 1).1.2 true
   else if tblankB (aG x.s x.p) = true then overM f (x.next l 1).1.1 (x.next l 1).1.2 false
   else ((x, (x.next l 1).1.2), (0, 0))
def Sr.fu (x : Sr) : Nat := x.e + 1 - x.p
def Sr.over (x : Sr) (l : Led) : SL × (Int × Int) := overM x.fu x l false
def digitsM : Nat → Sr → Led → Int → SL × (Int × (Int × Int))
 | 0, x, l, v => ((x, l), (v, (0, 0)))
 | f + 1, x, l, v =>
   if x.e ≤ x.p then ((x, l), (v, (0, 0)))
   else if (x.next l 1).2.2 = false then ((x.next l 1).1, (0, (x.next l 1).1.1.ftc (x.next l 1).1.2))
   else if aG x.s x.p < 48 ∨ 57 < aG x.s x.p then ((x, (x.next l 1).1.2), (v, (0, 0)))
   else digitsM f (x.next l 1).1.1 (x.next l 1).1.2 (min (10 * v + aG x.s x.p - 48) 1000000000)
def Sr.digits (x : Sr) (l : Led) (v : Int) : SL × (Int × (Int × Int)) := digitsM x.fu x l v
def Sr.first (x : Sr) (l : Led) : SL × ((Int × Int) × (Int × Int)) :=
 if (x.over l).2.1 ≠ 0 then ((x.over l).1, ((0, 0), (x.over l).2))
 else if ((x.over l).1.1.next (x.over l).1.2 1).2.2 = false then (((x.over l).1.1.next (x.over l).1.2 1).1, ((0, 0), ((x.over l).1.1.next (x.over l).1.2 1).1.1.ftc ((x.over l).1.1.next (x.over l).1.2 1).1.2))
 else (((x.over l).1.1.next (x.over l).1.2 1).1, ((aG x.s (x.over l).1.1.p, (x.over l).1.1.p), (0, 0)))
def Sr.number (x : Sr) (l : Led) : SL × ((Int × Int) × (Int × Int)) :=
 if (x.first l).2.2.1 ≠ 0 then ((x.first l).1, ((0, 0), (x.first l).2.2))
 else if (x.first l).2.1.1 < 48 ∨ 57 < (x.first l).2.1.1 then ((x.first l).1, ((0, 0), (2, (x.first l).2.1.2)))
 else if ((x.first l).1.1.digits (x.first l).1.2 ((x.first l).2.1.1 - 48)).2.2.1 ≠ 0 then (((x.first l).1.1.digits (x.first l).1.2 ((x.first l).2.1.1 - 48)).1, ((0, 0), ((x.first l).1.1.digits (x.first l).1.2 ((x.first l).2.1.1 - 48)).2.2))
 else (((x.first l).1.1.digits (x.first l).1.2 ((x.first l).2.1.1 - 48)).1, ((((x.first l).1.1.digits (x.first l).1.2 ((x.first l).2.1.1 - 48)).2.1, (x.first l).2.1.2), (0, 0)))
def Sr.one (x : Sr) (l : Led) : SL × (Int × Int) :=
 if (x.next l 1).2.2 = false then ((x.next l 1).1, (x.next l 1).1.1.ftc (x.next l 1).1.2)
 else if tblankB (aG x.s x.p) = false then ((x.next l 1).1, (2, x.p))
 else ((x.next l 1).1, (0, 0))
/-! ### a byte -/
theorem Pair.drN {w : World} {X : Nat} {x : Sr} {l : Led} (h : Pair w X x l) (n : Nat) : Pair (w.drewN n) X x l := ⟨h.src.drewN n, h.led.drewN n⟩
structure Rdr (d : Nat) (w : World) (X : Nat) (x y : Sr) (m : Led) : Prop where
 pr : Pair w X y m
 eL : y.L = x.L
 es : y.s = x.s
 eb : y.b = x.b
 ee : y.e = x.e
 lX : X < d
 lL : x.L < d
theorem Rdr.upon {d : Nat} {w w' : World} {X : Nat} {x y : Sr} {m : Led} (h : Rdr d w X x y m) (hb : Below w.heap.size w w') : Rdr d w' X x y m := ⟨h.pr.upon hb h.pr.src.lt h.pr.led.lt, h.eL, h.es, h.eb, h.ee, h.lX, h.lL⟩
theorem Rdr.into {d b o : Nat} {vs : List Value} {w w' : World} {X : Nat} {x y : Sr} {m : Led} (h : Rdr d w X x y m) (hst : Stored w b o vs w') (hb : d ≤ b) : Rdr d w' X x y m :=
 ⟨h.pr.into hst (by have := h.lX; omega) (by have := h.lL; have := h.eL; omega), h.eL, h.es, h.eb, h.ee, h.lX, h.lL⟩
theorem Rdr.alloc {d : Nat} {w : World} {X : Nat} {x y : Sr} {m : Led} (h : Rdr d w X x y m) (o : Obj) : Rdr d (w.alloc o) X x y m := ⟨h.pr.alloc o, h.eL, h.es, h.eb, h.ee, h.lX, h.lL⟩
theorem Rdr.drewN {d : Nat} {w : World} {X : Nat} {x y : Sr} {m : Led} (h : Rdr d w X x y m) (n : Nat) : Rdr d (w.drewN n) X x y m := ⟨h.pr.drN n, h.eL, h.es, h.eb, h.ee, h.lX, h.lL⟩
theorem Rdr.drew1 {d : Nat} {w : World} {X : Nat} {x y : Sr} {m : Led} (h : Rdr d w X x y m) : Rdr d w.drew X x y m := ⟨h.pr.drew1, h.eL, h.es, h.eb, h.ee, h.lX, h.lL⟩
theorem not_twoR {d k : Nat} {w : World} {X : Nat} {x y : Sr} {m : Led} (h : Rdr d w X x y m) (hk : d ≤ k) : ¬ two X x k := fun hh => by
 have h1 := h.lX
 have h2 := h.lL
 rcases hh with hh | hh <;> omega
theorem Rdr.of {w : World} {X : Nat} {x : Sr} {m : Led} (h : Pair w X x m) : Rdr w.heap.size w X x x m := ⟨h, rfl, rfl, rfl, rfl, h.src.lt, h.led.lt⟩
theorem Rdr.self {d : Nat} {w : World} {X : Nat} {x y : Sr} {m : Led} (h : Rdr d w X x y m) : Rdr w.heap.size w X x y m := ⟨h.pr, h.eL, h.es, h.eb, h.ee, h.pr.src.lt, by have := h.pr.led.lt; rw [h.eL] at this; exact this⟩
theorem Rdr.to {d d' : Nat} {w w' : World} {X : Nat} {x y y' : Sr} {m m' : Led} (h : Rdr d' w' X x y' m') (k : Rdr d w X x y m) : Rdr d w' X x y' m' := ⟨h.pr, h.eL, h.es, h.eb, h.ee, k.lX, k.lL⟩
theorem Rdr.by {d : Nat} {w w' : World} {X : Nat} {x y : Sr} {m m' : Led} (h : Rdr d w X x y m) (p : Nat) (hp : Pair w' X { y with p := p } m') (hc : Chg (two X y) w w') : Rdr d w' X x { y with p := p } m' ∧ Chg (two X x) w w' :=
 ⟨⟨hp, h.eL, h.es, h.eb, h.ee, h.lX, h.lL⟩, hc.mono (fun k _ hk => hk.elim Or.inl fun hk => Or.inr (hk.trans h.eL))⟩
theorem rd_at {d : Nat} {w : World} {X : Nat} {x y : Sr} {m : Led} (h : Rdr d w X x y m) : Calls Tryz.prog 23 #[Y (some ⟨X, 0, none⟩)] w fun e w' => e = .returned (J I (y.p : Int)) ∧ w = w' := at_any X y w h.pr.src
abbrev RdPost (d : Nat) (w : World) (X : Nat) (x : Sr) (q : SL) (v : Value) (e : Ending) (w' : World) : Prop := e = .returned v ∧ Rdr d w' X x q.1 q.2 ∧ Chg (two X x) w w'
theorem rs_1c {P : Program} {fn : Func} {p q : Tmp} {ty : TypeId} (h : fn.results = #[.tmp p, .cell q ty]) (tmps : Array Value) (w : World) (b : Nat) (cs : List Value) (d : TypeDesc)
 (hp : tmps.getD q undef = Y (some ⟨b, 0, none⟩)) (R : w.rangeAt b 0 cs) (hu : P.underlying ty = some d) (hd : d.isRow = true) (hi : (P.info? ty).map (·.size) = some cs.length) :
 (results fn tmps).run P w = .ok (.tuple #[tmps.getD p undef, .agg cs.toArray]) w := by
 have hp' : tmps[q]?.getD undef = Y (some ⟨b, 0, none⟩) := by simpa using hp
 simp [results, h, hp', asAddr, run_loadVar_mid w b 0 ty cs d R hu hd hi]
theorem store_c {P : Program} {ops : Array Oper} {rest : List Oper} {op : Oper} {a : Act} {w : World} {Q : Exit → Act → World → Prop} (hgd : op.guard = none) (ty : TypeId) (x y : Operand) (ho : op.op = .store ty x y)
 (b o : Nat) (v : Value) (hc : v.cells = #[v]) (h1 : v.oneCell' = true) (hx : a.eval x = Y (some ⟨b, o, none⟩)) (hy : a.eval y = v) (hi : (P.info? ty).map (·.size) = some 1) {cs cs' : Array Value} {T : TypeId} (hO : Obj1 w b cs T) (hs : o < cs.size) (hcs : cs.setIfInBounds o v = cs')
 (h : ∀ w2, Stored w b o [v] w2 → Obj1 w2 b cs' T → wpList P ops Q rest (a.put op.dst undef) w2) : wpList P ops Q (op :: rest) a w := by
 refine wpList_plain hgd fun K hK => ?_
 have ht : w.there b o 1 := hO.there o 1 hs
 have hrun : (storeVar ty ⟨b, o, none⟩ v).run P w = .ok () (w.setCells b o [v]) := by
  have := run_storeCells_cells (P := P) b o [v] 0 w (fun j hj => by simpa using (ht j (by simpa using hj)).1) (fun j hj => by simpa using (ht j (by simpa using hj)).2)
   (fun u hu => by rw [List.mem_singleton] at hu; rw [hu]; exact h1)
  cases hq : P.info? ty with
  | none => simp [hq] at hi
  | some i =>
    have hsz : i.size = 1 := by simpa [hq] using hi
    simp only [Nat.add_zero] at this
    simp [storeVar, sizeOf, typeInfo, hq, hc, hsz, this]
 have hst : Stored w b o [v] (w.setCells b o [v]) := rfl
 have hO2 := hst.obj hO
 rw [show setL cs o [v] = cs.setIfInBounds o v from rfl, hcs] at hO2
 unfold Oper.wp execOp
 simp only [ho, hx, hy, Instr.storeAt, Instr.sureAddr, Sem.run_bind, Sem.run_pure, Result.andThen_ok, hrun]
 exact hK _ _ (h _ hst hO2)
theorem rfree_any (R : Nat) (r : Ras) (l : Led) (w : World) (h : RasAt w R r) (ho : r.op = true) (hl : LedAt w r.L l) : Calls Tryz.prog 39 #[Y (some ⟨R, 0, none⟩)] w fun e w' =>
 (∃ b, e = .returned (.bool b)) ∧ LedAt w' r.L (l.give (4 * (r.w * r.h) : Nat)).1 ∧ Chg (fun k => k = R ∨ k = r.B ∨ k = r.L) w w' := by
 have HFR := Hi (fun w0 (hB : BufAt w0 r.B r.b) (hD : LedAt w0 r.b.L l) => (bfree_any r.B r.b l w0 hB hD).mono (R' := fun e w' => (∃ b, e = .returned (.bool b)) ∧ LedAt w' r.L (l.give (4 * (r.w * r.h) : Nat)).1 ∧ Chg (fun k => k = r.B ∨ k = r.L) w0 w') fun e w' hh => by
  rw [h.opn.trans ho, if_pos rfl, h.len, h.bl] at hh
  exact ⟨⟨_, hh.1⟩, hh.2.2.1, hh.2.2.2⟩)
 have HH := Hi h
 have HL := Hi hl
 have OR := Hi (show Obj1 w R (List.toArray [Y (some ⟨r.L, 0, none⟩), J I r.w, J I r.h, Y (some ⟨r.B, 0, none⟩), .bool true]) 122 from by have := h.obj; unfold Ras.cells at this; rw [ho] at this; exact this)
 have c4 := (OR.out.cell 4).trans (show _ = some (.bool true) from rfl)
 clear h ho hl
 go_enter Tryz.func39, Tryz.ntmps39
 go_upto_region 4 with (refine store_c rfl 4 _ _ rfl R 4 (.bool false) rfl rfl (by kernel_rfl) (by kernel_rfl) (by kernel_rfl) OR.out (show 4 < 5 by decide) (cs' := List.toArray [Y (some ⟨r.L, 0, none⟩), J I r.w, J I r.h, Y (some ⟨r.B, 0, none⟩), .bool false]) rfl ?_; intro ws hst hO)
 have hS := Stored.chgS (S := fun k => k = R) hst (Chg.refl _ _) (Or.inl rfl)
 have c3 := (hO.cell 3).trans (show _ = some (Y (some ⟨r.B, 0, none⟩)) from rfl)
 have HB2 := Hi (HH.out.buf.chg hS (fun e => HH.out.nb e.symm) (fun e => HH.out.ng e.symm))
 have HL2 := Hi (HL.out.chg hS (fun e => HH.out.nl e.symm))
 have HS := Hi hS
 clear hst hO hS c4
 go_wp2_with ((go_at_call 89; (with_reducible refine (HFR.out _ HB2.out (by rw [HH.out.bl]; exact HL2.out)).mono ?_); rintro e w1 ⟨⟨bb, rfl⟩, hL1, hC1⟩))
 go_ret
 exact ⟨⟨_, rfl⟩, hL1, (HS.out.mono (fun k _ hk => Or.inl hk)).trans (hC1.mono (fun k _ hk => Or.inr hk))⟩
def ai (l : Led) (W H : Int) : Led × Bool :=
 if ¬ ((1 ≤ W ∧ W ≤ 16384) ∧ (1 ≤ H ∧ H ≤ 16384)) then (l, false) else if (l.sides W H).2 = false then ((l.sides W H).1, false) else (l.sides W H).1.take (W.toNat * H.toNat * 4 : Nat)
theorem rasnew_two (L : Nat) (l : Led) (W H : Int) (w : World) (h : LedAt w L l) : Calls Tryz.prog 35 #[Y (some ⟨L, 0, none⟩), J I W, J I H] w fun e w' =>
 LedAt w' L (ai l W H).1 ∧ Chg (fun k => k = L) w w' ∧ (if (ai l W H).2 = false then ∃ c : Int, c ≠ 0 ∧ e = .returned (.tuple #[Y none, J I c]) else
  ∃ R B g, e = .returned (.tuple #[Y (some ⟨R, 0, none⟩), J I 0]) ∧ RasAt w' R ⟨L, W.toNat, H.toNat, B, true, ⟨L, g, aI (W.toNat * H.toNat * 4), true⟩⟩ ∧ w.heap.size ≤ R ∧ w.heap.size ≤ B ∧ w.heap.size ≤ g) := by
 refine (rasnew_any L l W H w h).mono ?_
 rintro e w' ⟨hh, hc⟩
 unfold ai
 by_cases h1 : ¬ ((1 ≤ W ∧ W ≤ 16384) ∧ (1 ≤ H ∧ H ≤ 16384))
 · rw [if_pos h1] at hh ⊢
   exact ⟨hh.2, hc, by rw [if_pos rfl]; exact ⟨2, by decide, hh.1⟩⟩
 rw [if_neg h1] at hh ⊢
 by_cases h2 : (l.sides W H).2 = false
 · rw [if_pos h2] at hh ⊢
   exact ⟨hh.2, hc, by rw [if_pos rfl]; exact ⟨4, by decide, hh.1⟩⟩
 rw [if_neg h2] at hh ⊢
 by_cases h3 : ((l.sides W H).1.take (W.toNat * H.toNat * 4 : Nat)).2 = false
 · rw [if_pos h3] at hh
   exact ⟨hh.2, hc, by rw [if_pos h3]; exact ⟨4, by decide, hh.1⟩⟩
 · rw [if_neg h3] at hh
   obtain ⟨R, B, g, a1, a2, a3, a4, a5, a6⟩ := hh
   exact ⟨a2, hc, by rw [if_neg h3]; exact ⟨R, B, g, a1, a3, a4, a5, a6⟩⟩
def BodyEnd (X L : Nat) (W H f : Int) (Rel : Sr → Led → Option (List Int) → Int × Int → Prop) (w : World) (e : Ending) (w' : World) : Prop :=
 ∃ y m o t, Pair w' X y m ∧ y.L = L ∧ Chg (fun k => k = X ∨ k = L) w w' ∧ Rel y m o t ∧ (match o with
  | none => e = .returned (.tuple #[Y none, .agg (fc f t).toArray])
  | some d => ∃ R B g, e = .returned (.tuple #[Y (some ⟨R, 0, none⟩), .agg (fc f (0, 0)).toArray]) ∧ RasAt w' R ⟨L, W.toNat, H.toNat, B, true, ⟨L, g, d, true⟩⟩ ∧ w.heap.size ≤ R ∧ w.heap.size ≤ B ∧ w.heap.size ≤ g)
def BodyRel (x : Sr) (l : Led) (W H : Int) (PR : Sr → Led → List Int → Int × Int → Prop) (y : Sr) (m : Led) (o : Option (List Int)) (t : Int × Int) : Prop :=
 ((ai l W H).2 = false ∧ y = x ∧ m = (ai l W H).1 ∧ o = none ∧ t = x.ftc (ai l W H).1) ∨
 ((ai l W H).2 = true ∧ ∃ m2 d, PR y m2 d t ∧ ((t.1 = 0 ∧ o = some d ∧ m = m2) ∨ (t.1 ≠ 0 ∧ o = none ∧ m = (m2.give (4 * (W.toNat * H.toNat) : Nat)).1)))
theorem body_any (sz W H : Int) (top : Bool) (dp mt co k0 k1 k2 k3 k4 k5 k6 k7 fr : Int) (at_ f : Int) (X L : Nat) (x : Sr) (l : Led) (TR : Option (Nat × Pal) → Sr → Led → Int × Int → Prop) (BR : Option (Nat × Pal) → Sr → Led → Sr → Led → List Int → Int × Int → Prop) (w : World)
 (hx : Pair w X x l) (hL : x.L = L)
 (hT : (ai l W H).2 = true → ∀ w0, Pair w0 X x (ai l W H).1 → Calls Tryz.prog 83 #[Y (some ⟨X, 0, none⟩), .agg (List.toArray [J I sz, J I W, J I H, .bool top, J I dp, J I mt, J I co, J I k0, J I k1, J I k2, J I k3, J I k4, J I k5, J I k6, J I k7, J I fr]), J I f] w0 (TabEnd X L f TR w0))
 (hB1 : mt = 1 ∨ mt = 2 → ∀ RR B g, (RR ≠ X ∧ RR ≠ L ∧ B ≠ X ∧ B ≠ L ∧ g ≠ X ∧ g ≠ L) → ∀ d lo hi pv y m w0, d ≤ lo → TR pv y m (0, 0) → PxF d lo hi w0 X RR L (y.to at_) m ⟨L, W.toNat, H.toNat, B, true, ⟨L, g, aI (W.toNat * H.toNat * 4), true⟩⟩ pv → Calls Tryz.prog 107 #[Y (some ⟨X, 0, none⟩), .agg (List.toArray [J I sz, J I W, J I H, .bool top, J I dp, J I mt, J I co, J I k0, J I k1, J I k2, J I k3, J I k4, J I k5, J I k6, J I k7, J I fr]), .pointer (ptrOf pv), Y (some ⟨RR, 0, none⟩), J I f] w0 (PxEnd X RR L ⟨L, W.toNat, H.toNat, B, true, ⟨L, g, aI (W.toNat * H.toNat * 4), true⟩⟩ f (BR pv (y.to at_) m) w0))
 (hB2 : mt ≠ 1 → mt ≠ 2 → ∀ RR B g, (RR ≠ X ∧ RR ≠ L ∧ B ≠ X ∧ B ≠ L ∧ g ≠ X ∧ g ≠ L) → ∀ d lo hi pv y m w0, d ≤ lo → TR pv y m (0, 0) → PxF d lo hi w0 X RR L (y.to at_) m ⟨L, W.toNat, H.toNat, B, true, ⟨L, g, aI (W.toNat * H.toNat * 4), true⟩⟩ pv → Calls Tryz.prog 85 #[Y (some ⟨X, 0, none⟩), .agg (List.toArray [J I sz, J I W, J I H, .bool top, J I dp, J I mt, J I co, J I k0, J I k1, J I k2, J I k3, J I k4, J I k5, J I k6, J I k7, J I fr]), .pointer (ptrOf pv), .agg (List.toArray [J I k0, J I k1, J I k2, J I k3, J I k4, J I k5, J I k6, J I k7]), Y (some ⟨RR, 0, none⟩), J I f] w0 (PxEnd X RR L ⟨L, W.toNat, H.toNat, B, true, ⟨L, g, aI (W.toNat * H.toNat * 4), true⟩⟩ f (BR pv (y.to at_) m) w0))
 (hz : ∀ pv y m F, TR pv y m F → F.1 = 0 → F = (0, 0)) (hz2 : ∀ y m d t, PxRel TR BR (aI (W.toNat * H.toNat * 4)) at_ y m d t → t.1 = 0 → t = (0, 0)) :
 Calls Tryz.prog 29 #[Y (some ⟨X, 0, none⟩), .agg (List.toArray [J I sz, J I W, J I H, .bool top, J I dp, J I mt, J I co, J I k0, J I k1, J I k2, J I k3, J I k4, J I k5, J I k6, J I k7, J I fr]), J I at_, J I f] w (BodyEnd X L W H f (BodyRel x l W H (PxRel TR BR (aI (W.toNat * H.toNat * 4)) at_)) w) := by
 have HT := Hi hT
 have HB1 := Hi hB1
 have HB2 := Hi hB2
 have HZ := Hi hz
 have HZ2 := Hi hz2
 have hC := ((Chg.refl (fun k => k = X ∨ k = L) w).alloc (.cells (List.toArray [J I sz, J I W, J I H, .bool top, J I dp, J I mt, J I co, J I k0, J I k1, J I k2, J I k3, J I k4, J I k5, J I k6, J I k7, J I fr]) 63)).alloc (.cells #[J I 0, J I 0, J I 0] 31)
 have hF := ((Chg.refl (fun _ => False) w).alloc (.cells (List.toArray [J I sz, J I W, J I H, .bool top, J I dp, J I mt, J I co, J I k0, J I k1, J I k2, J I k3, J I k4, J I k5, J I k6, J I k7, J I fr]) 63)).alloc (.cells #[J I 0, J I 0, J I 0] 31)
 have HL := Hi hL
 have PX := Hi (show Pair _ X x l from ⟨hx.src.chg hF (fun h => h), hx.led.chg hF (fun h => h)⟩)
 have CH := Hi hC
 have OH := Hi ((aA w (List.toArray [J I sz, J I W, J I H, .bool top, J I dp, J I mt, J I co, J I k0, J I k1, J I k2, J I k3, J I k4, J I k5, J I k6, J I k7, J I fr]) 63).alloc (.cells #[J I 0, J I 0, J I 0] 31))
 have OF := Hi (aA (w.alloc (.cells (List.toArray [J I sz, J I W, J I H, .bool top, J I dp, J I mt, J I co, J I k0, J I k1, J I k2, J I k3, J I k4, J I k5, J I k6, J I k7, J I fr]) 63)) #[J I 0, J I 0, J I 0] 31)
 have LB := Hi (show X < w.heap.size ∧ L < w.heap.size ∧ X ≠ L from ⟨hx.src.lt, hL ▸ hx.led.lt, hL ▸ hx.src.ne⟩)
 obtain ⟨d, hd⟩ : ∃ d, w.heap.size = d := ⟨_, rfl⟩
 have HDe := Hi hd
 rw [show (w.alloc (.cells (List.toArray [J I sz, J I W, J I H, .bool top, J I dp, J I mt, J I co, J I k0, J I k1, J I k2, J I k3, J I k4, J I k5, J I k6, J I k7, J I fr]) 63)).heap.size = d + 1 by rw [← hd]; simp] at OF
 rw [hd] at OH LB
 have HLG := Hi (fun w0 (h0 : SrcAt w0 X x) => (slg_any X x w0 h0).mono (R' := fun e w' => e = .returned (Y (some ⟨L, 0, none⟩)) ∧ w' = w0) fun e w' hh => by rw [hL] at hh; exact hh)
 have HNW := Hi (fun w0 (h0 : LedAt w0 L l) => rasnew_two L l W H w0 h0)
 obtain ⟨⟨l1, ok⟩, hq⟩ : ∃ q, ai l W H = q := ⟨_, rfl⟩
 have HQ := Hi hq
 rw [hq] at HNW HT
 clear hx hL hT hB1 hB2 hz hz2 hC hF hq
 go_enter Tryz.func29, Tryz.ntmps29
 go_upto_region 1 with (fail)
 clear hd
 generalize World.alloc (World.alloc _ _) _ = wr at OH OF PX CH ⊢
 have loF := OF.out.lt
 have lb1 := LB.out.1
 have lb2 := LB.out.2.1
 cases ok with
 | false =>
   have HNW := Hi (fun w0 h0 => (HNW.out w0 h0).mono (R' := fun e w' => LedAt w' L l1 ∧ Chg (fun k => k = L) w0 w' ∧ ∃ c : Int, c ≠ 0 ∧ e = .returned (.tuple #[Y none, J I c])) fun e w' hh => ⟨hh.1, hh.2.1, by have := hh.2.2; rw [if_pos rfl] at this; exact this⟩)
   refine wp_region_noPanic ?_
   refine wp_region_held_drew (S := fun w' => Chg (fun k => k = L) wr w') (by kernel_rfl) (Chg.refl _ _).drew (fun hHeld => ?_)
   refine zt 0 (Y (some ⟨X, 0, none⟩)) rfl hHeld ?_
   refine zt 2 (Y (some ⟨d, 1, none⟩)) rfl hHeld ?_
   refine zt 3 (J I W) rfl hHeld ?_ (hy := fun w hS => by (have hc : w.cell? ⟨d, 1, none⟩ = some (J I W) := (hS.cell (by omega) (show ¬ d = L by omega)).trans ((OH.out.cell 1).trans rfl); go_simp))
   refine zt 4 (Y (some ⟨d, 2, none⟩)) rfl hHeld ?_
   refine zt 5 (J I H) rfl hHeld ?_ (hy := fun w hS => by (have hc : w.cell? ⟨d, 2, none⟩ = some (J I H) := (hS.cell (by omega) (show ¬ d = L by omega)).trans ((OH.out.cell 2).trans rfl); go_simp))
   have hS := (Chg.refl (fun k => k = L) wr).drew
   have hF := (Chg.refl (fun _ => False) wr).drew
   generalize World.drew _ = wk at hS hF ⊢
   refine wpAnyH_ready (rs := [1]) (by kernel_rfl) (by simp) ?_
   refine AllReadyH.cons (o := _) rfl (fun K' hK => ?_) AllReadyH.nil
   go_simp
   refine (HLG.out _ (PX.out.src.chg hF (fun h => h))).mono ?_
   rintro e5 w5 ⟨rfl, rfl⟩
   go_wp2_with fail
   refine hK _ _ hS (fun hH1 => ?_)
   clear hK K'
   try simp only [Act.put, zq1, zq2, zq3, zq4, zq5, zq6]
   refine wpAnyH_ready (rs := [6]) (by kernel_rfl) (by simp) ?_
   refine AllReadyH.cons (o := _) rfl (fun K' hK => ?_) AllReadyH.nil
   go_simp
   refine (HNW.out _ (by have := PX.out.led.chg hF (fun h => h); rw [HL.out] at this; exact this)).mono ?_
   rintro e6 w6 ⟨hl6, hc6, c, hc0, rfl⟩
   go_wp2_with fail
   have hS2 := hS.trans hc6
   refine hK _ _ hS2 (fun hH2 => ?_)
   clear hK K'
   try simp only [Act.put, zq1, zq2, zq3, zq4, zq5, zq6]
   refine zt 7 (.tuple #[Y none, J I c]) rfl hH2 ?_
   refine zt 8 (Y none) rfl hH2 ?_
   refine zt 9 (J I c) rfl hH2 ?_
   refine zt 10 (Y none) rfl hH2 ?_
   refine zt 11 (J I c) rfl hH2 ?_
   refine wpAnyH_done (by kernel_rfl) ?_ _
   refine NoPanic.normal ?_
   have PX := Hi (show Pair w6 X x l1 from ⟨(PX.out.src.chg hF (fun h => h)).chg hc6 LB.out.2.2, by rw [HL.out]; exact hl6⟩)
   have OH := Hi (hS2.obj OH.out (show ¬ d = L by omega))
   have OF := Hi (hS2.obj OF.out (show ¬ d + 1 = L by omega))
   have CH := Hi (CH.out.trans (hS2.mono (fun k _ h => Or.inr h)))
   have lz := hF.size
   have g0 : (c != 0) = true := by rw [bne_iff_ne]; exact hc0
   clear hS hS2 hF hc6 hl6 hc0 lz
   obtain ⟨F, hF⟩ : ∃ F, x.ftc l1 = F := ⟨_, rfl⟩
   have HFL := Hi (fun w0 (h0 : Pair w0 X x l1) => (show Calls Tryz.prog 37 #[Y (some ⟨X, 0, none⟩), J I f] w0 (fun e w' => e = .returned (.agg (fc f F).toArray) ∧ Below w0.heap.size w0 w') from by
    have := fault_any X x l1 f w0 h0
    rw [show x.fault l1 f = .agg (fc f (x.ftc l1)).toArray by unfold Sr.fault Sr.ftc; split <;> rfl, hF] at this
    exact this))
   have HF := Hi hF
   clear hF
   go_wp2_with (first
    | ((go_at_call 37; (with_reducible refine (HFL.out _ PX.out).mono ?_); rintro e w9 ⟨rfl, hb⟩); have OF := Hi (OF.out.below hb OF.out.lt); have CH := Hi (CH.out.trans (aB hb _)); have PX := Hi (PX.out.upon hb PX.out.src.lt PX.out.led.lt); clear hb)
    | (refine so 31 3 (d + 1) (fc f F) OF.out ?_; intro ws hst hO; have OF := Hi hO; have PX := Hi (PX.out.into hst (by omega) (by rw [HL.out]; omega)); have CH := Hi (Stored.chgS hst CH.out (Or.inr (by have := HDe.out; omega))); clear hst hO))
   refine bodyPost_ret (v := .tuple #[Y none, .agg (fc f F).toArray]) ?_ rfl ⟨x, l1, none, F, PX.out, HL.out, CH.out, Or.inl ⟨by rw [HQ.out], rfl, by rw [HQ.out], rfl, by rw [HQ.out]; exact HF.out.symm⟩, rfl⟩
   exact rs_1c Tryz.results29 _ _ _ (fc f F) _ rfl OF.out.range0 Tryz.underlying31 rfl (by kernel_rfl)
 | true =>
   have HNW := Hi (fun w0 h0 => (HNW.out w0 h0).mono (R' := fun e w' => LedAt w' L l1 ∧ Chg (fun k => k = L) w0 w' ∧ ∃ R B g, e = .returned (.tuple #[Y (some ⟨R, 0, none⟩), J I 0]) ∧ RasAt w' R ⟨L, W.toNat, H.toNat, B, true, ⟨L, g, aI (W.toNat * H.toNat * 4), true⟩⟩ ∧ w0.heap.size ≤ R ∧ w0.heap.size ≤ B ∧ w0.heap.size ≤ g) fun e w' hh => ⟨hh.1, hh.2.1, by have := hh.2.2; rw [if_neg (fun h => by cases h)] at this; exact this⟩)
   refine wp_region_noPanic ?_
   refine wp_region_held_drew (S := fun w' => Chg (fun k => k = L) wr w') (by kernel_rfl) (Chg.refl _ _).drew (fun hHeld => ?_)
   refine zt 0 (Y (some ⟨X, 0, none⟩)) rfl hHeld ?_
   refine zt 2 (Y (some ⟨d, 1, none⟩)) rfl hHeld ?_
   refine zt 3 (J I W) rfl hHeld ?_ (hy := fun w hS => by (have hc : w.cell? ⟨d, 1, none⟩ = some (J I W) := (hS.cell (by omega) (show ¬ d = L by omega)).trans ((OH.out.cell 1).trans rfl); go_simp))
   refine zt 4 (Y (some ⟨d, 2, none⟩)) rfl hHeld ?_
   refine zt 5 (J I H) rfl hHeld ?_ (hy := fun w hS => by (have hc : w.cell? ⟨d, 2, none⟩ = some (J I H) := (hS.cell (by omega) (show ¬ d = L by omega)).trans ((OH.out.cell 2).trans rfl); go_simp))
   have hS := (Chg.refl (fun k => k = L) wr).drew
   have hF := (Chg.refl (fun _ => False) wr).drew
   generalize World.drew _ = wk at hS hF ⊢
   refine wpAnyH_ready (rs := [1]) (by kernel_rfl) (by simp) ?_
   refine AllReadyH.cons (o := _) rfl (fun K' hK => ?_) AllReadyH.nil
   go_simp
   refine (HLG.out _ (PX.out.src.chg hF (fun h => h))).mono ?_
   rintro e5 w5 ⟨rfl, rfl⟩
   go_wp2_with fail
   refine hK _ _ hS (fun hH1 => ?_)
   clear hK K'
   try simp only [Act.put, zq1, zq2, zq3, zq4, zq5, zq6]
   refine wpAnyH_ready (rs := [6]) (by kernel_rfl) (by simp) ?_
   refine AllReadyH.cons (o := _) rfl (fun K' hK => ?_) AllReadyH.nil
   go_simp
   refine (HNW.out _ (by have := PX.out.led.chg hF (fun h => h); rw [HL.out] at this; exact this)).mono ?_
   rintro e6 w6 ⟨hl6, hc6, R, B, g, rfl, hra, hr1, hr2, hr3⟩
   go_wp2_with fail
   have hS2 := hS.trans hc6
   refine hK _ _ hS2 (fun hH2 => ?_)
   clear hK K'
   try simp only [Act.put, zq1, zq2, zq3, zq4, zq5, zq6]
   refine zt 7 (.tuple #[Y (some ⟨R, 0, none⟩), J I 0]) rfl hH2 ?_
   refine zt 8 (Y (some ⟨R, 0, none⟩)) rfl hH2 ?_
   refine zt 9 (J I 0) rfl hH2 ?_
   refine zt 10 (Y (some ⟨R, 0, none⟩)) rfl hH2 ?_
   refine zt 11 (J I 0) rfl hH2 ?_
   refine wpAnyH_done (by kernel_rfl) ?_ _
   refine NoPanic.normal ?_
   have PX := Hi (show Pair w6 X x l1 from ⟨(PX.out.src.chg hF (fun h => h)).chg hc6 LB.out.2.2, by rw [HL.out]; exact hl6⟩)
   have OH := Hi (hS2.obj OH.out (show ¬ d = L by omega))
   have OF := Hi (hS2.obj OF.out (show ¬ d + 1 = L by omega))
   have CH := Hi (CH.out.trans (hS2.mono (fun k _ h => Or.inr h)))
   have lz := hF.size
   have lzz := Nat.lt_of_lt_of_le loF lz
   have HAP := Hi (show (R ≠ X ∧ R ≠ L ∧ B ≠ X ∧ B ≠ L ∧ g ≠ X ∧ g ≠ L) ∧ (d + 1 < R ∧ d + 1 < B ∧ d + 1 < g) from ⟨⟨by omega, by omega, by omega, by omega, by omega, by omega⟩, by omega, by omega, by omega⟩)
   have HSZ := Hi (show wr.heap.size ≤ R ∧ wr.heap.size ≤ B ∧ wr.heap.size ≤ g from ⟨Nat.le_trans lz hr1, Nat.le_trans lz hr2, Nat.le_trans lz hr3⟩)
   have RA := Hi hra
   clear hS hS2 hF hc6 hl6 hra hr1 hr2 hr3 lz lzz
   have HPX := Hi (fun w0 (h0 : Pair w0 X x l1) (h1 : RasAt w0 R ⟨L, W.toNat, H.toNat, B, true, ⟨L, g, aI (W.toNat * H.toNat * 4), true⟩⟩) => pixels_any sz W H top dp mt co k0 k1 k2 k3 k4 k5 k6 k7 fr at_ f X R L x l1 ⟨L, W.toNat, H.toNat, B, true, ⟨L, g, aI (W.toNat * H.toNat * 4), true⟩⟩ TR BR w0 h0 HL.out h1 rfl rfl HAP.out.1 (HT.out (by first | trivial | rfl)) (fun hm => HB1.out hm R B g HAP.out.1) (fun h1 h2 => HB2.out h1 h2 R B g HAP.out.1) HZ.out)
   go_wp2_with (refine aL (by kernel_rfl) 63 16 _ rfl d [J I sz, J I W, J I H, .bool top, J I dp, J I mt, J I co, J I k0, J I k1, J I k2, J I k3, J I k4, J I k5, J I k6, J I k7, J I fr] rfl rfl OH.out Tryz.underlying63 rfl (by kernel_rfl) ?_; intro _)
   with_reducible refine (HPX.out _ PX.out RA.out).mono ?_
   rintro e w7 ⟨y2, m2, d2, t, rfl, hp2, hy2, hr2, hch, hrel⟩
   have hnp : ∀ k, k < R → k < B → k < g → d ≤ k → ¬ pxS X L ⟨L, W.toNat, H.toNat, B, true, ⟨L, g, aI (W.toNat * H.toNat * 4), true⟩⟩ k := fun k h1 h2 h3 h4 h => by
    have := LB.out
    rcases h with h | h | h
    · omega
    · omega
    · have h : k = g := h
      omega
   have OF := Hi (hch.obj OF.out (hnp _ HAP.out.2.1 HAP.out.2.2.1 HAP.out.2.2.2 (Nat.le_succ _)))
   have CH := Hi ((CH.out.mono (S' := fun k => k = X ∨ k = L ∨ k = g) (fun k _ h => h.elim Or.inl (fun h => Or.inr (Or.inl h)))).trans hch)
   have lG := (show RasAt w7 R ⟨L, W.toNat, H.toNat, B, true, ⟨L, g, d2, true⟩⟩ from hr2).lt
   have lB := (show RasAt w7 R ⟨L, W.toNat, H.toNat, B, true, ⟨L, g, d2, true⟩⟩ from hr2).buf.lt
   have PX := Hi hp2
   have RA := Hi (show RasAt w7 R ⟨L, W.toNat, H.toNat, B, true, ⟨L, g, d2, true⟩⟩ from hr2)
   have HY := Hi hy2
   have HREL := Hi hrel
   clear hp2 hy2 hr2 hch hrel hnp HPX OH
   obtain ⟨g2, hg2⟩ : ∃ b, w7.heap.size = b := ⟨_, rfl⟩
   have lg3 := RA.out.buf.glt (RA.out.opn.trans rfl)
   have lF := OF.out.lt
   have lX7 := PX.out.src.lt
   have lL7 := PX.out.led.lt
   have OG := Hi (aA w7 #[J I 0, J I 0, J I 0] 31)
   rw [hg2] at OG lG lB lg3 lF lX7 lL7
   have LG := Hi (show R < g2 ∧ B < g2 ∧ g < g2 ∧ d + 1 < g2 ∧ X < g2 ∧ L < g2 from ⟨lG, lB, lg3, lF, lX7, by rw [HY.out] at lL7; exact lL7⟩)
   have OF := Hi (OF.out.alloc (.cells #[J I 0, J I 0, J I 0] 31))
   have PX := Hi (PX.out.alloc (.cells #[J I 0, J I 0, J I 0] 31))
   have CH := Hi (CH.out.alloc (.cells #[J I 0, J I 0, J I 0] 31))
   have RA := Hi (RA.out.chg ((Chg.refl (fun _ => False) w7).alloc (.cells #[J I 0, J I 0, J I 0] 31)) (fun h => h) (fun h => h) (fun h => h))
   clear lG lB lg3 lF lX7 lL7
   go_upto_region 5 with (first
    | (refine so 31 3 (g2) (fc f t) OG.out ?_; intro ws hst hO; have OG := Hi hO; have OF := Hi (hst.oth OF.out (by have := LG.out; omega)); have hS := Stored.chgS (S := fun k => k = g2) hst (Chg.refl _ _) (Or.inl rfl); have LBo := LB.out; have LGo := LG.out; have HAo := HAP.out.2; have PX := Hi (show Pair ws X y2 m2 from ⟨PX.out.src.chg hS (by omega), PX.out.led.chg hS (by have := HY.out; omega)⟩); have CH := Hi (Stored.chgS hst CH.out (Or.inr (by have := HDe.out; omega))); have RA := Hi (RA.out.chg hS (by omega) (show ¬ B = _ by omega) (show ¬ g = _ by omega)); clear hS LBo LGo HAo; clear hst hO))
   clear hg2
   have c0 := (OG.out.cell 0).trans (show _ = some (J I t.1) from rfl)
   obtain ⟨k, hk⟩ : ∃ k0, t.1 = k0 := ⟨_, rfl⟩
   rw [hk] at c0
   by_cases hkz : k = 0
   · have g1 : (k != 0) = false := by rw [hkz]; rfl
     have HT0 := Hi (HZ2.out _ _ _ _ HREL.out (hk.trans hkz))
     obtain rfl : t = (0, 0) := HT0.out
     clear hkz hk
     go_wp2_with (first
      | (refine so 31 3 (d + 1) (fc f (0, 0)) OF.out ?_; intro ws hst hO; have OF := Hi hO; have OG := Hi (hst.oth OG.out (by have := LG.out; omega)); have hS := Stored.chgS (S := fun k => k = d + 1) hst (Chg.refl _ _) (Or.inl rfl); have LBo := LB.out; have LGo := LG.out; have HAo := HAP.out.2; have PX := Hi (show Pair ws X y2 m2 from ⟨PX.out.src.chg hS (by omega), PX.out.led.chg hS (by have := HY.out; omega)⟩); have CH := Hi (Stored.chgS hst CH.out (Or.inr (by have := HDe.out; omega))); have RA := Hi (RA.out.chg hS (by omega) (show ¬ B = _ by omega) (show ¬ g = _ by omega)); clear hS LBo LGo HAo; clear hst hO))
     refine bodyPost_ret (v := .tuple #[Y (some ⟨R, 0, none⟩), .agg (fc f (0, 0)).toArray]) ?_ rfl ⟨y2, m2, some d2, (0, 0), PX.out, HY.out, CH.out.mono (fun k hk h => ?_), Or.inr ⟨by rw [HQ.out], m2, d2, HREL.out, Or.inl ⟨rfl, rfl, rfl⟩⟩, R, B, g, rfl, RA.out, by have := HDe.out; have := HAP.out.2; omega, by have := HDe.out; have := HAP.out.2; omega, by have := HDe.out; have := HAP.out.2; omega⟩
     · exact rs_1c Tryz.results29 _ _ _ (fc f (0, 0)) _ rfl OF.out.range0 Tryz.underlying31 rfl (by kernel_rfl)
     · rcases h with h | h | h
       · exact Or.inl h
       · exact Or.inr h
       · have := HDe.out; have := HAP.out.2; omega
   have g1 : (k != 0) = true := by rw [bne_iff_ne]; exact hkz
   have HTN := Hi (show t.1 ≠ 0 by rw [hk]; exact hkz)
   clear hkz hk
   have HFR := Hi (fun w0 (h0 : RasAt w0 R ⟨L, W.toNat, H.toNat, B, true, ⟨L, g, d2, true⟩⟩) (h1 : LedAt w0 L m2) => rfree_any R ⟨L, W.toNat, H.toNat, B, true, ⟨L, g, d2, true⟩⟩ m2 w0 h0 rfl h1)
   go_upto_region 7 with ((go_at_call 39; (with_reducible refine (HFR.out _ RA.out (by have := PX.out.led; rw [HY.out] at this; exact this)).mono ?_); rintro e w8 ⟨⟨bb, rfl⟩, hl1, hc1⟩))
   have hc1 : Chg (fun k => k = R ∨ k = B ∨ k = L) _ w8 := hc1
   have hl1 : LedAt w8 L (m2.give (4 * (W.toNat * H.toNat) : Nat)).1 := hl1
   have hne := PX.out.src.ne
   rw [HY.out] at hne
   have OF := Hi (hc1.obj OF.out (fun h => by have := HAP.out.2; have := LB.out; rcases h with h | h | h <;> omega))
   have OG := Hi (hc1.obj OG.out (fun h => by have := LG.out; rcases h with h | h | h <;> omega))
   have PX := Hi (show Pair w8 X y2 (m2.give (4 * (W.toNat * H.toNat) : Nat)).1 from ⟨PX.out.src.chg hc1 (fun h => by have := HAP.out.1; rcases h with h | h | h; exact this.1 h.symm; exact this.2.2.1 h.symm; exact hne h), by rw [HY.out]; exact hl1⟩)
   have CH := Hi ((CH.out.mono (S' := fun k => (k = X ∨ k = L ∨ k = g) ∨ k = R ∨ k = B) (fun k _ h => Or.inl h)).trans (hc1.mono (fun k _ h => by
    rcases h with h | h | h
    · exact Or.inr (Or.inl h)
    · exact Or.inr (Or.inr h)
    · exact Or.inl (Or.inr (Or.inl h)))))
   clear hl1 hc1 hne RA c0 g1
   refine wp_region_noPanic ?_
   refine wp_region_held_drew (S := fun w' => w'.rangeAt g2 0 (fc f t)) (by kernel_rfl) (Obj1.range0 (cs := fc f t) OG.out) (fun hHeld => ?_)
   refine zl 0 31 (g2) 0 (fc f t) rfl (fun _ h => h) Tryz.underlying31 hHeld ?_
   refine zt 1 (Y none) rfl hHeld ?_
   have PX := Hi PX.out.drew1
   have CH := Hi CH.out.drew
   have OF := Hi OF.out.drew
   have OG := Hi OG.out.drew
   generalize World.drew _ = wk at PX CH OF OG ⊢
   refine wpAnyH_ready (rs := [2]) (by kernel_rfl) (by simp) ?_
   refine AllReadyH.cons (o := _) rfl (fun K' hK => ?_) AllReadyH.nil
   rw [if_pos (by rfl)]
   refine wp_store_mid 31 _ _ rfl (d + 1) 0 (List.toArray (fc f t)) rfl rfl (OF.out.there 0 3 (by first | exact Nat.le_refl _ | simp)) (by kernel_rfl) (all_oneCell_toArray (List.all_eq_true.1 (by rfl))) ?_
   simp only [Act.put, zq1, zq2, zq3, zq4, zq5, zq6]
   have hst : Stored wk (d + 1) 0 (fc f t) (wk.setCells (d + 1) 0 (fc f t)) := rfl
   have OF := Hi (hst.whole OF.out (by first | rfl | simp))
   have OG := Hi (hst.oth OG.out (by have := LG.out; omega))
   have PX := Hi (PX.out.into hst (by have := LB.out; omega) (by have := LB.out; have := HY.out; omega))
   have CH := Hi (Stored.chgS hst CH.out (Or.inr (by have := HDe.out; omega)))
   generalize World.setCells _ _ _ _ = wk2 at PX CH OF OG ⊢
   clear hst
   refine hK _ _ (Obj1.range0 (cs := fc f t) OG.out) (fun hH1 => ?_)
   clear hK K'
   refine wpAnyH_done (by kernel_rfl) ?_ _
   refine NoPanic.normal ?_
   go_wp2_with fail
   refine bodyPost_ret (v := .tuple #[Y none, .agg (fc f t).toArray]) ?_ rfl ⟨y2, _, none, t, PX.out, HY.out, CH.out.mono (fun k hk h => ?_), Or.inr ⟨by rw [HQ.out], m2, d2, HREL.out, Or.inr ⟨HTN.out, rfl, rfl⟩⟩, rfl⟩
   · exact rs_1c Tryz.results29 _ _ _ (fc f t) _ rfl OF.out.range0 Tryz.underlying31 rfl (by kernel_rfl)
   · rcases h with (h | h | h) | h | h
     · exact Or.inl h
     · exact Or.inr h
     · have := HDe.out; have := HAP.out.2; omega
     · have := HDe.out; have := HAP.out.2; omega
     · have := HDe.out; have := HAP.out.2; omega
structure LK (l m : Led) : Prop where
 mw : m.mw = l.mw
 mh : m.mh = l.mh
 mb : m.mb = l.mb
 mx : m.mx = l.mx
 ok : m.ok
 pk : l.pk ≤ l.mb → m.pk ≤ m.mb
theorem LK.refl {l : Led} (h : l.ok) : LK l l := ⟨rfl, rfl, rfl, rfl, h, fun h => h⟩
theorem LK.trans {a b c : Led} (h : LK a b) (k : LK b c) : LK a c := ⟨k.mw.trans h.mw, k.mh.trans h.mh, k.mb.trans h.mb, k.mx.trans h.mx, k.ok, fun e => k.pk (h.pk e)⟩
theorem LW.lk {l m : Led} {k : Nat} (h : LW l m k) (ho : m.ok) : LK l m ∧ m.bt = l.bt ∧ m.st = l.st + k := by
 obtain ⟨h1, h2, h3, h4, h5, h6, h7⟩ := h.fields
 exact ⟨⟨h1, h2, h3, h4, ho, fun e => by rw [h6, h3]; exact e⟩, h5, h7⟩
theorem take_lk {l : Led} (h : l.ok) (hb : l.br = false) (n : Nat) : LK l (l.take n).1 ∧ (l.take n).1.st = l.st ∧ ((l.take n).2 = true → (l.take n).1.bt = l.bt + n ∧ (l.take n).1.br = false) ∧ ((l.take n).2 = false → (l.take n).1.bt = l.bt ∧ (l.take n).1.br = true ∧ ¬ l.bt + n ≤ l.mb) := by
 have ho := Led.take_ok h n
 revert ho
 unfold Led.take
 rw [if_neg (by rw [hb]; decide)]
 by_cases hc : (n : Int) < 0 ∨ l.mb - l.bt < n
 · rw [if_pos hc]
   exact fun ho => ⟨⟨rfl, rfl, rfl, rfl, ho, fun e => e⟩, rfl, (fun e => by cases e), fun _ => ⟨rfl, rfl, by omega⟩⟩
 · rw [if_neg hc]
   refine fun ho => ⟨⟨rfl, rfl, rfl, rfl, ho, fun e => ?_⟩, rfl, fun _ => ⟨rfl, hb⟩, fun e => by cases e⟩
   show (if l.bt + n ≤ l.pk then l.pk else l.bt + n) ≤ l.mb
   split <;> omega
theorem give_lk {m : Led} (h : m.ok) (n : Nat) (hn : (n : Int) ≤ m.bt) : LK m (m.give n).1 ∧ (m.give n).1.bt = m.bt - n ∧ (m.give n).1.br = m.br ∧ (m.give n).1.st = m.st := by
 have ho := Led.give_ok h n
 revert ho
 unfold Led.give
 rw [if_neg (by omega)]
 exact fun ho => ⟨⟨rfl, rfl, rfl, rfl, ho, fun e => e⟩, rfl, rfl, rfl⟩
def TabR (x : Sr) (l : Led) (kd co dp : Nat) (pv : Option (Nat × Pal)) (y : Sr) (m : Led) (F : Int × Int) : Prop :=
 LK l m ∧ (y.s = x.s ∧ y.b = x.b ∧ y.e = x.e ∧ y.L = x.L ∧ y.ok) ∧ (l.bt + 4 * co ≤ l.mb → l.st + co + 1 < l.mx → m.br = false) ∧ m.st ≤ l.st + co + 1 ∧
 ((pv = none ∧ m.bt = l.bt ∧ ((m.br = true ∧ F = (4, (y.p : Int))) ∨ (m.br = false ∧ F = (1, (x.e : Int)) ∧ x.e < x.p + kd * co))) ∨
  (F = (0, 0) ∧ m.br = false ∧ x.p + kd * co ≤ x.e ∧ y = { x with p := x.p + kd * co } ∧
   ((dp ≤ 8 ∧ ∃ P p, pv = some (P, p) ∧ p.most = co ∧ TabOf x.s x.p kd co x.L p ∧ m.bt = l.bt + 4 * co) ∨ (¬ dp ≤ 8 ∧ pv = none ∧ m.bt = l.bt))))
theorem tabR_z {x : Sr} {l : Led} {kd co dp : Nat} {pv : Option (Nat × Pal)} {y : Sr} {m : Led} {F : Int × Int} (h : TabR x l kd co dp pv y m F) (h0 : F.1 = 0) : F = (0, 0) := by
 obtain ⟨_, _, _, _, ⟨_, _, ⟨_, rfl⟩ | ⟨_, rfl, _⟩⟩ | ⟨h, _⟩⟩ := h
 · cases h0
 · cases h0
 · exact h
theorem faultL_br {y : Sr} {m : Led} (f : Int) (h : m.br = true) : aK y m f = fc f (4, (y.p : Int)) := by unfold aK; rw [if_pos h]; rfl
theorem faultL_no {y : Sr} {m : Led} (f : Int) (h : m.br = false) : aK y m f = fc f (1, (y.e : Int)) := by unfold aK; rw [if_neg (by rw [h]; decide)]; rfl
theorem table_all (sz W H : Int) (top : Bool) (dp : Nat) (mt : Int) (co : Nat) (k0 k1 k2 k3 k4 k5 k6 k7 fr : Int) (X L : Nat) (x : Sr) (l : Led) (f : Int) (kd : Nat) (w : World) (h : Pair w X x l) (hL : x.L = L) (hco1 : dp ≤ 8 → 1 ≤ co) (hco2 : co ≤ 256) (hkd : kd = if sz = 12 then 3 else 4) (hb : l.br = false) :
 Calls Tryz.prog 83 #[Y (some ⟨X, 0, none⟩), .agg (List.toArray [J I sz, J I W, J I H, .bool top, J I dp, J I mt, J I co, J I k0, J I k1, J I k2, J I k3, J I k4, J I k5, J I k6, J I k7, J I fr]), J I f] w (TabEnd X L f (TabR x l kd co dp) w) := by
 subst hL
 have hk34 : kd = 3 ∨ kd = 4 := by rw [hkd]; split <;> simp
 have ekd : (if sz = 12 then (3 : Int) else 4) = (kd : Int) := by rw [hkd]; split <;> rfl
 have hok := h.led.ok
 have hbt0 := hok.b0
 have hxo := h.src.ok
 by_cases hdp : dp ≤ 8
 · refine (table8_any sz W H top dp mt co k0 k1 k2 k3 k4 k5 k6 k7 fr X x l f w h (by omega) (hco1 hdp) (by omega)).mono ?_
   intro e w' hp
   rw [ekd] at hp
   have e4 : (4 * (co : Int)) = ((4 * co : Nat) : Int) := by omega
   obtain ⟨tk1, tk2, tk3, tk4⟩ := take_lk hok hb (4 * co)
   unfold Table8Post at hp
   rw [e4] at hp
   by_cases ht : (l.take ((4 * co : Nat) : Int)).2 = false
   · rw [if_pos ht] at hp
     obtain ⟨he, hpr, hc⟩ := hp
     obtain ⟨q1, q2, q3⟩ := tk4 ht
     refine ⟨none, x, _, (4, (x.p : Int)), ?_, hpr, rfl, (fun P p h => by cases h), hc, ⟨tk1, ⟨rfl, rfl, rfl, rfl, hxo⟩, fun hm _ => absurd (by omega) q3, by omega, Or.inl ⟨rfl, q1, Or.inl ⟨q2, rfl⟩⟩⟩, fun _ => rfl⟩
     rw [he, faultL_br f q2]
     rfl
   rw [if_neg ht] at hp
   have ht : (l.take ((4 * co : Nat) : Int)).2 = true := by cases hh : (l.take ((4 * co : Nat) : Int)).2 with | true => rfl | false => exact absurd hh ht
   obtain ⟨q1, q2⟩ := tk3 ht
   obtain ⟨P, B, g, h1, h2, h3, hc, hp⟩ := hp
   obtain ⟨l1, hl1e⟩ : ∃ l1, (l.take ((4 * co : Nat) : Int)).1 = l1 := ⟨_, rfl⟩
   rw [hl1e] at hp tk1 tk2 q1 q2
   have hz : (aI (4 * co)).length = 4 * co := by unfold aI; rw [List.length_replicate]
   have hrun := palR_run kd hk34 co ⟨B, ⟨x.L, g, aI (4 * co), true⟩, 0, co⟩ x l1 hxo tk1.ok q2 hz (by show 0 + co ≤ co; omega)
   obtain ⟨q, hq⟩ : ∃ q, palR kd ⟨B, ⟨x.L, g, aI (4 * co), true⟩, 0, co⟩ x l1 co = q := ⟨_, rfl⟩
   rw [hq] at hp hrun
   obtain ⟨r1, rB, rg, rL, rop, rm, rlen, ry, rn⟩ := hrun
   obtain ⟨k, hk, hlw⟩ := r1.lw
   obtain ⟨lk2, lb2, ls2⟩ := hlw.lk r1.lo
   have hlb := hlw.br_iff q2
   by_cases hy : q.2 = true
   · rw [if_pos hy] at hp
     obtain ⟨y1, y2, y3, y4, y5, y6⟩ := ry hy
     obtain ⟨he, hpa, hpr⟩ := hp
     rw [y2, y3] at hpr
     have hcalm : ({ l1 with st := l1.st + co } : Led).br = false := q2
     rw [y3] at lk2
     refine ⟨some (P, q.1.1), _, _, (0, 0), he, hpr, rfl, ?_, hc, ⟨tk1.trans lk2, ⟨rfl, rfl, rfl, rfl, hpr.src.ok⟩, fun _ _ => q2, by show l1.st + (co : Int) ≤ _; omega, Or.inr ⟨rfl, q2, y1, rfl, Or.inl ⟨hdp, P, q.1.1, rfl, rm, ⟨by rw [y4]; show 0 + co = co; omega, by rw [rL], fun j hj => ?_⟩, by show l1.bt = _; omega⟩⟩⟩, fun hh => absurd rfl hh⟩
     · intro P' p' hpp
       cases hpp
       exact ⟨hpa, by rw [rL], h1, by rw [rB]; exact h2, by rw [rg]; exact h3⟩
     · have := y6 j hj
       rw [show (0 : Nat) + j = j by omega] at this
       exact this
   · rw [if_neg hy] at hp
     have hy : q.2 = false := by cases hh : q.2 with | false => rfl | true => exact absurd hh hy
     obtain ⟨he, hpr⟩ := hp
     obtain ⟨g1, g2, g3, g4⟩ := give_lk (m := q.1.2.2) r1.lo (4 * co) (by omega)
     obtain ⟨n1, n2⟩ := rn hy
     obtain ⟨m, hm⟩ : ∃ m, (q.1.2.2.give ((4 * co : Nat) : Int)).1 = m := ⟨_, rfl⟩
     rw [hm] at he hpr g1 g2 g3 g4
     have hst : l.st + co + 1 < l.mx → q.1.2.2.br = false := fun hs => by
      rcases hlb with ⟨hb2, _⟩ | ⟨_, _, hx⟩
      · exact hb2
      · have := tk1.mx; omega
     by_cases hbr : m.br = true
     · refine ⟨none, _, _, (4, (q.1.2.1.p : Int)), ?_, hpr, r1.L, (fun P p h => by cases h), hc, ⟨(tk1.trans lk2).trans g1, ⟨r1.s, r1.b, r1.e, r1.L, r1.ok⟩, fun _ hs => by rw [g3]; exact hst hs, by omega, Or.inl ⟨rfl, by omega, Or.inl ⟨hbr, rfl⟩⟩⟩, fun _ => rfl⟩
       rw [he, faultL_br f hbr]
       rfl
     · have hbr : m.br = false := by cases hh : m.br with | false => rfl | true => exact absurd hh hbr
       refine ⟨none, _, _, (1, (x.e : Int)), ?_, hpr, r1.L, (fun P p h => by cases h), hc, ⟨(tk1.trans lk2).trans g1, ⟨r1.s, r1.b, r1.e, r1.L, r1.ok⟩, fun _ _ => hbr, by omega, Or.inl ⟨rfl, by omega, Or.inr ⟨hbr, rfl, n1 (by rw [← g3]; exact hbr)⟩⟩⟩, fun _ => rfl⟩
       rw [he, faultL_no f hbr, r1.e]
       rfl
 · refine (table16_any sz W H top dp mt co k0 k1 k2 k3 k4 k5 k6 k7 fr X x l f w h (by omega) (by omega)).mono ?_
   intro e w' hp
   rw [ekd, show (kd : Int) * (co : Int) = ((kd * co : Nat) : Int) from (Int.natCast_mul kd co).symm] at hp
   have hpe := hxo.pe
   unfold Table16Post at hp
   have hr := (Rd.refl hxo hok).next hb ((kd * co : Nat) : Int)
   obtain ⟨he, hpr, hc⟩ := hp
   obtain ⟨q, hq⟩ : ∃ q, x.next l ((kd * co : Nat) : Int) = q := ⟨_, rfl⟩
   have hq0 := hq
   unfold Sr.next at hq0
   change Rd x l (x.next l ((kd * co : Nat) : Int)).1 (0 + 1) at hr
   rw [hq] at he hpr hr
   obtain ⟨k, hk, hlw⟩ := hr.lw
   obtain ⟨lk2, lb2, ls2⟩ := hlw.lk hr.lo
   have hlb := hlw.br_iff hb
   have hrich : l.st + co + 1 < l.mx → q.1.2.br = false := fun hs => by
    rcases hlb with ⟨hb2, _⟩ | ⟨_, _, hx⟩
    · exact hb2
    · omega
   by_cases hy : q.2.2 = true
   · rw [if_pos hy] at he
     have hcc : (l.work 1).2 = true ∧ (0 : Int) ≤ ((kd * co : Nat) : Int) ∧ ((kd * co : Nat) : Int) ≤ (x.e : Int) - x.p := by
      by_cases hcc : (l.work 1).2 = true ∧ (0 : Int) ≤ ((kd * co : Nat) : Int) ∧ ((kd * co : Nat) : Int) ≤ (x.e : Int) - x.p
      · exact hcc
      · rw [if_neg hcc] at hq0; rw [← hq0] at hy; cases hy
     rw [if_pos hcc, Int.toNat_natCast] at hq0
     have hb2 : q.1.2.br = false := by
      rw [← hq0]
      rcases LW.one hb hok with ⟨a, b, c⟩ | ⟨a, b, c⟩
      · exact c
      · rw [a] at hcc; cases hcc.1
     have hyq : q.1.1 = { x with p := x.p + kd * co } := by rw [← hq0]
     refine ⟨none, _, _, (0, 0), he, hpr, hr.L, (fun P p h => by cases h), hc, ⟨lk2, ⟨hr.s, hr.b, hr.e, hr.L, hr.ok⟩, fun _ hs => hb2, by omega, Or.inr ⟨rfl, hb2, by omega, hyq, Or.inr ⟨hdp, rfl, lb2⟩⟩⟩, fun _ => rfl⟩
   · rw [if_neg hy] at he
     have hcc : ¬ ((l.work 1).2 = true ∧ (0 : Int) ≤ ((kd * co : Nat) : Int) ∧ ((kd * co : Nat) : Int) ≤ (x.e : Int) - x.p) := fun hcc => by rw [if_pos hcc] at hq0; rw [← hq0] at hy; exact hy rfl
     rw [if_neg hcc] at hq0
     by_cases hbr : q.1.2.br = true
     · refine ⟨none, _, _, (4, (q.1.1.p : Int)), ?_, hpr, hr.L, (fun P p h => by cases h), hc, ⟨lk2, ⟨hr.s, hr.b, hr.e, hr.L, hr.ok⟩, fun _ hs => hrich hs, by omega, Or.inl ⟨rfl, lb2, Or.inl ⟨hbr, rfl⟩⟩⟩, fun _ => rfl⟩
       rw [he, faultL_br f hbr]
       rfl
     · have hbr : q.1.2.br = false := by cases hh : q.1.2.br with | false => rfl | true => exact absurd hh hbr
       have hlt : x.e < x.p + kd * co := by
        rcases LW.one hb hok with ⟨a, b, c⟩ | ⟨a, b, c⟩
        · have : ¬ ((kd * co : Nat) : Int) ≤ (x.e : Int) - x.p := fun hh => hcc ⟨a, by omega, hh⟩
          omega
        · rw [← hq0] at hbr; rw [show (((x, (l.work 1).1), (ByteArray.empty, false)) : (Sr × Led) × (ByteArray × Bool)).1.2 = (l.work 1).1 from rfl, c] at hbr; cases hbr
       refine ⟨none, _, _, (1, (x.e : Int)), ?_, hpr, hr.L, (fun P p h => by cases h), hc, ⟨lk2, ⟨hr.s, hr.b, hr.e, hr.L, hr.ok⟩, fun _ _ => hbr, by omega, Or.inl ⟨rfl, lb2, Or.inr ⟨hbr, rfl, hlt⟩⟩⟩, fun _ => rfl⟩
       rw [he, faultL_no f hbr, hr.e]
       rfl
def PixR (y : Sr) (m : Led) (c : Nat) (ref : E22 (List Value)) (y2 : Sr) (m2 : Led) (d : List Int) (t : Int × Int) : Prop :=
 LK m m2 ∧ m2.bt = m.bt ∧ m2.st ≤ m.st + c ∧ (y2.s = y.s ∧ y2.b = y.b ∧ y2.e = y.e ∧ y2.L = y.L) ∧ (m.st + c < m.mx → m2.br = false) ∧ (m2.br = true → t.1 = 4 ∧ 0 ≤ t.2 ∧ t.2 ≤ y.e) ∧
 (m2.br = false → match ref with
   | .error z => t = z ∧ z.1 ≠ 0
   | .ok L => t = (0, 0) ∧ aY d = L)
theorem lw_rich {l m : Led} {k : Nat} (h : LW l m k) (hb : l.br = false) {c : Nat} (hk : k ≤ c) (hs : l.st + c < l.mx) : m.br = false := by
 rw [h.calm (by omega)]; exact hb
theorem rle_all (X P RR : Nat) (sz : Int) (W H : Nat) (top : Bool) (dp mt co k0 k1 k2 k3 k4 k5 k6 k7 fr f : Int) (x : Sr) (l : Led) (p : Pal) (r : Ras) (fu kd en M : Nat) (w : World)
 (hx : Pair w X x l) (hp : PalAt w P p) (hr : RasAt w RR r) (ha : RleApart X P RR x p r) (hop : r.op = true) (hrw : r.w = W) (hrh : r.h = H) (hd : dp = 8 ∨ dp = 4) (hes : x.s.size < 1000000000) (hfu : x.e < x.p + fu)
 (hkd : kd = 3 ∨ kd = 4) (ht : TabOf x.s en kd M x.L p) (hen : en + kd * M ≤ x.s.size) (hb : l.br = false) :
 Calls Tryz.prog 107 #[Y (some ⟨X, 0, none⟩), .agg (List.toArray [J I sz, J I W, J I H, .bool top, J I dp, J I mt, J I co, J I k0, J I k1, J I k2, J I k3, J I k4, J I k5, J I k6, J I k7, J I fr]), Y (some ⟨P, 0, none⟩), Y (some ⟨RR, 0, none⟩), J I f] w
  (PxEnd X RR x.L r f (PixR x l (x.e + W * H + 1) (rle22 x.s (colsL (x.s.extract en x.s.size) kd M) M W H dp x.e fu ⟨0, 0, x.p, aY r.b.d⟩)) w) := by
 refine (dread_any X P RR sz W H top dp mt co k0 k1 k2 k3 k4 k5 k6 k7 fr f x l p r fu w hx hp hr ha hop hrw hrh hd hes hfu).mono ?_
 intro e w' hpost
 obtain ⟨K, hK⟩ : ∃ K, rleK X P RR W H dp f [J I sz, .bool top, J I mt, J I co, J I k0, J I k1, J I k2, J I k3, J I k4, J I k5, J I k6, J I k7, J I fr] x p r = K := ⟨_, rfl⟩
 obtain ⟨σ, hσ⟩ : ∃ σ, rleS x l r = σ := ⟨_, rfl⟩
 rw [hK, hσ] at hpost
 obtain ⟨N, hN, he, hj, hc⟩ := hpost
 have q1 : K.n.W = W ∧ K.n.H = H ∧ K.n.dp = dp ∧ K.n.f = f ∧ K.x = x ∧ K.p = p ∧ K.r = r ∧ K.n.X = X ∧ K.n.R = RR := by rw [← hK]; exact ⟨rfl, rfl, rfl, rfl, rfl, rfl, rfl, rfl, rfl⟩
 obtain ⟨qW, qH, qd, qf, qx, qp, qr, qX, qR⟩ := q1
 have q2 : σ.x = 0 ∧ σ.y = 0 ∧ σ.a = x.p ∧ σ.l = l ∧ σ.d = r.b.d := by rw [← hσ]; exact ⟨rfl, rfl, rfl, rfl, rfl⟩
 obtain ⟨s1, s2, s3, s4, s5⟩ := q2
 have hlen : r.b.d.length = 4 * (W * H) := by rw [hr.len, hrw, hrh]
 have hT : (colsL (x.s.extract en x.s.size) kd M).length = 4 * K.p.n := by rw [colsL_len, qp, ht.n]
 have hKO : KOk K (colsL (x.s.extract en x.s.size) kd M) := by
  refine ⟨by rw [qd]; exact hd, fun e he => ?_⟩
  rw [qp, ht.n] at he
  have hmul : kd * (e + 1) ≤ kd * M := Nat.mul_le_mul_left kd (by omega)
  rw [Nat.mul_succ] at hmul
  rw [colsL_px _ _ _ _ he]
  exact (ent_px K e x.s en kd x.s.size hkd (by rw [qp]; exact ht.ent e he) (by omega) (Nat.le_refl _)).symm
 have hs := read_sim hKO hT (colsL_all _ _ _) fu σ (by rw [s4]; exact hx.led.ok) (by rw [s4]; exact hb) (by rw [s3, qx]; exact hx.src.ok.pe) (by rw [s3, qx]; exact hfu) (by rw [s1]; omega) (by rw [s2]; omega) (by rw [s5, qW, qH]; exact hlen)
 obtain ⟨q, hq⟩ : ∃ q, K.read fu σ = q := ⟨_, rfl⟩
 rw [hq] at hs he hj
 obtain ⟨hcost, hsim⟩ := hs
 obtain ⟨k, hlw, hk⟩ := hcost.lw
 have hpot : K.pot q.1 ≤ H * W := by unfold JK.pot; rw [qW, qH]; omega
 have hpot0 : K.pot σ = 0 := by unfold JK.pot; rw [s1, s2]; omega
 have ha1 := hcost.a1
 rw [qx] at ha1
 rw [s4] at hlw
 rw [s3, hpot0] at hk
 have hWH : H * W = W * H := Nat.mul_comm _ _
 obtain ⟨k1, k2, k3⟩ := hlw.lk hcost.ok
 have hbr := hcost.br
 rw [qx] at hbr
 refine ⟨K.sr q.1, q.1.l, q.1.d, q.2, by rw [he, qf]; rfl, ?_, ?_, ?_, hc, k1, k2, by omega, ?_, fun hs => lw_rich hlw hb (c := x.e + W * H + 1) (by omega) hs, hbr, fun hb2 => ?_⟩
 · have := hj.pr; rw [qX] at this; exact this
 · show K.x.L = x.L; rw [qx]
 · have := hj.ras
   unfold JK.ras at this
   rw [qR, qr] at this
   exact this
 · show K.x.s = x.s ∧ K.x.b = x.b ∧ K.x.e = x.e ∧ K.x.L = x.L
   rw [qx]; exact ⟨rfl, rfl, rfl, rfl⟩
 · have hsim := hsim hb2
   rw [qx, qp, ht.n, qW, qH, qd, s1, s2, s3, s5] at hsim
   exact hsim
theorem rows_all (X P RR : Nat) (sz : Int) (h : H21) (mt co fr f : Int) (m : Nat → Int) (x : Sr) (l : Led) (p : Pal) (r : Ras) (ov : Option Addr) (kd en M : Nat) (w : World)
 (hov : ov = if decide (h.dp ≤ 8) = true then some ⟨P, 0, none⟩ else none) (hx : Pair w X x l) (hpl : h.dp ≤ 8 → PalAt w P p) (hr : RasAt w RR r) (ha : RowApart X (decide (h.dp ≤ 8)) P RR x p r) (hop : r.op = true) (hrw : r.w = h.W) (hrh : r.h = h.H) (hd : dpOk h.dp)
 (hm0 : pairOk (m 0) (m 1) h.r) (hm1 : pairOk (m 2) (m 3) h.g) (hm2 : pairOk (m 4) (m 5) h.b) (hm3 : pairOk (m 6) (m 7) h.q)
 (hkd : kd = 3 ∨ kd = 4) (ht : h.dp ≤ 8 → TabOf x.s en kd M x.L p) (hen : en + kd * M ≤ x.s.size) (hb : l.br = false) :
 Calls Tryz.prog 85 #[Y (some ⟨X, 0, none⟩), .agg (List.toArray [J I sz, J I h.W, J I h.H, .bool h.top, J I h.dp, J I mt, J I co, J I (m 0), J I (m 1), J I (m 2), J I (m 3), J I (m 4), J I (m 5), J I (m 6), J I (m 7), J I fr]), .pointer ov, .agg (List.toArray [J I (m 0), J I (m 1), J I (m 2), J I (m 3), J I (m 4), J I (m 5), J I (m 6), J I (m 7)]), Y (some ⟨RR, 0, none⟩), J I f] w
  (PxEnd X RR x.L r f (PixR x l (h.H * (2 * h.W + 1)) (rows21 h x.s (colsL (x.s.extract en x.s.size) kd M) M x.e x.p h.H 0 (aY r.b.d))) w) := by
 refine (drows_any X (decide (h.dp ≤ 8)) P RR sz h.W h.H h.top h.dp mt co (m 0) (m 1) (m 2) (m 3) (m 4) (m 5) (m 6) (m 7) fr m f x l p r ov w hov hx (fun e => hpl (of_decide_eq_true e)) hr ha hop hrw hrh hd (fun e => decide_eq_true e) hm0.1 hm1.1 hm2.1 hm3.1).mono ?_
 intro e w' hpost
 obtain ⟨N, B, hN, hB, he, hq, hc⟩ := hpost
 obtain ⟨K, hK⟩ : ∃ K, rowK X B (decide (h.dp ≤ 8)) P RR h.dp m f [J I sz, J I h.W, J I h.H, .bool h.top, J I mt, J I co, J I (m 0), J I (m 1), J I (m 2), J I (m 3), J I (m 4), J I (m 5), J I (m 6), J I (m 7), J I fr] x p r = K := ⟨_, rfl⟩
 obtain ⟨σ, hσ⟩ : ∃ σ, rowS x l r = σ := ⟨_, rfl⟩
 have he : e = .returned (ftv f (K.rows h.W h.H h.top (aM h.W h.dp - (h.W * h.dp + 7) / 8) h.H 0 σ).2) := by rw [← hK, ← hσ]; exact he
 have hq : QAt w' N K (K.rows h.W h.H h.top (aM h.W h.dp - (h.W * h.dp + 7) / 8) h.H 0 σ).1 := by rw [← hK, ← hσ]; exact hq
 have q1 : K.dp = h.dp ∧ K.x = x ∧ K.p = p ∧ K.r = r ∧ K.X = X ∧ K.R = RR ∧ K.m = m := by rw [← hK]; exact ⟨rfl, rfl, rfl, rfl, rfl, rfl, rfl⟩
 obtain ⟨qd, qx, qp, qr, qX, qR, qm⟩ := q1
 have q2 : σ.left = 0 ∧ σ.a = x.p ∧ σ.l = l ∧ σ.d = r.b.d := by rw [← hσ]; exact ⟨rfl, rfl, rfl, rfl⟩
 obtain ⟨s1, s3, s4, s5⟩ := q2
 have hlen : r.b.d.length = 4 * (h.W * h.H) := by rw [hr.len, hrw, hrh]
 have hsm : QSame K h (colsL (x.s.extract en x.s.size) kd M) M := by
  refine ⟨qd, by rw [qd]; exact hd, by rw [qx]; exact hx.src.ok.es, fun h8 => ?_, fun h8 j hj => ?_, fun h16 v => ?_, by rw [qr]; exact hrw, by rw [qr]; exact hrh⟩
  · rw [qp]; exact (ht (by rw [← qd]; exact h8)).n
  · have hte := ht (by rw [← qd]; exact h8)
    have hmul : kd * (j + 1) ≤ kd * M := Nat.mul_le_mul_left kd (by omega)
    rw [Nat.mul_succ] at hmul
    rw [colsL_px _ _ _ _ hj]
    have hpx := ent_px (⟨⟨0, 0, 0, 0, 0, 0, 0, 0, 0, fun _ => undef⟩, x, p, r⟩ : JK) j x.s en kd x.s.size hkd (hte.ent j hj) (by omega) (Nat.le_refl _)
    rw [← hpx, qp]
    rfl
  · unfold QK.wcol
    rw [qm]
    unfold c4v colR
    simp only
    rw [hm0.2.1, hm1.2.1, hm2.2.1, hm3.2.1]
 have hs := rows_sim hsm x.p h.H 0 σ (by omega) (by rw [s4]; exact hx.led.ok) (by rw [s4]; exact hb) (by rw [s3, qx]; exact hx.src.ok.pe) (by rw [s5]; exact hlen) ⟨by rw [s3, Nat.zero_mul, Nat.zero_mul]; omega, by rw [s1, Nat.zero_mul], fun hh => absurd (by rw [Nat.zero_mul]) hh⟩
 obtain ⟨q, hqe⟩ : ∃ q, K.rows h.W h.H h.top (aM h.W h.dp - (h.W * h.dp + 7) / 8) h.H 0 σ = q := ⟨_, rfl⟩
 rw [hqe] at hs he hq
 obtain ⟨hcost, hsim⟩ := hs
 obtain ⟨k, hlw, hk⟩ := hcost.lw
 rw [s4] at hlw
 obtain ⟨k1, k2, k3⟩ := hlw.lk hcost.ok
 have hbr := hcost.br
 rw [qx] at hbr
 refine ⟨K.sr q.1, q.1.l, q.1.d, q.2, he, ?_, ?_, ?_, hc, k1, k2, by omega, ?_, fun hs => lw_rich hlw hb hk hs, hbr, fun hb2 => ?_⟩
 · have := hq.pr; rw [qX] at this; exact this
 · show K.x.L = x.L; rw [qx]
 · have := hq.ras
   unfold QK.ras at this
   rw [qR, qr] at this
   exact this
 · show K.x.s = x.s ∧ K.x.b = x.b ∧ K.x.e = x.e ∧ K.x.L = x.L
   rw [qx]; exact ⟨rfl, rfl, rfl, rfl⟩
 · have hsim := hsim hb2
   rw [qx, s5] at hsim
   cases hrr : rows21 h x.s (colsL (x.s.extract en x.s.size) kd M) M x.e x.p h.H 0 (aY r.b.d) with
   | error z => rw [hrr] at hsim; exact hsim
   | ok L => rw [hrr] at hsim; exact ⟨hsim.1, hsim.2.1⟩
theorem fault_fc (x : Sr) (l : Led) (f : Int) : x.fault l f = .agg (fc f (x.ftc l)).toArray := by unfold Sr.fault Sr.ftc; split <;> rfl
theorem rd_faultf {d : Nat} {w : World} {X : Nat} {x y : Sr} {m : Led} (h : Rdr d w X x y m) (f : Int) : Calls Tryz.prog 37 #[Y (some ⟨X, 0, none⟩), J I f] w fun e w' => e = .returned (.agg (fc f (y.ftc m)).toArray) ∧ Below w.heap.size w w' := by
 have := fault_any X y m f w h.pr
 rw [fault_fc] at this
 exact this
theorem rd_takey {d : Nat} {w : World} {X : Nat} {x y : Sr} {m : Led} (h : Rdr d w X x y m) (n : Nat) (hok : (y.next m n).2.2 = true) : Calls Tryz.prog 57 #[Y (some ⟨X, 0, none⟩), J I n] w fun e w' => e = .returned (.tuple #[.string (y.s.extract y.p (y.p + n)), .bool true]) ∧ Rdr d w' X x { y with p := y.p + n } (y.next m n).1.2 ∧ Chg (two X x) w w' := by
 refine (take_any X y m n w h.pr).mono ?_
 rintro e w' ⟨he, hp, hc⟩
 obtain ⟨h1, h2, h3, h4, h5, h6⟩ := next_ok hok
 rw [hok, h6, Int.toNat_natCast] at he
 rw [h4, Int.toNat_natCast] at hp
 exact ⟨he, h.by _ hp hc⟩
theorem rd_taken {d : Nat} {w : World} {X : Nat} {x y : Sr} {m : Led} (h : Rdr d w X x y m) (n : Nat) (hok : (y.next m n).2.2 = false) : Calls Tryz.prog 57 #[Y (some ⟨X, 0, none⟩), J I n] w fun e w' => e = .returned (.tuple #[.string ByteArray.empty, .bool false]) ∧ Rdr d w' X x y (y.next m n).1.2 ∧ Chg (two X x) w w' := by
 refine (take_any X y m n w h.pr).mono ?_
 rintro e w' ⟨he, hp, hc⟩
 obtain ⟨h1, h2, h3, h4⟩ := next_bad hok
 rw [hok, h3] at he
 rw [h1] at hp
 exact ⟨he, h.by y.p hp hc⟩
def Sr.bbeg (x : Sr) (l : Led) : SL × (Int × (Int × Int)) :=
 if (x.next l 14).2.2 = false then ((x, (x.next l 14).1.2), (0, x.ftc (x.next l 14).1.2))
 else if aG x.s x.p ≠ 66 then (({ x with p := x.p + 14 }, (x.next l 14).1.2), (0, (2, (x.p : Int))))
 else if aG x.s (x.p + 1) ≠ 77 then (({ x with p := x.p + 14 }, (x.next l 14).1.2), (0, (2, (x.p : Int) + 1)))
 else (({ x with p := x.p + 14 }, (x.next l 14).1.2), (aC x.s (x.p + 10) 4, (0, 0)))
theorem low4_or (x0 x1 x2 x3 : Int) (h0 : 0 ≤ x0 ∧ x0 < 256) (h1 : 0 ≤ x1 ∧ x1 < 256) (h2 : 0 ≤ x2 ∧ x2 < 256) (h3 : 0 ≤ x3 ∧ x3 < 256) :
 bits .or .i64 (bits .or .i64 (bits .or .i64 x0 (x1 * 256)) (x2 * 65536)) (x3 * 16777216) = x0 + x1 * 256 + x2 * 65536 + x3 * 16777216 := by
 have p8 : (2 : Int) ^ 8 = 256 := by decide
 have p16 : (2 : Int) ^ 16 = 65536 := by decide
 have p24 : (2 : Int) ^ 24 = 16777216 := by decide
 have p62 : (2 : Int) ^ 62 = 4611686018427387904 := by decide
 have a1 := or_low 8 x0 x1 h0.1 (by omega) h1.1 (by omega)
 rw [p8] at a1
 have a2 := or_low 16 (x0 + x1 * 256) x2 (by omega) (by omega) h2.1 (by omega)
 rw [p16] at a2
 have a3 := or_low 24 (x0 + x1 * 256 + x2 * 65536) x3 (by omega) (by omega) h3.1 (by omega)
 rw [p24] at a3
 rw [a1, a2, a3]
theorem blow_any (s : ByteArray) (a : Nat) (w : World) (h : a + 4 ≤ s.size) (hs : s.size ≤ 9223372036854775807) : Calls Tryz.prog 58 #[.string s, J I a] w fun e w' => e = .returned (J I (aC s a 4)) ∧ Below w.heap.size w w' := by
 obtain ⟨x0, e0⟩ : ∃ x, aG s a = x := ⟨_, rfl⟩
 obtain ⟨x1, e1⟩ : ∃ x, aG s (a + 1) = x := ⟨_, rfl⟩
 obtain ⟨x2, e2⟩ : ∃ x, aG s (a + 2) = x := ⟨_, rfl⟩
 obtain ⟨x3, e3⟩ : ∃ x, aG s (a + 3) = x := ⟨_, rfl⟩
 have b0 := aS s a
 have b1 := aS s (a + 1)
 have b2 := aS s (a + 2)
 have b3 := aS s (a + 3)
 rw [e0] at b0
 rw [e1] at b1
 rw [e2] at b2
 rw [e3] at b3
 have EL := Hi (show bits .or .i64 (bits .or .i64 (bits .or .i64 x0 (x1 * 256)) (x2 * 65536)) (x3 * 16777216) = aC s a 4 by
  rw [low4_or x0 x1 x2 x3 b0 b1 b2 b3]
  unfold aC aC aC aC aC
  rw [Nat.add_zero, e0, e1, e2, e3]
  rw [show (2 : Int) ^ (8 * 0) = 1 from rfl, show (2 : Int) ^ (8 * 1) = 256 from rfl, show (2 : Int) ^ (8 * 2) = 65536 from rfl, show (2 : Int) ^ (8 * 3) = 16777216 from rfl]
  omega)
 have j0 : ((a : Int)).toNat = a := by omega
 have j1 : ((a : Int) + 1).toNat = a + 1 := by omega
 have j2 : ((a : Int) + 2).toNat = a + 2 := by omega
 have j3 : ((a : Int) + 3).toNat = a + 3 := by omega
 have n0 : a < s.size := by omega
 have n1 : a + 1 < s.size := by omega
 have n2 : a + 2 < s.size := by omega
 have n3 : a + 3 < s.size := by omega
 have g0 : ((s[a]).toNat : Int) = x0 := by rw [← e0]; exact aX s _ n0
 have g1 : ((s[a + 1]).toNat : Int) = x1 := by rw [← e1]; exact aX s _ n1
 have g2 : ((s[a + 2]).toNat : Int) = x2 := by rw [← e2]; exact aX s _ n2
 have g3 : ((s[a + 3]).toNat : Int) = x3 := by rw [← e3]; exact aX s _ n3
 have m0 : (0 : Int) ≤ (a : Int) := by omega
 have m1 : (0 : Int) ≤ (a : Int) + 1 := by omega
 have m2 : (0 : Int) ≤ (a : Int) + 2 := by omega
 have m3 : (0 : Int) ≤ (a : Int) + 3 := by omega
 have q0 : (a : Int) < s.size := by omega
 have q1 : (a : Int) + 1 < s.size := by omega
 have q2 : (a : Int) + 2 < s.size := by omega
 have q3 : (a : Int) + 3 < s.size := by omega
 clear e0 e1 e2 e3
 go_enter Tryz.func58, Tryz.ntmps58
 go_upto_region 1 with (fail)
 go_quiet (fail)
 go_wp2
 go_ret
 exact ⟨ret_i EL.out, bdrew (Below.refl _ _) _⟩
theorem bwrong_any (p : Int) (w : World) : Calls Tryz.prog 27 #[J I p] w fun e w' => e = .returned (.agg (fc 1 (2, p)).toArray) ∧ Below w.heap.size w w' := by
 go_enter Tryz.func27, Tryz.ntmps27
 go_wp2
 refine bodyPost_ret (v := .agg (fc 1 (2, p)).toArray) (by simp [results, Tryz.results27, go_sem, fc]) rfl ⟨rfl, ?_⟩
 exact (Below.refl _ _).alloc (Nat.le_refl _) _
theorem bbegin_any {d0 : Nat} {w : World} {X : Nat} {x y : Sr} {m : Led} (h : Rdr d0 w X x y m) : Calls Tryz.prog 24 #[Y (some ⟨X, 0, none⟩)] w (RdPost d0 w X x (y.bbeg m).1 (.tuple #[J I (y.bbeg m).2.1, .agg (fc 1 (y.bbeg m).2.2).toArray])) := by
 suffices H : Calls Tryz.prog 24 #[Y (some ⟨X, 0, none⟩)] w (RdPost w.heap.size w X x (y.bbeg m).1 (.tuple #[J I (y.bbeg m).2.1, .agg (fc 1 (y.bbeg m).2.2).toArray])) from H.mono fun e w' hh => ⟨hh.1, hh.2.1.to h, hh.2.2⟩
 have PX := Hi (h.self.alloc (.cells #[J I 0, J I 0, J I 0] 31))
 have OF := Hi (aA w #[J I 0, J I 0, J I 0] 31)
 have CH := Hi ((Chg.refl (two X x) w).alloc (.cells #[J I 0, J I 0, J I 0] 31))
 have HSY := Hi h.es
 obtain ⟨R, hR⟩ : ∃ R, y.bbeg m = R := ⟨_, rfl⟩
 rw [hR]
 have HRE := Hi hR
 obtain ⟨d, hd⟩ : ∃ d, w.heap.size = d := ⟨_, rfl⟩
 have HDe := Hi hd
 rw [hd] at PX OF ⊢
 clear h hR
 go_enter Tryz.func24, Tryz.ntmps24
 go_upto_region 1 with (fail)
 clear hd
 generalize World.alloc _ _ = wr at PX OF CH ⊢
 replace HRE := Hi (show (if (y.next m 14).2.2 = false then ((y, (y.next m 14).1.2), ((0 : Int), y.ftc (y.next m 14).1.2))
 else if aG y.s y.p ≠ 66 then (({ y with p := y.p + 14 }, (y.next m 14).1.2), (0, (2, (y.p : Int))))
 else if aG y.s (y.p + 1) ≠ 77 then (({ y with p := y.p + 14 }, (y.next m 14).1.2), (0, (2, (y.p : Int) + 1)))
 else (({ y with p := y.p + 14 }, (y.next m 14).1.2), (aC y.s (y.p + 10) 4, (0, 0)))) = R from HRE.out)
 cases hok : (y.next m 14).2.2 with
 | false =>
   have HU := Hi (fun w0 (h0 : Rdr d w0 X x y m) => rd_taken h0 14 hok)
   obtain ⟨n1, hn1⟩ : ∃ n1, (y.next m 14).1.2 = n1 := ⟨_, rfl⟩
   rw [show ((14 : Nat) : Int) = 14 from rfl, hn1] at HU
   obtain ⟨F, hF⟩ : ∃ F, y.ftc n1 = F := ⟨_, rfl⟩
   have HFL := Hi (fun w0 (h0 : Rdr d w0 X x y n1) => (rd_faultf h0 1).mono (R' := fun e w' => e = .returned (.agg (fc 1 F).toArray) ∧ Below w0.heap.size w0 w') fun e w' hh => by rw [hF] at hh; exact hh)
   have E := Hi (show R = ((y, n1), (0, F)) by have := HRE.out; rw [if_pos hok, hn1, hF] at this; exact this.symm)
   clear hok hn1 hF
   go_wp2_with (first
    | ((go_at_call 23; (with_reducible refine (rd_at PX.out).mono ?_); rintro e ws1 ⟨rfl, rfl⟩))
    | ((go_at_call 57; (with_reducible refine (HU.out _ PX.out).mono ?_); rintro e wp ⟨rfl, hp1, hc1⟩); have OF := Hi (hc1.obj OF.out (not_twoR PX.out (by omega))); have PX := Hi hp1; have CH := Hi (CH.out.trans hc1); clear hp1 hc1)
    | ((go_at_call 37; (with_reducible refine (HFL.out _ PX.out).mono ?_); rintro e wb ⟨rfl, hb⟩); have PX := Hi (PX.out.upon hb); have OF := Hi (OF.out.below hb OF.out.lt); have CH := Hi (CH.out.trans (aB hb _)); clear hb)
    | (refine so 31 3 (d) (fc 1 F) OF.out ?_; intro ws hst hO; have OF := Hi hO; have PX := Hi (PX.out.into hst (by omega)); have CH := Hi (Stored.chg hst CH.out (by have := HDe.out; omega)); clear hst hO))
   refine bodyPost_ret (v := .tuple #[J I 0, .agg (fc 1 F).toArray]) ?_ rfl ⟨by rw [E.out], by rw [E.out]; exact PX.out, CH.out⟩
   exact rs_1c Tryz.results24 _ _ _ (fc 1 F) _ rfl OF.out.range0 Tryz.underlying31 rfl (by kernel_rfl)
 | true =>
   have HU := Hi (fun w0 (h0 : Rdr d w0 X x y m) => rd_takey h0 14 hok)
   obtain ⟨q1, q2, q3, -⟩ := next_ok hok
   have hes := PX.out.pr.src.ok.es
   have hsz := PX.out.pr.src.ok.sz
   have hpe := PX.out.pr.src.ok.pe
   obtain ⟨n1, hn1⟩ : ∃ n1, (y.next m 14).1.2 = n1 := ⟨_, rfl⟩
   obtain ⟨b, hb⟩ : ∃ b, y.s.extract y.p (y.p + 14) = b := ⟨_, rfl⟩
   have hbz : b.size = 14 := by rw [← hb, ByteArray.size_extract]; omega
   have hext : ∀ k, k < 14 → aG b k = aG y.s (y.p + k) := fun k hk => by rw [← hb]; exact byN_ext y.s y.p (y.p + 14) k (by omega) (by omega)
   rw [show ((14 : Nat) : Int) = 14 from rfl, hn1, hb] at HU
   obtain ⟨z1, hz1⟩ : ∃ q, ({ y with p := y.p + 14 } : Sr) = q := ⟨_, rfl⟩
   rw [hz1] at HU
   have HPB := Hi (show (y.p : Int) < 9223372036854775800 by omega)
   have HLOW := Hi (show aC b 10 4 = aC y.s (y.p + 10) 4 by
    unfold aC aC aC aC aC
    rw [hext (10 + 0) (by omega), hext (10 + 1) (by omega), hext (10 + 2) (by omega), hext (10 + 3) (by omega)])
   obtain ⟨V, hV⟩ : ∃ V, aC b 10 4 = V := ⟨_, rfl⟩
   have HLW := Hi (fun w0 => (blow_any b 10 w0 (by omega) (by omega)).mono (R' := fun e w' => e = .returned (J I V) ∧ Below w0.heap.size w0 w') fun e w' hh => by rw [hV] at hh; exact hh)
   rw [show ((10 : Nat) : Int) = 10 from rfl] at HLW
   obtain ⟨x0, hx0⟩ : ∃ x, aG y.s y.p = x := ⟨_, rfl⟩
   obtain ⟨x1, hx1⟩ : ∃ x, aG y.s (y.p + 1) = x := ⟨_, rfl⟩
   replace HRE := Hi (show (if x0 ≠ 66 then ((z1, n1), ((0 : Int), ((2 : Int), (y.p : Int)))) else if x1 ≠ 77 then ((z1, n1), (0, (2, (y.p : Int) + 1))) else ((z1, n1), (V, (0, 0)))) = R by
    have := HRE.out
    rw [if_neg (by rw [hok]; decide), hn1, hz1, hx0, hx1, ← HLOW.out, hV] at this
    exact this)
   have i0 : 0 < b.size := by omega
   have i1 : 1 < b.size := by omega
   have g0 : ((b[0]).toNat : Int) = x0 := by rw [← hx0, ← Nat.add_zero y.p, ← hext 0 (by omega)]; exact aX b 0 i0
   have g1 : ((b[1]).toNat : Int) = x1 := by rw [← hx1, ← hext 1 (by omega)]; exact aX b 1 i1
   clear hok q1 q2 q3 hes hsz hpe hn1 hb hext hz1 hV hx0 hx1
   by_cases h6 : x0 = 66
   rotate_left
   · have t1 : (x0 != 66) = true := by rw [bne_iff_ne]; exact h6
     have E := Hi (show R = ((z1, n1), (0, (2, (y.p : Int)))) by have := HRE.out; rw [if_pos h6] at this; exact this.symm)
     have HWR := Hi (fun w0 => bwrong_any (y.p : Int) w0)
     clear h6
     go_wp2_with (first
      | ((go_at_call 23; (with_reducible refine (rd_at PX.out).mono ?_); rintro e ws1 ⟨rfl, rfl⟩))
      | ((go_at_call 57; (with_reducible refine (HU.out _ PX.out).mono ?_); rintro e wp ⟨rfl, hp1, hc1⟩); have OF := Hi (hc1.obj OF.out (not_twoR PX.out (by omega))); have PX := Hi hp1; have CH := Hi (CH.out.trans hc1); clear hp1 hc1)
      | ((go_at_call 27; (with_reducible refine (HWR.out _).mono ?_); rintro e wb ⟨rfl, hb⟩); have PX := Hi (PX.out.upon hb); have OF := Hi (OF.out.below hb OF.out.lt); have CH := Hi (CH.out.trans (aB hb _)); clear hb)
      | (refine so 31 3 (d) (fc 1 (2, (y.p : Int))) OF.out ?_; intro ws hst hO; have OF := Hi hO; have PX := Hi (PX.out.into hst (by omega)); have CH := Hi (Stored.chg hst CH.out (by have := HDe.out; omega)); clear hst hO))
     refine bodyPost_ret (v := .tuple #[J I 0, .agg (fc 1 (2, (y.p : Int))).toArray]) ?_ rfl ⟨by rw [E.out], by rw [E.out]; exact PX.out, CH.out⟩
     exact rs_1c Tryz.results24 _ _ _ (fc 1 (2, (y.p : Int))) _ rfl OF.out.range0 Tryz.underlying31 rfl (by kernel_rfl)
   have t1 : (x0 != 66) = false := by rw [h6]; rfl
   by_cases h7 : x1 = 77
   rotate_left
   · have t2 : (x1 != 77) = true := by rw [bne_iff_ne]; exact h7
     have E := Hi (show R = ((z1, n1), (0, (2, (y.p : Int) + 1))) by have := HRE.out; rw [if_neg (fun h => h h6), if_pos h7] at this; exact this.symm)
     have HWR := Hi (fun w0 => bwrong_any ((y.p : Int) + 1) w0)
     have w1 : IntKind.i64.wrap ((y.p : Int) + 1) = (y.p : Int) + 1 := i64_wrap_id _ (by omega) (by have := HPB.out; omega)
     clear h6 h7
     go_wp2_with (first
      | ((go_at_call 23; (with_reducible refine (rd_at PX.out).mono ?_); rintro e ws1 ⟨rfl, rfl⟩))
      | ((go_at_call 57; (with_reducible refine (HU.out _ PX.out).mono ?_); rintro e wp ⟨rfl, hp1, hc1⟩); have OF := Hi (hc1.obj OF.out (not_twoR PX.out (by omega))); have PX := Hi hp1; have CH := Hi (CH.out.trans hc1); clear hp1 hc1)
      | ((go_at_call 27; (with_reducible refine (HWR.out _).mono ?_); rintro e wb ⟨rfl, hb⟩); have PX := Hi (PX.out.upon hb); have OF := Hi (OF.out.below hb OF.out.lt); have CH := Hi (CH.out.trans (aB hb _)); clear hb)
      | (refine so 31 3 (d) (fc 1 (2, (y.p : Int) + 1)) OF.out ?_; intro ws hst hO; have OF := Hi hO; have PX := Hi (PX.out.into hst (by omega)); have CH := Hi (Stored.chg hst CH.out (by have := HDe.out; omega)); clear hst hO))
     refine bodyPost_ret (v := .tuple #[J I 0, .agg (fc 1 (2, (y.p : Int) + 1)).toArray]) ?_ rfl ⟨by rw [E.out], by rw [E.out]; exact PX.out, CH.out⟩
     exact rs_1c Tryz.results24 _ _ _ (fc 1 (2, (y.p : Int) + 1)) _ rfl OF.out.range0 Tryz.underlying31 rfl (by kernel_rfl)
   have t2 : (x1 != 77) = false := by rw [h7]; rfl
   have E := Hi (show R = ((z1, n1), (V, (0, 0))) by have := HRE.out; rw [if_neg (fun h => h h6), if_neg (fun h => h h7)] at this; exact this.symm)
   clear h6 h7
   go_wp2_with (first
    | ((go_at_call 23; (with_reducible refine (rd_at PX.out).mono ?_); rintro e ws1 ⟨rfl, rfl⟩))
    | ((go_at_call 57; (with_reducible refine (HU.out _ PX.out).mono ?_); rintro e wp ⟨rfl, hp1, hc1⟩); have OF := Hi (hc1.obj OF.out (not_twoR PX.out (by omega))); have PX := Hi hp1; have CH := Hi (CH.out.trans hc1); clear hp1 hc1)
    | ((go_at_call 58; (with_reducible refine (HLW.out _).mono ?_); rintro e wb ⟨rfl, hb⟩); have PX := Hi (PX.out.upon hb); have OF := Hi (OF.out.below hb OF.out.lt); have CH := Hi (CH.out.trans (aB hb _)); clear hb)
    | (refine so 31 3 (d) (fc 1 (0, 0)) OF.out ?_; intro ws hst hO; have OF := Hi hO; have PX := Hi (PX.out.into hst (by omega)); have CH := Hi (Stored.chg hst CH.out (by have := HDe.out; omega)); clear hst hO))
   refine bodyPost_ret (v := .tuple #[J I V, .agg (fc 1 (0, 0)).toArray]) ?_ rfl ⟨by rw [E.out], by rw [E.out]; exact PX.out, CH.out⟩
   exact rs_1c Tryz.results24 _ _ _ (fc 1 (0, 0)) _ rfl OF.out.range0 Tryz.underlying31 rfl (by kernel_rfl)
end Go.Proofs.YtfchnibjjokmbaaGreat

/- Small facts that every text of this seat leans on: bits of machine integers, worlds behind calls. No program in sight. -/
import Derived.WalkKit
import Derived.WalkSpells
import Derived.WalkLawsBesides
import Derived.Handy
import Derived.Lib.Hide
import Derived.Deep.QuietTactic
import Derived.BigQuiet
import Derived.Deep.MidRow
import Derived.Test.YtapdgfeekipidaaGreatDoorProg
import Derived.Laws.LoneSync
import Derived.RegionCalls
import Derived.Defers
import Derived.StillTailTactics
import Derived.Lib.EndianBits
import Derived.StillTail
import Derived.Deep.Quiet
import Derived.Deep.CutRange
import Derived.Deep.RegionHeld3
namespace Go.Proofs.YtapdgfeekipidaaGreatDoor
theorem Hi {p : Prop} (h : p) : Go.RowKit.Hid p := h
open Go.RowKit
theorem zq1 {α : Type} (l : List α) (i : Nat) (a : α) : l.toArray.setIfInBounds i a = (l.set i a).toArray := List.setIfInBounds_toArray ..
theorem zq2 {α : Type} {a b : α} {l : List α} : (a :: l).set 0 b = b :: l := rfl
theorem zq3 {α : Type} {a b : α} {l : List α} {n : Nat} : (a :: l).set (n + 1) b = a :: l.set n b := rfl
theorem zq4 {α : Type} {l : List α} {i : Nat} (h : i < l.toArray.size) : l.toArray[i] = l[i]'(by simpa using h) := rfl
theorem zq5 {α : Type} {a : α} {l : List α} (h : 0 < (a :: l).length) : (a :: l)[0] = a := rfl
theorem zq6 {α : Type} {a : α} {l : List α} {i : Nat} (h : i + 1 < (a :: l).length) : (a :: l)[i + 1] = l[i]'(by simpa using h) := rfl
set_option linter.unusedVariables false

theorem bthen {B n : Nat} {a b c : World} (hb : Below n b c) (h : Below B a b) (hn : B ≤ n) : Below B a c := h.trans (hb.mono hn)
def rd (w : World) (r o : Nat) : Value := (w.cell? ⟨r, o, none⟩).getD undef
abbrev Slot (r n : Nat) (w' : World) : Prop := (∀ o, w'.frozen? ⟨r, o, none⟩ = false) ∧ (∀ o, o < n → w'.cell? ⟨r, o, none⟩ = some (rd w' r o)) ∧ r < w'.heap.size
theorem slot_of {r n : Nat} {w : World} (h : ∀ o, w.frozen? ⟨r, o, none⟩ = false) (hc : ∀ o, o < n → ∃ v, w.cell? ⟨r, o, none⟩ = some v) (hr : r < w.heap.size) : Slot r n w :=
  ⟨h, fun o ho => by obtain ⟨v, hv⟩ := hc o ho; unfold rd; rw [hv]; rfl, hr⟩
theorem slot_set {r n : Nat} {w : World} (h : Slot r n w) (a : Addr) (u : Value) : Slot r n (w.setCell a u) :=
  slot_of (fun o => by rw [World.frozen?_setCell]; exact h.1 o) (fun o ho => cell?_setCell_some (h.2.1 o ho)) (by simpa [World.setCell] using h.2.2)
theorem below_setCells {B b : Nat} {a : World} (hb : B ≤ b) : ∀ (vs : List Value) (o : Nat) (w : World), Below B a w → Below B a (w.setCells b o vs)
  | [], _, _, h => h
  | v :: r, o, w, h => below_setCells hb r (o + 1) _ (h.setCell hb v)
theorem store_mid {P : Program} {ops : Array Oper} {rest : List Oper} {op : Oper} {a : Act} {w : World} {Q : Exit → Act → World → Prop} (hgd : op.guard = none) (ty : TypeId) (x y : Operand) (ho : op.op = .store ty x y)
    (b o : Nat) (cells : Array Value) (hx : a.eval x = .pointer (some ⟨b, o, none⟩)) (hy : a.eval y = .agg cells)
    (ht : w.there b o cells.size) (hi : (P.info? ty).map (·.size) = some cells.size) (h1 : cells.toList.all (·.oneCell') = true)
    (h : wpList P ops Q rest (a.put op.dst undef) (w.setCells b o cells.toList)) : wpList P ops Q (op :: rest) a w :=
  wpList_store_mid hgd ty x y ho b o cells hx hy ht hi (by rw [← Array.all_toList]; exact h1) h
theorem bdrew {B : Nat} {a w : World} (h : Below B a w) (n : Nat) : Below B a (w.drewN n) := by
  induction n generalizing w with
  | zero => exact h
  | succ n ih => exact (ih h).drew
/-! ### bits of an int -/
theorem i64_wrap_id (n : Int) (h₀ : 0 ≤ n) (h₁ : n < 2 ^ 63) : IntKind.i64.wrap n = n := by rw [IntKind.wrap_i64]; omega
theorem pow_pos' (i : Nat) : (0 : Int) < 2 ^ i := Int.pow_pos (by decide)
theorem pow_le' {i j : Nat} (h : i ≤ j) : (2 : Int) ^ i ≤ 2 ^ j := by
  have : (2 : Nat) ^ i ≤ 2 ^ j := Nat.pow_le_pow_right (by decide) h
  exact_mod_cast this
end Go.Proofs.YtapdgfeekipidaaGreatDoor
namespace Go.Proofs.YtapdgfeekipidaaGreatDoor
open Go.RowKit
def Stored (w : World) (b o : Nat) (vs : List Value) (w2 : World) : Prop := w2 = w.setCells b o vs
theorem store_gen {P : Program} {ops : Array Oper} {rest : List Oper} {op : Oper} {a : Act} {w : World} {Q : Exit → Act → World → Prop} (hgd : op.guard = none) (ty : TypeId) (x y : Operand) (ho : op.op = .store ty x y)
    (b o : Nat) (cells : Array Value) (hx : a.eval x = .pointer (some ⟨b, o, none⟩)) (hy : a.eval y = .agg cells)
    (ht : w.there b o cells.size) (hi : (P.info? ty).map (·.size) = some cells.size) (h1 : cells.toList.all (·.oneCell') = true)
    (h : ∀ w2, Stored w b o cells.toList w2 → wpList P ops Q rest (a.put op.dst undef) w2) : wpList P ops Q (op :: rest) a w :=
  store_mid hgd ty x y ho b o cells hx hy ht hi h1 (h _ rfl)
theorem Stored.below {w w2 a : World} {b o B : Nat} {vs : List Value} (h : Stored w b o vs w2) (hb : Below B a w) (hB : B ≤ b) : Below B a w2 := by
  rw [show w2 = _ from h]; exact below_setCells hB vs o w hb
theorem Stored.cell {w w2 : World} {b o : Nat} {vs : List Value} (h : Stored w b o vs w2) (b' o' : Nat) (hn : b' ≠ b ∨ o' < o ∨ o + vs.length ≤ o') : w2.cell? ⟨b', o', none⟩ = w.cell? ⟨b', o', none⟩ := by
  rw [show w2 = _ from h]
  exact World.cell?_setCells_out b vs o w _ (fun e _ => by rcases hn with hn | hn; · exact absurd e hn
                                                           · exact hn)
theorem Stored.frozen {w w2 : World} {b o : Nat} {vs : List Value} (h : Stored w b o vs w2) (a : Addr) : w2.frozen? a = w.frozen? a := by
  rw [show w2 = _ from h]; exact World.frozen?_setCells ..
theorem Stored.size {w w2 : World} {b o : Nat} {vs : List Value} (h : Stored w b o vs w2) : w2.heap.size = w.heap.size := by
  rw [show w2 = _ from h]; clear h
  induction vs generalizing w o with
  | nil => rfl
  | cons v r ih => rw [World.setCells, ih]; simp [World.setCell]
theorem Stored.slot {w w2 : World} {b o r n : Nat} {vs : List Value} (h : Stored w b o vs w2) (hs : Slot r n w) : Slot r n w2 := by
  rw [show w2 = _ from h]; clear h
  induction vs generalizing w o with
  | nil => exact hs
  | cons v rs ih => rw [World.setCells]; exact ih (slot_set hs _ _)
theorem results_c {P : Program} {fn : Func} {p : Tmp} {ty : TypeId} (h : fn.results = #[.cell p ty]) (tmps : Array Value) (w : World) (b : Nat) (cs : List Value) (d : TypeDesc)
    (hp : tmps.getD p undef = .pointer (some ⟨b, 0, none⟩)) (R : w.rangeAt b 0 cs) (hu : P.underlying ty = some d) (hd : d.isRow = true) (hi : (P.info? ty).map (·.size) = some cs.length) :
    (results fn tmps).run P w = .ok (.agg cs.toArray) w := by
  have hp' : tmps[p]?.getD undef = .pointer (some ⟨b, 0, none⟩) := by simpa using hp
  simp [results, h, hp', asAddr, run_loadVar_mid w b 0 ty cs d R hu hd hi]
end Go.Proofs.YtapdgfeekipidaaGreatDoor
namespace Go.Proofs.YtapdgfeekipidaaGreatDoor
open Go.RowKit
set_option linter.unusedVariables false
def Obj1 (w : World) (b : Nat) (cs : Array Value) (T : TypeId) : Prop := w.heap[b]? = some (.cells cs T (0, 0))
theorem Obj1.cell {w : World} {b : Nat} {cs : Array Value} {T : TypeId} (h : Obj1 w b cs T) (i : Nat) : w.cell? ⟨b, i, none⟩ = cs[i]? := by
  unfold Obj1 at h; simp [World.cell?, h]
theorem Obj1.frozen {w : World} {b : Nat} {cs : Array Value} {T : TypeId} (h : Obj1 w b cs T) (i : Nat) : w.frozen? ⟨b, i, none⟩ = false := by
  unfold Obj1 at h; simp [World.frozen?, h]
theorem Obj1.lt {w : World} {b : Nat} {cs : Array Value} {T : TypeId} (h : Obj1 w b cs T) : b < w.heap.size := (Array.getElem?_eq_some_iff.1 h).1
theorem Obj1.set {w : World} {b : Nat} {cs : Array Value} {T : TypeId} (h : Obj1 w b cs T) (i : Nat) (v : Value) : Obj1 (w.setCell ⟨b, i, none⟩ v) b (cs.setIfInBounds i v) T := by
  unfold Obj1 at h ⊢; simp [World.setCell, Array.getElem?_modify, h]
theorem Obj1.set_other {w : World} {b : Nat} {cs : Array Value} {T : TypeId} (h : Obj1 w b cs T) (a : Addr) (v : Value) (hn : b ≠ a.block) : Obj1 (w.setCell a v) b cs T := by
  unfold Obj1 at h ⊢; rw [Below.heap_setCell _ _ _ _ hn]; exact h
theorem Obj1.alloc {w : World} {b : Nat} {cs : Array Value} {T : TypeId} (h : Obj1 w b cs T) (o : Obj) : Obj1 (w.alloc o) b cs T := by
  have hl := h.lt
  unfold Obj1 at h ⊢; rw [Below.heap_alloc _ _ _ hl]; exact h
theorem Obj1.drew {w : World} {b : Nat} {cs : Array Value} {T : TypeId} (h : Obj1 w b cs T) : Obj1 w.drew b cs T := h
theorem drewN_heap (w : World) (n : Nat) : (w.drewN n).heap = w.heap := by
  induction n generalizing w with
  | zero => rfl
  | succ n ih => exact ih w.drew
theorem Obj1.drewN {w : World} {b : Nat} {cs : Array Value} {T : TypeId} (h : Obj1 w b cs T) (n : Nat) : Obj1 (w.drewN n) b cs T := by
  unfold Obj1 at h ⊢; rw [drewN_heap]; exact h
theorem obj1_new (w : World) (cs : Array Value) (T : TypeId) : Obj1 (w.alloc (.cells cs T)) w.heap.size cs T := heap_alloc_new w _
theorem Obj1.below {w w' : World} {b B : Nat} {cs : Array Value} {T : TypeId} (h : Obj1 w b cs T) (hb : Below B w w') (hlt : b < B) : Obj1 w' b cs T := by
  unfold Obj1 at h ⊢; rw [hb.block b hlt]; exact h
structure Chg (S : Nat → Prop) (w w' : World) : Prop where
  os : w'.os = w.os
  tape : w'.tape = w.tape
  output : w'.output = w.output
  size : w.heap.size ≤ w'.heap.size
  block : ∀ k, k < w.heap.size → ¬ S k → w'.heap[k]? = w.heap[k]?
theorem Chg.refl (S : Nat → Prop) (w : World) : Chg S w w := ⟨rfl, rfl, rfl, Nat.le_refl _, fun _ _ _ => rfl⟩
theorem Chg.trans {S : Nat → Prop} {a b c : World} (h : Chg S a b) (k : Chg S b c) : Chg S a c :=
  ⟨k.os.trans h.os, k.tape.trans h.tape, k.output.trans h.output, Nat.le_trans h.size k.size, fun i hi hs => (k.block i (Nat.lt_of_lt_of_le hi h.size) hs).trans (h.block i hi hs)⟩
theorem Chg.mono {S S' : Nat → Prop} {w w' : World} (h : Chg S w w') (hS : ∀ k, k < w.heap.size → S k → S' k) : Chg S' w w' := ⟨h.os, h.tape, h.output, h.size, fun k hk hn => h.block k hk (fun hs => hn (hS k hk hs))⟩
theorem Chg.drew {S : Nat → Prop} {a w : World} (h : Chg S a w) : Chg S a w.drew := ⟨h.os, h.tape, h.output, h.size, h.block⟩
theorem Chg.drewN {S : Nat → Prop} {a w : World} (h : Chg S a w) (n : Nat) : Chg S a (w.drewN n) := by
  induction n with
  | zero => exact h
  | succ n ih => exact ih.drew
theorem Chg.set {S : Nat → Prop} {a w : World} (h : Chg S a w) (p : Addr) (v : Value) (hp : S p.block ∨ a.heap.size ≤ p.block) : Chg S a (w.setCell p v) :=
  ⟨h.os, h.tape, h.output, by simpa [World.setCell] using h.size, fun k hk hn => by
    rw [Below.heap_setCell _ _ _ _ (fun e => by subst e; rcases hp with hp | hp; · exact hn hp
                                                · omega)]
    exact h.block k hk hn⟩
theorem Chg.alloc {S : Nat → Prop} {a w : World} (h : Chg S a w) (o : Obj) : Chg S a (w.alloc o) :=
  ⟨h.os, h.tape, h.output, Nat.le_trans h.size (by simp), fun k hk hn => (Below.heap_alloc _ _ _ (Nat.lt_of_lt_of_le hk h.size)).trans (h.block k hk hn)⟩
theorem Chg.below {S : Nat → Prop} {w w' : World} (h : Chg S w w') {B : Nat} (hB : B ≤ w.heap.size) (hS : ∀ k, S k → B ≤ k) : Below B w w' :=
  ⟨h.os, h.tape, h.output, h.size, fun k hk => h.block k (by omega) (fun hs => by have := hS k hs; omega)⟩
theorem Chg.obj {S : Nat → Prop} {w w' : World} (h : Chg S w w') {b : Nat} {cs : Array Value} {T : TypeId} (ho : Obj1 w b cs T) (hn : ¬ S b) : Obj1 w' b cs T := by
  have hl := ho.lt
  unfold Obj1 at ho ⊢; rw [h.block b hl hn]; exact ho
theorem Chg.cell {S : Nat → Prop} {w w' : World} (h : Chg S w w') {b o : Nat} (hb : b < w.heap.size) (hn : ¬ S b) : w'.cell? ⟨b, o, none⟩ = w.cell? ⟨b, o, none⟩ := World.cell?_of_block (w := w) (h.block b hb hn)
structure Led where
  mw : Int
  mh : Int
  mb : Int
  mx : Int
  bt : Int
  pk : Int
  st : Int
  br : Bool
  rs : Int
  ak : Int
def bi (b : Bool) : Int := if b then 1 else 0
def Led.cells (s : Led) : Array Value := #[.int .i64 s.mw, .int .i64 s.mh, .int .i64 s.mb, .int .i64 s.mx, .int .i64 s.bt, .int .i64 s.pk, .int .i64 s.st, .int .u32 (bi s.br), .int .u32 (bi s.br), .int .i32 0, .int .u32 0, .int .i64 s.rs, .int .i64 s.ak]
structure Led.ok (s : Led) : Prop where
  b0 : 0 ≤ s.bt
  b1 : s.bt ≤ s.mb
  b2 : s.mb ≤ 9223372036854775807
  s0 : 0 ≤ s.st
  s1 : s.st ≤ s.mx
  s2 : s.mx ≤ 9223372036854775807
structure LedAt (w : World) (L : Nat) (s : Led) : Prop where
  obj : Obj1 w L s.cells 94
  ok : s.ok
theorem LedAt.lt {w : World} {L : Nat} {s : Led} (h : LedAt w L s) : L < w.heap.size := h.obj.lt
def Led.refuse (s : Led) (r n : Int) : Led := { s with br := true, rs := r, ak := n }
def Led.work (s : Led) (n : Int) : Led × Bool := if s.br = true then (s, false) else if n < 0 ∨ s.mx - s.st < n then (s.refuse 3 n, false) else ({ s with st := s.st + n }, true)
def Led.new (mw mh mb mk : Int) : Led := ⟨max mw 0, max mh 0, max mb 0, max mk 0, 0, 0, 0, false, 0, 0⟩
structure Sr where
  L : Nat
  s : ByteArray
  b : Nat
  e : Nat
  p : Nat
def Sr.cells (x : Sr) : Array Value := #[.pointer (some ⟨x.L, 0, none⟩), .string x.s, .int .i64 x.b, .int .i64 x.e, .int .i64 x.p]
structure Sr.ok (x : Sr) : Prop where
  bp : x.b ≤ x.p
  pe : x.p ≤ x.e
  es : x.e ≤ x.s.size
  sz : x.s.size ≤ 9223372036854775807
structure SrcAt (w : World) (X : Nat) (x : Sr) : Prop where
  obj : Obj1 w X x.cells 96
  ok : x.ok
  ne : X ≠ x.L
theorem SrcAt.lt {w : World} {X : Nat} {x : Sr} (h : SrcAt w X x) : X < w.heap.size := h.obj.lt
theorem SrcAt.c0 {w : World} {X : Nat} {x : Sr} (h : SrcAt w X x) : w.cell? ⟨X, 0, none⟩ = some (.pointer (some ⟨x.L, 0, none⟩)) := (h.obj.cell 0).trans rfl
theorem SrcAt.c1 {w : World} {X : Nat} {x : Sr} (h : SrcAt w X x) : w.cell? ⟨X, 1, none⟩ = some (.string x.s) := (h.obj.cell 1).trans rfl
theorem SrcAt.c2 {w : World} {X : Nat} {x : Sr} (h : SrcAt w X x) : w.cell? ⟨X, 2, none⟩ = some (.int .i64 x.b) := (h.obj.cell 2).trans rfl
theorem SrcAt.c3 {w : World} {X : Nat} {x : Sr} (h : SrcAt w X x) : w.cell? ⟨X, 3, none⟩ = some (.int .i64 x.e) := (h.obj.cell 3).trans rfl
theorem SrcAt.drewN {w : World} {X : Nat} {x : Sr} (h : SrcAt w X x) (n : Nat) : SrcAt (w.drewN n) X x := ⟨h.obj.drewN n, h.ok, h.ne⟩
theorem LedAt.drewN {w : World} {X : Nat} {x : Led} (h : LedAt w X x) (n : Nat) : LedAt (w.drewN n) X x := ⟨h.obj.drewN n, h.ok⟩
theorem SrcAt.put {w : World} {X : Nat} {x : Sr} (h : SrcAt w X x) (p : Nat) (h1 : x.b ≤ p) (h2 : p ≤ x.e) : SrcAt (w.setCell ⟨X, 4, none⟩ (.int .i64 p)) X { x with p := p } := ⟨h.obj.set 4 _, ⟨h1, h2, h.ok.es, h.ok.sz⟩, h.ne⟩
theorem LedAt.put {w : World} {L X i : Nat} {l : Led} (h : LedAt w L l) (v : Value) (hn : L ≠ X) : LedAt (w.setCell ⟨X, i, none⟩ v) L l := ⟨h.obj.set_other _ _ hn, h.ok⟩
structure Pair (w : World) (X : Nat) (x : Sr) (l : Led) : Prop where
  src : SrcAt w X x
  led : LedAt w x.L l
abbrev two (X : Nat) (x : Sr) (k : Nat) : Prop := k = X ∨ k = x.L
def Sr.next (x : Sr) (l : Led) (n : Int) : (Sr × Led) × (ByteArray × Bool) :=
  if (l.work 1).2 = true ∧ 0 ≤ n ∧ n ≤ (x.e : Int) - x.p then (({ x with p := x.p + n.toNat }, (l.work 1).1), (x.s.extract x.p (x.p + n.toNat), true)) else ((x, (l.work 1).1), (ByteArray.empty, false))
/-! ### plain readers -/
def byN (s : ByteArray) (i : Nat) : Int := (s.data.toList.getD i 0).toNat
theorem byN_bd (s : ByteArray) (i : Nat) : 0 ≤ byN s i ∧ byN s i < 256 := by
  unfold byN; have := (s.data.toList.getD i 0).toNat_lt; omega
theorem byN_get (s : ByteArray) (i : Nat) (h : i < s.size) : ((s[i]).toNat : Int) = byN s i := by
  unfold byN
  rw [List.getD_eq_getElem?_getD, List.getElem?_eq_getElem (by simpa using h)]
  rfl
theorem pow8 (k : Nat) : (2 : Int) ^ (8 * (k + 1)) = 256 * 2 ^ (8 * k) := by
  rw [show 8 * (k + 1) = 8 * k + 8 by omega, Int.pow_add]; have : (2 : Int) ^ 8 = 256 := by decide
  rw [this, Int.mul_comm]
theorem i64_wraps (n : Int) (h₀ : 0 ≤ n) (h₁ : n < 2 ^ 63) : IntKind.i64.wrap n = n := i64_wrap_id n h₀ h₁
theorem or_low (i : Nat) (v y : Int) (h0 : 0 ≤ v) (h1 : v < 2 ^ i) (hy : 0 ≤ y) (h2 : v + y * 2 ^ i < 2 ^ 62) : bits .or .i64 v (y * 2 ^ i) = v + y * 2 ^ i := by
  have hp := pow_pos' i
  have hm := Int.mul_nonneg hy (Int.le_of_lt hp)
  have h63 : (2 : Int) ^ 63 = 9223372036854775808 := by decide
  have h62 : (2 : Int) ^ 62 = 4611686018427387904 := by decide
  exact bits_join_low .i64 63 (by decide) i64_wraps i v _ h0 h1 (by omega) hm (Int.mul_emod_left _ _) (by omega)
theorem pow32 (k : Nat) (h : k ≤ 3) : (1 : Int) ≤ 2 ^ (8 * k) ∧ (2 : Int) ^ (8 * k) ≤ 16777216 := by
  have h1 := pow_pos' (8 * k)
  have h2 := pow_le' (show 8 * k ≤ 24 by omega)
  have h3 : (2 : Int) ^ 24 = 16777216 := by decide
  omega
/-! ### the document's numbers -/
end Go.Proofs.YtapdgfeekipidaaGreatDoor
namespace Go.Proofs.YtapdgfeekipidaaGreatDoor
open Go.RowKit
set_option linter.unusedVariables false
set_option linter.unusedSimpArgs false
theorem ret_b {a b : Bool} (h : a = b) : Ending.returned (.bool a) = Ending.returned (.bool b) := by rw [h]
theorem ret_i {a b : Int} (h : a = b) : Ending.returned (.int .i64 a) = Ending.returned (.int .i64 b) := by rw [h]
def packB (k : Int) : Bool := decide (9 ≤ k) && decide (k ≤ 11)
def plainI (k : Int) : Int := if packB k = true then k - 8 else k
def colB (n : Int) : Bool := n == 15 || (n == 16 || (n == 24 || n == 32))
def depB (k n : Int) : Bool := if plainI k = 2 then colB n else n == 8
def alpB (b n : Int) : Bool := n == 0 || ((b == 32 && n == 8) || (b == 16 && n == 1))
theorem packed_any (k : Int) (w : World) : Calls Tryz.prog 146 #[.int .i64 k] w fun e w' => e = .returned (.bool (packB k)) ∧ w' = w := by
  go_enter Tryz.func146, Tryz.ntmps146
  go_wp2
  all_goals (go_ret; exact ⟨ret_b (by unfold packB; simp <;> omega), rfl⟩)
theorem plain_any (k : Int) (w : World) (h0 : 0 ≤ k) (h1 : k ≤ 255) : Calls Tryz.prog 145 #[.int .i64 k] w fun e w' => e = .returned (.int .i64 (plainI k)) ∧ w' = w := by
  have HP := Hi (fun w0 => packed_any k w0)
  obtain ⟨b, hb⟩ : ∃ b, packB k = b := ⟨_, rfl⟩
  rw [hb] at HP
  go_enter Tryz.func145, Tryz.ntmps145
  cases b
  all_goals go_wp2_with (go_at_call 146; (with_reducible refine (HP.out _).mono ?_); rintro e w1 ⟨rfl, rfl⟩)
  all_goals (go_ret; exact ⟨ret_i (by unfold plainI; rw [hb]; simp [wrap64]; try omega), rfl⟩)
theorem colors_any (n : Int) (w : World) : Calls Tryz.prog 148 #[.int .i64 n] w fun e w' => e = .returned (.bool (colB n)) ∧ w' = w := by
  go_enter Tryz.func148, Tryz.ntmps148
  by_cases h1 : n = 15
  · subst h1; go_wp2; go_ret; exact ⟨rfl, rfl⟩
  by_cases h2 : n = 16
  · subst h2; go_wp2; go_ret; exact ⟨rfl, rfl⟩
  by_cases h3 : n = 24
  · subst h3; go_wp2; go_ret; exact ⟨rfl, rfl⟩
  have e1 : (n == 15) = false := by simpa using h1
  have e2 : (n == 16) = false := by simpa using h2
  have e3 : (n == 24) = false := by simpa using h3
  go_wp2
  go_ret
  exact ⟨ret_b (by unfold colB; rw [e1, e2, e3]; simp), rfl⟩
theorem depth_any (k n : Int) (w : World) (h0 : 0 ≤ k) (h1 : k ≤ 255) : Calls Tryz.prog 149 #[.int .i64 k, .int .i64 n] w fun e w' => e = .returned (.bool (depB k n)) ∧ w' = w := by
  have HP := Hi (fun w0 => plain_any k w0 h0 h1)
  have HC := Hi (fun w0 => colors_any n w0)
  obtain ⟨p, hp⟩ : ∃ p, plainI k = p := ⟨_, rfl⟩
  rw [hp] at HP
  go_enter Tryz.func149, Tryz.ntmps149
  by_cases h2 : p = 2
  · subst h2
    go_wp2_with (first | (go_at_call 145; (with_reducible refine (HP.out _).mono ?_); rintro e w1 ⟨rfl, rfl⟩) | (go_at_call 148; (with_reducible refine (HC.out _).mono ?_); rintro e w1 ⟨rfl, rfl⟩))
    go_ret
    exact ⟨ret_b (by unfold depB; rw [if_pos hp]), rfl⟩
  · have e2 : (p == 2) = false := by simpa using h2
    go_wp2_with (first | (go_at_call 145; (with_reducible refine (HP.out _).mono ?_); rintro e w1 ⟨rfl, rfl⟩) | (go_at_call 148; (with_reducible refine (HC.out _).mono ?_); rintro e w1 ⟨rfl, rfl⟩))
    go_ret
    exact ⟨ret_b (by unfold depB; rw [hp, if_neg h2]), rfl⟩
theorem alpha_any (b n : Int) (w : World) : Calls Tryz.prog 150 #[.int .i64 b, .int .i64 n] w fun e w' => e = .returned (.bool (alpB b n)) ∧ w' = w := by
  go_enter Tryz.func150, Tryz.ntmps150
  by_cases h1 : b = 32
  · subst h1
    by_cases h2 : n = 0
    · subst h2; go_wp2; go_ret; exact ⟨rfl, rfl⟩
    · have e2 : (n == 0) = false := by simpa using h2
      go_wp2; go_ret; exact ⟨ret_b (by unfold alpB; simp [e2]), rfl⟩
  have e1 : (b == 32) = false := by simpa using h1
  by_cases h3 : b = 16
  · subst h3
    by_cases h2 : n = 0
    · subst h2; go_wp2; go_ret; exact ⟨rfl, rfl⟩
    · have e2 : (n == 0) = false := by simpa using h2
      go_wp2; go_ret; exact ⟨ret_b (by unfold alpB; simp [e2]), rfl⟩
  have e3 : (b == 16) = false := by simpa using h3
  go_wp2; go_ret; exact ⟨ret_b (by unfold alpB; simp [e1, e3]), rfl⟩
theorem or_word (a b : Int) (h0 : 0 ≤ a) (h1 : a < 256) (h2 : 0 ≤ b) (h3 : b < 256) : bits .or .i64 (wrap64 a) (wrap64 (wrap64 b * 256)) = a + b * 256 := by
  rw [IntWalk.wrap64_in a (by omega), IntWalk.wrap64_in b (by omega), IntWalk.wrap64_in (b * 256) (by omega)]
  have := or_low 8 a b h0 (by omega) h2 (by omega)
  simpa using this
def wordN (s : ByteArray) (a : Nat) : Int := byN s a + byN s (a + 1) * 256
theorem word_any (s : ByteArray) (a : Nat) (w : World) (h : a + 1 < s.size) (hs : s.size ≤ 1000) : Calls Tryz.prog 147 #[.string s, .int .i64 a] w fun e w' => e = .returned (.int .i64 (wordN s a)) ∧ ∃ k, w' = w.drewN k := by
  have b1 := byN_bd s a
  have b2 := byN_bd s (a + 1)
  have H1 := Hi (byN_get s a (by omega))
  have H2 := Hi (byN_get s (a + 1) h)
  have h0 : a < s.size := by omega
  have i3 : ((a : Int) + 1).toNat = a + 1 := by omega
  have i4 : (0 : Int) ≤ (a : Int) + 1 := by omega
  have i5 : (a : Int) + 1 < s.size := by omega
  have eW : IntKind.i64.wrap ((a : Int) + 1) = (a : Int) + 1 := i64_wraps _ (by omega) (by omega)
  go_enter Tryz.func147, Tryz.ntmps147
  go_wp2
  go_quiet (fail)
  go_wp2
  go_ret
  exact ⟨ret_i (by rw [H1.out, H2.out, or_word _ _ b1.1 b1.2 b2.1 b2.2]; rfl), _, rfl⟩
theorem word_at (s : ByteArray) (a : Nat) (i V : Int) (w : World) (hi : i = a) (hV : wordN s a = V) (h : a + 1 < s.size) (hs : s.size ≤ 1000) : Calls Tryz.prog 147 #[.string s, .int .i64 i] w fun e w' => e = .returned (.int .i64 V) ∧ ∃ k, w' = w.drewN k := by
  subst hi; subst hV; exact word_any s a w h hs
end Go.Proofs.YtapdgfeekipidaaGreatDoor
namespace Go
section
variable {P : Program} {ops : Array Oper} {md : Region.Mode} {C : World → Prop}
def headQ (P : Program) (md : Region.Mode) (ops : Array Oper) (C : World → Prop) (n : Nat) (L : Array Bool → Act → Prop) : Nat → Array Bool → Act → Prop
  | 0, listed, a => L listed a
  | f + 1, listed, a => Region.ready md ops listed ≠ [] ∧ ∀ i ∈ Region.ready md ops listed, i < n ∧ qOp P ops C i (headQ P md ops C n L f (listed.setIfInBounds i true)) a
theorem headQ_any {n g : Nat} {L : Array Bool → Act → Prop} {Q' : Exit → Act → World → Prop} (hL : ∀ listed a w, C w → L listed a → wpAny P md ops Q' g listed a w) :
    ∀ (f : Nat) (listed : Array Bool) (a : Act) (w : World), C w → headQ P md ops C n L f listed a → wpAny P md ops Q' (f + g) listed a w
  | 0, listed, a, w, hw, h => by rw [Nat.zero_add]; exact hL _ _ _ hw h
  | f + 1, listed, a, w, hw, h => by
    rw [show f + 1 + g = (f + g) + 1 by omega]
    exact ⟨fun h0 => absurd h0 h.1, fun i hi => wpOp_of_qOp hw (fun a' w' hw' h' => headQ_any hL f _ a' w' hw' h') (h.2 i hi).2⟩
theorem headQ_first {n i : Nat} {oi : Oper} {v : Value} {L : Array Bool → Act → Prop} (hi : ops[i]? = some oi) (hsel : ∀ (j : Nat) (o : Oper) cs b, ops[j]? = some o → o.op ≠ .select cs b)
    (hs : Region.sinkB md ops n = true) (hc : Region.chainB md ops n = true) (hn : n < ops.size) (hin : i < n)
    (hdone : ∀ listed a, L listed a → ∀ j ∈ Region.ready md ops listed, n ≤ j) :
    ∀ (f : Nat) (listed : Array Bool) (a : Act), HeadInv md ops n listed →
      (∀ j oj, ops[j]? = some oj → j ≠ i → listed.getD j true = false → (∀ e ∈ oj.after, Region.binds md e = true → e.on ≠ i) → oi.apart ops oj = true) →
      i ∈ Region.ready md ops listed → YieldsIn P ops C oi v a →
      headQ P md ops C n L f (listed.setIfInBounds i true) (a.put oi.dst v) → headQ P md ops C n L (f + 1) listed a := by
  intro f
  induction f with
  | zero =>
    intro listed a inv _ hr hy H
    have hun := (mem_ready.1 hr).1
    refine ⟨fun h => (by rw [h] at hr; cases hr), fun j hj => ?_⟩
    have hjn : j < n := Nat.lt_of_not_le fun h => tail_waits hs hc hn inv _ i rfl hin hun j h hj
    refine ⟨hjn, ?_⟩
    by_cases hji : j = i
    · subst hji; exact hy.qOp hi H
    · have := hdone _ _ H j (ready_mono hj hji)
      omega
  | succ f ih =>
    intro listed a inv hfree hr hy H
    have hun := (mem_ready.1 hr).1
    refine ⟨fun h => (by rw [h] at hr; cases hr), fun j hj => ?_⟩
    have hjn : j < n := Nat.lt_of_not_le fun h => tail_waits hs hc hn inv _ i rfl hin hun j h hj
    refine ⟨hjn, ?_⟩
    by_cases hji : j = i
    · subst hji; exact hy.qOp hi H
    · have h1 := (H.2 j (ready_mono hj hji)).2
      obtain ⟨hjun, oj, hoj, hall⟩ := mem_ready.1 hj
      have hnot : ∀ e ∈ oj.after, Region.binds md e = true → e.on ≠ i := fun e he hb heq => by
        have h1 := hall e he hb
        rw [heq, getD_both hun] at h1
        cases h1
      have h2 := qOp_put hoj (hfree j oj hoj hji hjun hnot) (fun cs b => hsel i oi cs b hi) (fun cs b => hsel j oj cs b hoj) hy h1
      refine qOp_mono (fun a' h3 => ih (listed.setIfInBounds j true) a' (inv.set hj hjn) (fun k ok hk hki hku hno => hfree k ok hk hki ?_ hno) (ready_mono hr (Ne.symm hji)) h3.1 ?_) h2
      · by_cases hjk : j = k
        · subst hjk; exact hjun
        · rw [getD_set_ne true hjk] at hku; exact hku
      · rw [Array.setIfInBounds_comm _ _ hji]
        exact h3.2
theorem headQ_lex {n g : Nat} {Lq : Act → Prop} (hsel : Region.noSelect ops = true) (hs : Region.sinkB md ops n = true) (hc : Region.chainB md ops n = true) (hn : n < ops.size) :
    ∀ (l : List Oper) (k : Nat) (listed : Array Bool) (a : Act), (∀ j, j < l.length → l[j]? = ops[k + j]?) → k + l.length = n → HeadInv md ops n listed →
    Region.lexHead md ops g l.length k listed = true → wpQuiet P ops C Lq l a →
    headQ P md ops C n (fun listed' a' => Region.seqB md ops g n listed' = true ∧ Lq a') l.length listed a
  | [], k, listed, a, _, hk, _, hB, h => by
    have : k = n := by simpa using hk
    subst this
    exact ⟨by simpa [Region.lexHead] using hB, h⟩
  | o :: l, k, listed, a, hl, hk, inv, hB, h => by
    have h0 : ops[k]? = some o := by simpa using (hl 0 (by simp)).symm
    simp only [List.length_cons, Region.lexHead, Bool.and_eq_true] at hB
    obtain ⟨⟨hr, hf⟩, hB'⟩ := hB
    have hkn : k < n := by simp only [List.length_cons] at hk; omega
    have hr' : k ∈ Region.ready md ops listed := by simpa using hr
    have hst : qOp P ops C k (wpQuiet P ops C Lq l) a := by unfold qOp; simp only [h0]; exact h
    obtain ⟨v, hy, hK⟩ := yieldsIn_of_qOp h0 hst
    exact headQ_first h0 (Region.noSelect_spec hsel) hs hc hn hkn (fun listed' a' hL => seqB_ready hL.1) l.length listed a inv (Region.free_spec h0 hf) hr' hy
      (headQ_lex hsel hs hc hn l (k + 1) _ _ (fun j hj => by have := hl (j + 1) (by simp; omega); simpa [Nat.add_assoc, Nat.add_comm 1 j] using this) (by simp only [List.length_cons] at hk; omega) (inv.set hr' hkn) hB' hK)
theorem wp_region_quiet_tail {id : Nat} {Q : Exit → Act → World → Prop} {a : Act} {w : World} {l : List Oper} (n : Nat) (hm : P.follows .mixedOrders = true) (hB : Region.lexTailB .any l.toArray n = true)
    (h : wpQuiet P l.toArray (fun w' => ∃ k, w' = w.drewN k) (fun a' => ∀ w', (∃ k, w' = w.drewN k) → wpList P l.toArray Q (l.drop n) a' w') (l.take n) a) : (Code.region id l.toArray true).wp P Q a w := by
  simp only [Region.lexTailB, Bool.and_eq_true, decide_eq_true_eq] at hB
  obtain ⟨⟨⟨⟨hsel, hn⟩, hs⟩, hc⟩, hlex⟩ := hB
  have hn' : n < l.length := by simpa using hn
  have htl : (l.take n).length = n := by simp; omega
  have hdl : (l.drop n).length = l.toArray.size - n := by simp
  have inv0 : HeadInv .any l.toArray n (Array.replicate l.toArray.size false) :=
    ⟨by simp, fun j oj _ hl => (by rw [getD_replicate_false] at hl; cases hl), fun t _ ht => getD_in (by simpa using ht) (getD_replicate_false _ _)⟩
  have H := headQ_lex (md := .any) (g := l.toArray.size - n) hsel hs hc hn (l.take n) 0 _ a (fun j hj => by
    have hj' : j < n := by rw [htl] at hj; exact hj
    simp [hj']) (by simpa using htl) inv0 (by rw [htl]; exact hlex) h
  refine wp_region_any hm ?_
  have := headQ_any (Q' := Q) (g := l.toArray.size - n) (fun listed a' w' hw' hL => by
    have := wpAny_of_seq (md := .any) (Q' := Q) (l.drop n) n listed a' w' (fun j => by simp [List.getElem?_drop]) (by rw [hdl]; exact hL.1) (hL.2 w' hw')
    rwa [hdl] at this) _ _ _ _ ⟨1, rfl⟩ H
  rw [htl, show n + (l.toArray.size - n) = l.toArray.size by omega] at this
  exact this
end
end Go
namespace Go.Proofs.YtapdgfeekipidaaGreatDoor
open Go.RowKit
set_option linter.unusedVariables false
set_option linter.unusedSimpArgs false
def knownB (k : Int) : Bool := (decide (1 ≤ plainI k) && decide (plainI k ≤ 3)) && (decide (k ≤ 3) || packB k)
def chkArr (x1 : Int) (kn pb th c7 : Bool) (C W H : Int) (dp : Bool) (f : Int) (al : Bool) : Array Value :=
  #[.bool (decide (1 < x1)), .int .i64 2, .int .i64 1, .bool false, .bool (!kn), .int .i64 3, .int .i64 2, .bool false, .bool (pb && !th), .int .i64 2, .int .i64 1, .bool false,
    .bool (th && !c7), .int .i64 3, .int .i64 7, .bool false, .bool (th && C == 0), .int .i64 2, .int .i64 5, .bool true, .bool (W == 0), .int .i64 2, .int .i64 12, .bool false,
    .bool (decide (16384 < W)), .int .i64 3, .int .i64 12, .bool true, .bool (H == 0), .int .i64 2, .int .i64 14, .bool false, .bool (decide (16384 < H)), .int .i64 3, .int .i64 14, .bool true,
    .bool (!dp), .int .i64 3, .int .i64 16, .bool false, .bool (f / 64 != 0), .int .i64 3, .int .i64 17, .bool true, .bool (!al), .int .i64 2, .int .i64 17, .bool true]
def chkOf (s : ByteArray) : Array Value := chkArr (byN s 1) (knownB (byN s 2)) (plainI (byN s 2) == 1) (byN s 1 == 1) (colB (byN s 7)) (wordN s 5) (wordN s 12) (wordN s 14) (depB (byN s 2) (byN s 16)) (byN s 17) (alpB (byN s 16) (bits .and .i64 (byN s 17) 15))
def ChkPost (s : ByteArray) (w : World) (e : Ending) (w' : World) : Prop := ∃ B T, e = .returned (.slice (some ⟨B, 0, none⟩) 12 12) ∧ Obj1 w' B (chkOf s) T ∧ w.heap.size ≤ B ∧ Below w.heap.size w w'
set_option maxRecDepth 100000 in
set_option maxHeartbeats 8000000 in
theorem checks_any (s : ByteArray) (w : World) (h : s.size = 18) : Calls Tryz.prog 93 #[.string s] w (ChkPost s w) := by
  obtain ⟨k, hk⟩ : ∃ k, byN s 2 = k := ⟨_, rfl⟩
  obtain ⟨P, hP⟩ : ∃ P, plainI k = P := ⟨_, rfl⟩
  have bk := byN_bd s 2
  have b1 := byN_bd s 1
  have b17 := byN_bd s 17
  have b16 := byN_bd s 16
  have b7 := byN_bd s 7
  rw [hk] at bk
  have i1 : 1 < s.size := by omega
  have i2 : 2 < s.size := by omega
  have i7 : 7 < s.size := by omega
  have i16 : 16 < s.size := by omega
  have i17 : 17 < s.size := by omega
  have g1 : ((s[1]).toNat : Int) = byN s 1 := byN_get s 1 i1
  have g2 : ((s[2]).toNat : Int) = k := by rw [← hk]; exact byN_get s 2 i2
  have g7 : ((s[7]).toNat : Int) = byN s 7 := byN_get s 7 i7
  have g16 : ((s[16]).toNat : Int) = byN s 16 := byN_get s 16 i16
  have g17 : ((s[17]).toNat : Int) = byN s 17 := byN_get s 17 i17
  have HPL := Hi (fun w0 => plain_any k w0 bk.1 (by omega))
  rw [hP] at HPL
  obtain ⟨x1, hx1⟩ : ∃ x, byN s 1 = x := ⟨_, rfl⟩
  obtain ⟨x7, hx7⟩ : ∃ x, byN s 7 = x := ⟨_, rfl⟩
  obtain ⟨n, hn⟩ : ∃ x, byN s 16 = x := ⟨_, rfl⟩
  obtain ⟨f, hf⟩ : ∃ x, byN s 17 = x := ⟨_, rfl⟩
  obtain ⟨W, hW⟩ : ∃ x, wordN s 12 = x := ⟨_, rfl⟩
  obtain ⟨H, hH⟩ : ∃ x, wordN s 14 = x := ⟨_, rfl⟩
  obtain ⟨C, hC⟩ : ∃ x, wordN s 5 = x := ⟨_, rfl⟩
  obtain ⟨pk, hpk⟩ : ∃ x, packB k = x := ⟨_, rfl⟩
  obtain ⟨c7, hc7⟩ : ∃ x, colB x7 = x := ⟨_, rfl⟩
  obtain ⟨dp, hdp⟩ : ∃ x, depB k n = x := ⟨_, rfl⟩
  rw [hx1] at g1 b1
  rw [hx7] at g7 b7
  rw [hn] at g16 b16
  rw [hf] at g17 b17
  have HPK := Hi (fun w0 => packed_any k w0)
  rw [hpk] at HPK
  have HC7 := Hi (fun w0 => colors_any x7 w0)
  rw [hc7] at HC7
  have HDP := Hi (fun w0 => depth_any k n w0 bk.1 (by omega))
  rw [hdp] at HDP
  have HW5 := Hi (fun w0 => word_at s 5 5 C w0 rfl hC (by omega) (by omega))
  have HW12 := Hi (fun w0 => word_at s 12 12 W w0 rfl hW (by omega) (by omega))
  have HW14 := Hi (fun w0 => word_at s 14 14 H w0 rfl hH (by omega) (by omega))
  obtain ⟨a, ha⟩ : ∃ x, bits .and .i64 f 15 = x := ⟨_, rfl⟩
  obtain ⟨al, hal⟩ : ∃ x, alpB n a = x := ⟨_, rfl⟩
  have HAL := Hi (fun w0 => alpha_any n a w0)
  rw [hal] at HAL
  have e1 : wrap64 k = k := IntWalk.wrap64_in k (by omega)
  have e2 : wrap64 f = f := IntWalk.wrap64_in f (by omega)
  have e3 : wrap64 n = n := IntWalk.wrap64_in n (by omega)
  have e4 : wrap64 x7 = x7 := IntWalk.wrap64_in x7 (by omega)
  obtain ⟨th, hth⟩ : ∃ x, (x1 == 1) = x := ⟨_, rfl⟩
  obtain ⟨pb, hpb⟩ : ∃ x, (P == 1) = x := ⟨_, rfl⟩
  obtain ⟨KN, hKN⟩ : ∃ x, knownB k = x := ⟨_, rfl⟩
  have HEND := Hi (show ∀ w' : World, Below w.heap.size w w' → ChkPost s w (.returned (.slice (some ⟨w'.heap.size, 0, none⟩) 12 12)) (w'.alloc (.cells (chkArr x1 KN pb th c7 C W H dp f al) 178)) from fun w' hb => by
    have e : chkOf s = chkArr x1 KN pb th c7 C W H dp f al := by unfold chkOf; rw [hx1, hk, hx7, hn, hf, hW, hH, hC, hKN, hc7, hdp, ha, hal, hth, hP, hpb]
    exact ⟨w'.heap.size, _, rfl, by rw [e]; exact obj1_new _ _ _, hb.size, hb.alloc hb.size _⟩)
  have hcase : (k = 0 ∧ P = 0 ∧ KN = false) ∨ (1 ≤ k ∧ k ≤ 3 ∧ P = k ∧ KN = true) ∨ (4 ≤ k ∧ 1 ≤ P ∧ P ≤ 3 ∧ pk = true ∧ KN = true) ∨ (4 ≤ k ∧ 4 ≤ P ∧ KN = false) := by
    by_cases h9 : 9 ≤ k ∧ k ≤ 11
    · have e : packB k = true := by unfold packB; simp; omega
      have eP : plainI k = k - 8 := by unfold plainI; rw [if_pos e]
      rw [e] at hpk; rw [eP] at hP
      refine Or.inr (Or.inr (Or.inl ⟨by omega, by omega, by omega, hpk.symm, ?_⟩))
      rw [← hKN]; unfold knownB; rw [eP, e]; simp; omega
    · have e : packB k = false := by unfold packB; simp; omega
      have eP : plainI k = k := by unfold plainI; rw [if_neg (by rw [e]; decide)]
      rw [eP] at hP
      by_cases k0 : k = 0
      · exact Or.inl ⟨k0, by omega, by rw [← hKN]; unfold knownB; rw [eP, e, k0]; decide⟩
      by_cases k3 : k ≤ 3
      · exact Or.inr (Or.inl ⟨by omega, k3, hP.symm, by rw [← hKN]; unfold knownB; rw [eP]; simp; omega⟩)
      · exact Or.inr (Or.inr (Or.inr ⟨by omega, by omega, by rw [← hKN]; unfold knownB; rw [eP]; simp; omega⟩))
  have HCASE := Hi hcase
  clear hcase bk b1 b17 b16 b7 hk hP hx1 hx7 hn hf hW hH hC hpk hc7 hdp hal h hKN
  go_enter Tryz.func93, Tryz.ntmps93
  go_wp2_with fail
  go_quiet (fail)
  generalize hw1 : w.drewN _ = w1
  go_upto_region 2 with (fail)
  simp only [e1, e2]
  go_cut [6] from 19 to 34 (fun c wx => c = .bool KN ∧ wx = w1)
  case first =>
    rcases HCASE.out with ⟨rfl, rfl, rfl⟩ | ⟨h1, h2, rfl, rfl⟩ | ⟨h1, h2, h3, rfl, rfl⟩ | ⟨h1, h2, rfl⟩
    · go_wp2_with (first | (go_at_call 145; (with_reducible refine (HPL.out _).mono ?_); rintro e w1 ⟨rfl, rfl⟩) | (go_at_call 146; (with_reducible refine (HPK.out _).mono ?_); rintro e w1 ⟨rfl, rfl⟩))
      go_meet
      exact ⟨rfl, rfl⟩
    · have q1 : decide (P ≥ 1) = true := by simpa using h1
      have q2 : decide (P ≤ 3) = true := by simpa using h2
      go_wp2_with (first | (go_at_call 145; (with_reducible refine (HPL.out _).mono ?_); rintro e w1 ⟨rfl, rfl⟩) | (go_at_call 146; (with_reducible refine (HPK.out _).mono ?_); rintro e w1 ⟨rfl, rfl⟩))
      go_meet
      exact ⟨rfl, rfl⟩
    · have q1 : decide (P ≥ 1) = true := by simpa using h2
      have q2 : decide (P ≤ 3) = true := by simpa using h3
      have q3 : decide (k ≤ 3) = false := by rw [decide_eq_false_iff_not]; omega
      go_wp2_with (first | (go_at_call 145; (with_reducible refine (HPL.out _).mono ?_); rintro e w1 ⟨rfl, rfl⟩) | (go_at_call 146; (with_reducible refine (HPK.out _).mono ?_); rintro e w1 ⟨rfl, rfl⟩))
      go_meet
      exact ⟨rfl, rfl⟩
    · have q1 : decide (P ≥ 1) = true := by rw [decide_eq_true_iff]; omega
      have q2 : decide (P ≤ 3) = false := by rw [decide_eq_false_iff_not]; omega
      go_wp2_with (first | (go_at_call 145; (with_reducible refine (HPL.out _).mono ?_); rintro e w1 ⟨rfl, rfl⟩) | (go_at_call 146; (with_reducible refine (HPK.out _).mono ?_); rintro e w1 ⟨rfl, rfl⟩))
      go_meet
      exact ⟨rfl, rfl⟩
  case rest =>
    obtain ⟨rfl, rfl⟩ := hcut
    go_wp2_with fail
    go_quiet ((go_at_call 147; first | with_reducible exact Calls.quiet_of (HW12.out _) | with_reducible exact Calls.quiet_of (HW14.out _)))
    go_wp2_with fail
    simp only [e3]
    generalize hw2 : World.drewN _ _ = w2
    have q4 := hpb
    have HB2 : Below w.heap.size w w2 := by
      rw [← hw2]
      first | (rw [← hw1]; exact bdrew (bdrew (Below.refl _ _) _) _) | exact bdrew (bdrew (Below.refl _ _) _) _
    have HB2 := Hi HB2
    clear hw1 hw2
    cases th <;> cases pb
    all_goals
      refine wp_region_quiet_tail 58 (by kernel_rfl) (by kernel_rfl) ?_
      simp only [List.take_succ_cons, List.take_zero, List.drop_succ_cons, List.drop_zero]
      repeat go_big_quiet_step ((first
        | (go_at_call 145; exact Calls.quiet_of_same (HPL.out _))
        | (go_at_call 148; exact Calls.quiet_of_same (HC7.out _))
        | (go_at_call 147; with_reducible exact Calls.quiet_of (HW5.out _))
        | (go_at_call 149; exact Calls.quiet_of_same (HDP.out _))
        | (go_at_call 150; exact Calls.quiet_of_same (HAL.out _))))
      refine wpQuiet_nil ?_
      intro _ hw'
      obtain ⟨nq, hw''⟩ := hw'
      subst hw''
      have HB3 := Hi (bdrew HB2.out nq)
      generalize hw3 : w2.drewN _ = w3 at HB3 ⊢
      go_wp2_with fail
      go_ret
      exact HEND.out w3 HB3.out
end Go.Proofs.YtapdgfeekipidaaGreatDoor
namespace Go.Proofs.YtapdgfeekipidaaGreatDoor
open Go.RowKit
set_option linter.unusedVariables false
theorem Obj1.there {w : World} {b : Nat} {cs : Array Value} {T : TypeId} (h : Obj1 w b cs T) (o n : Nat) (hn : o + n ≤ cs.size) : w.there b o n := fun j hj => by
  refine ⟨?_, h.frozen _⟩
  rw [h.cell, Array.getElem?_eq_getElem (by omega)]; rfl
theorem Obj1.range0 {w : World} {b : Nat} {cs : List Value} {T : TypeId} (h : Obj1 w b cs.toArray T) : w.rangeAt b 0 cs := fun j v hv => by
  rw [h.cell, Nat.zero_add]; simpa using hv
def setL : Array Value → Nat → List Value → Array Value
  | cs, _, [] => cs
  | cs, o, v :: r => setL (cs.setIfInBounds o v) (o + 1) r
theorem Stored.obj {w w2 : World} {b o : Nat} {vs : List Value} {cs : Array Value} {T : TypeId} (hst : Stored w b o vs w2) (h : Obj1 w b cs T) : Obj1 w2 b (setL cs o vs) T := by
  rw [show w2 = _ from hst]; clear hst
  induction vs generalizing w o cs with
  | nil => exact h
  | cons v r ih => rw [World.setCells, setL]; exact ih (h.set o v)
theorem Stored.oth {w w2 : World} {b o b' : Nat} {vs : List Value} {cs : Array Value} {T : TypeId} (hst : Stored w b o vs w2) (h : Obj1 w b' cs T) (hn : b' ≠ b) : Obj1 w2 b' cs T := by
  rw [show w2 = _ from hst]; clear hst
  induction vs generalizing w o with
  | nil => exact h
  | cons v r ih => rw [World.setCells]; exact ih (h.set_other _ _ hn)
theorem setL_get' (vs : List Value) : ∀ (cs : Array Value) (o i : Nat), o + vs.length ≤ cs.size → (setL cs o vs)[i]? = if o ≤ i ∧ i < o + vs.length then vs[i - o]? else cs[i]? := by
  induction vs with
  | nil => intro cs o i h; rw [setL, if_neg (by simp)]
  | cons v r ih =>
    intro cs o i h
    rw [setL, ih _ _ _ (by simp at h ⊢; omega)]
    simp only [List.length_cons] at h ⊢
    by_cases h1 : o + 1 ≤ i ∧ i < o + 1 + r.length
    · rw [if_pos h1, if_pos (by omega), show i - o = (i - (o + 1)) + 1 by omega, List.getElem?_cons_succ]
    · rw [if_neg h1]
      by_cases h2 : i = o
      · subst h2; rw [if_pos (by omega), Nat.sub_self]; simp [Array.getElem?_setIfInBounds]; omega
      · rw [if_neg (by omega), Array.getElem?_setIfInBounds, if_neg (by omega)]
theorem setL_full' (cs : Array Value) (vs : List Value) (h : vs.length = cs.size) : setL cs 0 vs = vs.toArray := by
  apply Array.ext_getElem?
  intro i
  rw [setL_get' vs cs 0 i (by omega)]
  by_cases hi : i < vs.length
  · rw [if_pos (by omega)]; simp
  · rw [if_neg (by omega), Array.getElem?_eq_none (by omega)]; simp; omega
theorem Stored.whole {w w2 : World} {b : Nat} {vs : List Value} {cs : Array Value} {T : TypeId} (hst : Stored w b 0 vs w2) (h : Obj1 w b cs T) (hl : vs.length = cs.size) : Obj1 w2 b vs.toArray T := by
  have := hst.obj h; rwa [setL_full' _ _ hl] at this
theorem store_o {P : Program} {ops : Array Oper} {rest : List Oper} {op : Oper} {a : Act} {w : World} {Q : Exit → Act → World → Prop} (hgd : op.guard = none) (ty : TypeId) (n : Nat) (x y : Operand) (ho : op.op = .store ty x y)
    (b : Nat) (YS : List Value) (hl : YS.length = n) (h1 : YS.all (·.oneCell') = true) (hx : a.eval x = .pointer (some ⟨b, 0, none⟩)) (hy : a.eval y = .agg YS.toArray) (hi : (P.info? ty).map (·.size) = some n) {cs : Array Value} {T : TypeId} (hO : Obj1 w b cs T) (hs : cs.size = n)
    (h : ∀ w2, Stored w b 0 YS w2 → Obj1 w2 b YS.toArray T → wpList P ops Q rest (a.put op.dst undef) w2) : wpList P ops Q (op :: rest) a w :=
  store_gen hgd ty x y ho b 0 YS.toArray hx hy (by have := hO.there 0 n (by omega); simpa [hl] using this) (by rw [List.size_toArray, hl]; exact hi) (by simpa using h1)
    fun w2 hst => h w2 (by simpa using hst) ((show Stored w b 0 YS w2 by simpa using hst).whole hO (by omega))
end Go.Proofs.YtapdgfeekipidaaGreatDoor
namespace Go.Proofs.YtapdgfeekipidaaGreatDoor
open Go.RowKit
set_option linter.unusedVariables false
set_option linter.unusedSimpArgs false
structure Chk where
  x1 : Int
  kn : Bool
  pb : Bool
  th : Bool
  c7 : Bool
  C : Int
  W : Int
  H : Int
  dp : Bool
  f : Int
  al : Bool
def Chk.arr (c : Chk) : Array Value := chkArr c.x1 c.kn c.pb c.th c.c7 c.C c.W c.H c.dp c.f c.al
def Chk.row (c : Chk) : Nat → Bool × Int × Int × Bool
  | 0 => (decide (1 < c.x1), 2, 1, false)
  | 1 => (!c.kn, 3, 2, false)
  | 2 => (c.pb && !c.th, 2, 1, false)
  | 3 => (c.th && !c.c7, 3, 7, false)
  | 4 => (c.th && c.C == 0, 2, 5, true)
  | 5 => (c.W == 0, 2, 12, false)
  | 6 => (decide (16384 < c.W), 3, 12, true)
  | 7 => (c.H == 0, 2, 14, false)
  | 8 => (decide (16384 < c.H), 3, 14, true)
  | 9 => (!c.dp, 3, 16, false)
  | 10 => (c.f / 64 != 0, 3, 17, true)
  | 11 => (!c.al, 2, 17, true)
  | _ => (false, 0, 0, false)
theorem Chk.row_cells (c : Chk) (i : Nat) (h : i < 12) : c.arr[i * 4]? = some (.bool (c.row i).1) ∧ c.arr[i * 4 + 1]? = some (.int .i64 (c.row i).2.1) ∧ c.arr[i * 4 + 2]? = some (.int .i64 (c.row i).2.2.1) ∧ c.arr[i * 4 + 3]? = some (.bool (c.row i).2.2.2) := by
  match i, h with
  | 0, _ => exact ⟨rfl, rfl, rfl, rfl⟩
  | 1, _ => exact ⟨rfl, rfl, rfl, rfl⟩
  | 2, _ => exact ⟨rfl, rfl, rfl, rfl⟩
  | 3, _ => exact ⟨rfl, rfl, rfl, rfl⟩
  | 4, _ => exact ⟨rfl, rfl, rfl, rfl⟩
  | 5, _ => exact ⟨rfl, rfl, rfl, rfl⟩
  | 6, _ => exact ⟨rfl, rfl, rfl, rfl⟩
  | 7, _ => exact ⟨rfl, rfl, rfl, rfl⟩
  | 8, _ => exact ⟨rfl, rfl, rfl, rfl⟩
  | 9, _ => exact ⟨rfl, rfl, rfl, rfl⟩
  | 10, _ => exact ⟨rfl, rfl, rfl, rfl⟩
  | 11, _ => exact ⟨rfl, rfl, rfl, rfl⟩
def Chk.from (c : Chk) : Nat → Nat → Option (Int × Int)
  | 0, _ => none
  | n + 1, i => if (c.row i).1 = true then some ((c.row i).2.1, (c.row i).2.2.1) else c.from n (i + 1)
def Chk.first (c : Chk) : Option (Int × Int) := c.from 12 0
def Chk.isFrom (c : Chk) : Nat → Nat → Bool
  | 0, _ => true
  | n + 1, i => if ((c.row i).1 && !(c.row i).2.2.2) = true then false else c.isFrom n (i + 1)
def Chk.is (c : Chk) : Bool := c.isFrom 12 0
theorem Chk.is_next (c : Chk) {i : Nat} (h : i < 12) {r : Bool × Int × Int × Bool} (hr : c.row i = r) (hb : (r.1 && !r.2.2.2) = false) : c.isFrom (12 - i) i = c.isFrom (12 - (i + 1)) (i + 1) := by
  rw [show 12 - i = (12 - (i + 1)) + 1 by omega]; conv => lhs; unfold Chk.isFrom
  rw [hr, hb]; rfl
theorem Chk.is_bad (c : Chk) {i : Nat} (h : i < 12) {r : Bool × Int × Int × Bool} (hr : c.row i = r) (hb : (r.1 && !r.2.2.2) = true) : c.isFrom (12 - i) i = false := by
  rw [show 12 - i = (12 - (i + 1)) + 1 by omega]; unfold Chk.isFrom; rw [hr, hb]; rfl
def chkS (s : ByteArray) : Chk := ⟨byN s 1, knownB (byN s 2), plainI (byN s 2) == 1, byN s 1 == 1, colB (byN s 7), wordN s 5, wordN s 12, wordN s 14, depB (byN s 2) (byN s 16), byN s 17, alpB (byN s 16) (bits .and .i64 (byN s 17) 15)⟩
theorem chkOf_arr (s : ByteArray) : chkOf s = (chkS s).arr := rfl
theorem byN_ext (s : ByteArray) (a b i : Nat) (h : a + i < b) (hb : b ≤ s.size) : byN (s.extract a b) i = byN s (a + i) := by
  have h1 : i < (s.extract a b).size := by rw [ByteArray.size_extract]; omega
  rw [← byN_get (s.extract a b) i h1, ← byN_get s (a + i) (by omega), ByteArray.getElem_extract]
theorem chkS_ext (s : ByteArray) (h : 18 ≤ s.size) : chkS (s.extract 0 18) = chkS s := by
  have e : ∀ i, i < 18 → byN (s.extract 0 18) i = byN s i := fun i hi => by rw [byN_ext s 0 18 i (by omega) h, Nat.zero_add]
  unfold chkS wordN
  rw [e 1 (by omega), e 2 (by omega), e 7 (by omega), e 5 (by omega), e 12 (by omega), e 14 (by omega), e 16 (by omega), e 17 (by omega), e (5 + 1) (by omega), e (12 + 1) (by omega), e (14 + 1) (by omega)]
theorem checks_c (s : ByteArray) (c : Chk) (w : World) (h : 18 ≤ s.size) (hc : chkS s = c) : Calls Tryz.prog 93 #[.string (s.extract 0 18)] w fun e w' => ∃ B T, e = .returned (.slice (some ⟨B, 0, none⟩) 12 12) ∧ Obj1 w' B c.arr T ∧ w.heap.size ≤ B ∧ Below w.heap.size w w' := by
  refine (checks_any (s.extract 0 18) w (by rw [ByteArray.size_extract]; omega)).mono ?_
  rintro e w' ⟨B, T, h1, h2, h3⟩
  rw [chkOf_arr, chkS_ext s h, hc] at h2
  exact ⟨B, T, h1, h2, h3⟩
def isTga (s : ByteArray) : Bool := decide (18 ≤ s.size) && (chkS s).is
set_option maxRecDepth 100000 in
set_option maxHeartbeats 4000000 in
theorem tis_any (s : ByteArray) (w : World) (hs : s.size ≤ 9223372036854775807) : Calls Tryz.prog 61 #[.string s] w fun e w' => e = .returned (.bool (isTga s)) ∧ Below w.heap.size w w' := by
  by_cases h : s.size < 18
  · have D0 : decide ((s.size : Int) < 18) = true := by rw [decide_eq_true_iff]; omega
    have E := Hi (show isTga s = false by unfold isTga; rw [decide_eq_false (by omega)]; rfl)
    go_enter Tryz.func61, Tryz.ntmps61
    go_wp2
    go_ret
    exact ⟨ret_b E.out.symm, Below.refl _ _⟩
  · have D0 : decide ((s.size : Int) < 18) = false := by rw [decide_eq_false_iff_not]; omega
    have h18 : 18 ≤ s.size := by omega
    obtain ⟨c, hc⟩ : ∃ c, chkS s = c := ⟨_, rfl⟩
    have E := Hi (show isTga s = c.is by unfold isTga; rw [decide_eq_true h18, hc]; rfl)
    have HC := Hi (fun w0 => checks_c s c w0 h18 hc)
    clear hc
    go_enter Tryz.func61, Tryz.ntmps61
    go_wp2_with (go_at_call 93; (with_reducible refine (HC.out _).mono ?_); rintro e w1 ⟨B, T, rfl, hO, hB, hb⟩)
    have HB := Hi hb
    have HO := Hi hO
    have lB := hO.lt
    clear hb hO
    go_loopw [4, 12] (fun q4 q12 wr => ∃ i : Nat, i ≤ 12 ∧ q12 = .int .i64 i ∧ c.is = c.isFrom (12 - i) i ∧ Below w1.heap.size w1 wr) (fun _ q12 _ => 12 - (intOf q12).toNat)
    case atStart => exact ⟨0, by omega, rfl, rfl, Below.refl _ _⟩
    case round =>
      obtain ⟨i, hi, rfl, hf, hb⟩ := hrel
      have Hb := Hi hb
      have Hf := Hi hf
      clear hb hf
      by_cases hlt : i < 12
      · have D1 : decide ((i : Int) < 12) = true := by rw [decide_eq_true_iff]; omega
        obtain ⟨r0, r1, r2, r3⟩ := c.row_cells i hlt
        obtain ⟨⟨wr0, kd, at0, lo⟩, hrow⟩ : ∃ r, c.row i = r := ⟨_, rfl⟩
        have HO2 := HO.out.below Hb.out lB
        rw [hrow] at r0 r1 r2 r3
        have c0 : wr.cell? ⟨B, i * 4, none⟩ = some (.bool wr0) := (HO2.cell _).trans r0
        have c1 : wr.cell? ⟨B, i * 4 + 1, none⟩ = some (.int .i64 kd) := (HO2.cell _).trans r1
        have c2 : wr.cell? ⟨B, i * 4 + 2, none⟩ = some (.int .i64 at0) := (HO2.cell _).trans r2
        have c3 : wr.cell? ⟨B, i * 4 + 3, none⟩ = some (.bool lo) := (HO2.cell _).trans r3
        have HROW := Hi hrow
        clear r0 r1 r2 r3 HO2 hrow
        cases wr0 <;> cases lo
        all_goals go_wp2_with fail
        · exact ⟨⟨i + 1, by omega, by go_num, Hf.out.trans (c.is_next hlt HROW.out rfl), Hb.out.alloc Hb.out.size _⟩, by simp [intOf]; omega⟩
        · exact ⟨⟨i + 1, by omega, by go_num, Hf.out.trans (c.is_next hlt HROW.out rfl), Hb.out.alloc Hb.out.size _⟩, by simp [intOf]; omega⟩
        · go_ret
          exact ⟨ret_b (by rw [E.out, Hf.out, c.is_bad hlt HROW.out rfl]), bthen (Hb.out.alloc Hb.out.size _) HB.out HB.out.size⟩
        · exact ⟨⟨i + 1, by omega, by go_num, Hf.out.trans (c.is_next hlt HROW.out rfl), Hb.out.alloc Hb.out.size _⟩, by simp [intOf]; omega⟩
      · obtain rfl : i = 12 := by omega
        have D1 : decide (((12 : Nat) : Int) < 12) = false := by decide
        go_wp2_with fail
        go_ret
        exact ⟨ret_b (by rw [E.out, Hf.out]; rfl), bthen Hb.out HB.out HB.out.size⟩
def prefB (s p : ByteArray) : Bool := decide (p.size ≤ s.size) && ((s.extract 0 p.size).toList == p.toList)
theorem prefix0_any (s p : ByteArray) (w : World) : Calls Tryz.prog 31 #[.string s, .string p] w fun e w' => e = .returned (.bool (prefB s p)) ∧ w' = w := by
  by_cases h : p.size ≤ s.size
  · have D : decide ((s.size : Int) ≥ (p.size : Int)) = true := by rw [decide_eq_true_iff]; omega
    have E := Hi (show prefB s p = ((s.extract 0 p.size).toList == p.toList) by unfold prefB; rw [decide_eq_true h]; rfl)
    go_enter Tryz.func31, Tryz.ntmps31
    go_wp2_with fail
    go_ret
    exact ⟨ret_b E.out.symm, rfl⟩
  · have D : decide ((s.size : Int) ≥ (p.size : Int)) = false := by rw [decide_eq_false_iff_not]; omega
    have E := Hi (show prefB s p = false by unfold prefB; rw [decide_eq_false h]; rfl)
    go_enter Tryz.func31, Tryz.ntmps31
    go_wp2_with fail
    go_ret
    exact ⟨ret_b E.out.symm, rfl⟩
theorem prefix_any (s p : ByteArray) (w : World) : Calls Tryz.prog 54 #[.string s, .string p] w fun e w' => e = .returned (.bool (prefB s p)) ∧ w' = w := by
  have HP := Hi (fun w0 => prefix0_any s p w0)
  go_enter Tryz.func54, Tryz.ntmps54
  go_wp2_with ((go_at_call 31; (with_reducible refine (HP.out _).mono ?_); rintro e w1 ⟨rfl, rfl⟩))
  go_ret
  exact ⟨rfl, rfl⟩
theorem qoi_any (s : ByteArray) (w : World) : Calls Tryz.prog 56 #[.string s] w fun e w' => e = .returned (.bool (prefB s ⟨#[113, 111, 105, 102]⟩)) ∧ w' = w := by
  have HP := Hi (fun p w0 => prefix_any s p w0)
  go_enter Tryz.func56, Tryz.ntmps56
  go_wp2_with ((go_at_call 54; (with_reducible refine (HP.out _ _).mono ?_); rintro e w1 ⟨rfl, rfl⟩))
  go_ret
  exact ⟨rfl, rfl⟩
theorem ff_any (s : ByteArray) (w : World) : Calls Tryz.prog 57 #[.string s] w fun e w' => e = .returned (.bool (prefB s ⟨#[102, 97, 114, 98, 102, 101, 108, 100]⟩)) ∧ w' = w := by
  have HP := Hi (fun p w0 => prefix_any s p w0)
  go_enter Tryz.func57, Tryz.ntmps57
  go_wp2_with ((go_at_call 54; (with_reducible refine (HP.out _ _).mono ?_); rintro e w1 ⟨rfl, rfl⟩))
  go_ret
  exact ⟨rfl, rfl⟩
def verB (b : Int) : Bool := decide (b ≤ 5) && b != 1
theorem version_any (b : Int) (w : World) : Calls Tryz.prog 91 #[.int .u8 b] w fun e w' => e = .returned (.bool (verB b)) ∧ w' = w := by
  go_enter Tryz.func91, Tryz.ntmps91
  go_wp2
  all_goals go_ret
  all_goals exact ⟨ret_b (by unfold verB; simp_all <;> omega), rfl⟩
end Go.Proofs.YtapdgfeekipidaaGreatDoor
namespace Go.Proofs.YtapdgfeekipidaaGreatDoor
open Go.RowKit
theorem results_cc {P : Program} {fn : Func} {p q : Tmp} {ty ty2 : TypeId} (h : fn.results = #[.cell p ty, .cell q ty2]) (tmps : Array Value) (w : World) (b b2 : Nat) (cs cs2 : List Value) (d d2 : TypeDesc)
    (hp : tmps.getD p undef = .pointer (some ⟨b, 0, none⟩)) (R : w.rangeAt b 0 cs) (hu : P.underlying ty = some d) (hd : d.isRow = true) (hi : (P.info? ty).map (·.size) = some cs.length)
    (hq : tmps.getD q undef = .pointer (some ⟨b2, 0, none⟩)) (R2 : w.rangeAt b2 0 cs2) (hu2 : P.underlying ty2 = some d2) (hd2 : d2.isRow = true) (hi2 : (P.info? ty2).map (·.size) = some cs2.length) :
    (results fn tmps).run P w = .ok (.tuple #[.agg cs.toArray, .agg cs2.toArray]) w := by
  have hp' : tmps[p]?.getD undef = .pointer (some ⟨b, 0, none⟩) := by simpa using hp
  have hq' : tmps[q]?.getD undef = .pointer (some ⟨b2, 0, none⟩) := by simpa using hq
  simp [results, h, hp', hq', asAddr, run_loadVar_mid w b 0 ty cs d R hu hd hi, run_loadVar_mid w b2 0 ty2 cs2 d2 R2 hu2 hd2 hi2]
end Go.Proofs.YtapdgfeekipidaaGreatDoor
namespace Go
theorem gen_frame {P : Program} {ops : Array Oper} {Q : Exit → Act → World → Prop} {a : Act} {w : World} (p : Nat) (v : Value) (hv : a.tmps.getD p undef = v) (hd : a.defers = [])
    (h : ∀ A : Act, A.tmps.getD p undef = v → A.defers = [] → wpList P ops Q [] A w) : wpList P ops Q [] a w := h a hv hd
end Go
namespace Go.Proofs.YtapdgfeekipidaaGreatDoor
open Go.RowKit
set_option linter.unusedVariables false
set_option linter.unusedSimpArgs false
def RA (w : World) (L : List Value) (e : Ending) (w' : World) : Prop := e = .returned (.agg L.toArray) ∧ Below w.heap.size w w'
theorem Pair.into {w w2 : World} {X b o : Nat} {vs : List Value} {x : Sr} {l : Led} (h : Pair w X x l) (hst : Stored w b o vs w2) (h1 : X ≠ b) (h2 : x.L ≠ b) : Pair w2 X x l :=
  ⟨⟨hst.oth h.src.obj h1, h.src.ok, h.src.ne⟩, ⟨hst.oth h.led.obj h2, h.led.ok⟩⟩
theorem Pair.upon {B : Nat} {w w' : World} {X : Nat} {x : Sr} {l : Led} (h : Pair w X x l) (hb : Below B w w') (h1 : X < B) (h2 : x.L < B) : Pair w' X x l := ⟨⟨h.src.obj.below hb h1, h.src.ok, h.src.ne⟩, ⟨h.led.obj.below hb h2, h.led.ok⟩⟩
end Go.Proofs.YtapdgfeekipidaaGreatDoor
namespace Go.Proofs.YtapdgfeekipidaaGreatDoor
open Go.RowKit
set_option linter.unusedVariables false
theorem owns_cell {w : World} {base e g n cap : Nat} {xs : List Value} (h : w.ownsRow base e 1 (.slice (some ⟨g, 0, none⟩) n cap) n xs) (j : Nat) (v : Value) (hv : xs[j]? = some v) : w.cell? ⟨g, j, none⟩ = some v := by
  obtain ⟨hl, h2⟩ := h
  rcases h2 with ⟨h2, _⟩ | ⟨g', cap', cur, hv', hg, hh, hn, hc, hs, ht⟩
  · simp at h2
  · injection hv' with hv'; injection hv' with hv'; injection hv' with hv'; subst hv'
    have hj : j < n := by rw [← Nat.mul_one n, ← hl]; exact (List.getElem?_eq_some_iff.1 hv).1
    rw [← ht, List.getElem?_take, if_pos (by omega)] at hv
    simp [World.cell?, hh]; simpa using hv
end Go.Proofs.YtapdgfeekipidaaGreatDoor
namespace Go.Proofs.YtapdgfeekipidaaGreatDoor
open Go.RowKit
set_option linter.unusedVariables false
set_option linter.unusedSimpArgs false
theorem load_og {P : Program} {ops : Array Oper} {rest : List Oper} {op : Oper} {a : Act} {w : World} {Q : Exit → Act → World → Prop} (hw : Region.wanted op (yielded ops a.tmps) = true) (ty : TypeId) (n : Nat) (x : Operand) (ho : op.op = .load ty x)
    (b : Nat) (YS : List Value) (hl : YS.length = n) (hx : a.eval x = .pointer (some ⟨b, 0, none⟩)) {T : TypeId} (hO : Obj1 w b YS.toArray T) {d : TypeDesc} (hu : P.underlying ty = some d) (hd : d.isRow = true) (hi : (P.info? ty).map (·.size) = some n)
    (h : wpList P ops Q rest (a.put op.dst (.agg YS.toArray)) w) : wpList P ops Q (op :: rest) a w := by
  rw [wpList, if_pos hw]
  exact Or.inl (wp_load_mid ty x ho b 0 hx YS d hO.range0 hu hd (by rw [hl]; exact hi) h)
end Go.Proofs.YtapdgfeekipidaaGreatDoor
namespace Go.Proofs.YtapdgfeekipidaaGreatDoor
open Go.RowKit
set_option linter.unusedVariables false
theorem load_u {P : Program} {ops : Array Oper} {rest : List Oper} {op : Oper} {a : Act} {w : World} {Q : Exit → Act → World → Prop} (hw : Region.wanted op (yielded ops a.tmps) = true) (ty : TypeId) (n : Nat) (x : Operand) (ho : op.op = .load ty x)
    (b : Nat) (YS : List Value) (hl : YS.length = n) (hx : a.eval x = .pointer (some ⟨b, 0, none⟩)) {T : TypeId} (hO : Obj1 w b YS.toArray T) {d : TypeDesc} (hu : P.underlying ty = some d) (hd : d.isRow = true) (hi : (P.info? ty).map (·.size) = some n)
    (h : Unit → wpList P ops Q rest (a.put op.dst (.agg YS.toArray)) w) : wpList P ops Q (op :: rest) a w := load_og hw ty n x ho b YS hl hx hO hu hd hi (h ())
theorem Obj1.cells {w : World} {b : Nat} {cs cs' : Array Value} {T : TypeId} (h : Obj1 w b cs T) (e : cs = cs') : Obj1 w b cs' T := e ▸ h
theorem Pair.alloc {w : World} {X : Nat} {x : Sr} {l : Led} (h : Pair w X x l) (o : Obj) : Pair (w.alloc o) X x l :=
  h.upon ((Below.refl w.heap.size w).alloc (Nat.le_refl _) o) h.src.lt h.led.lt
end Go.Proofs.YtapdgfeekipidaaGreatDoor
namespace Go.Proofs.YtapdgfeekipidaaGreatDoor
open Go.RowKit
set_option linter.unusedVariables false
set_option linter.unusedSimpArgs false
def ordL : List Int := [1, 3, 5, 6, 8, 7, 4, 2]
def ordV : List Value := [.int .i64 1, .int .i64 3, .int .i64 5, .int .i64 6, .int .i64 8, .int .i64 7, .int .i64 4, .int .i64 2]
set_option maxRecDepth 100000 in
set_option maxHeartbeats 4000000 in
theorem order_any (w : World) : Calls Tryz.prog 33 #[] w (RA w ordV) := by
  have O0 := Hi (obj1_new w #[.int .i64 0, .int .i64 0, .int .i64 0, .int .i64 0, .int .i64 0, .int .i64 0, .int .i64 0, .int .i64 0] 75)
  have B0 := Hi ((Below.refl w.heap.size w).alloc (Nat.le_refl _) (.cells #[.int .i64 0, .int .i64 0, .int .i64 0, .int .i64 0, .int .i64 0, .int .i64 0, .int .i64 0, .int .i64 0] 75))
  go_enter Tryz.func33, Tryz.ntmps33
  go_wp2_with (refine store_o rfl 75 8 _ _ rfl w.heap.size ordV rfl rfl (by kernel_rfl) (by kernel_rfl) (by kernel_rfl) O0.out (by first | rfl | simp) ?_; intro w3 hst hO; have HO := Hi hO; have B9 := Hi (hst.below B0.out (Nat.le_refl _)); clear hst hO; refine gen_frame 0 (.pointer (some ⟨w.heap.size, 0, none⟩)) (by kernel_rfl) (by kernel_rfl) ?_; intro A hA hAd)
  refine bodyPost_ret (v := .agg (List.toArray ordV)) ?_ hAd ⟨rfl, B9.out⟩
  exact results_c Tryz.results33 _ _ _ ordV _ hA HO.out.range0 Tryz.underlying75 rfl (by kernel_rfl)
end Go.Proofs.YtapdgfeekipidaaGreatDoor

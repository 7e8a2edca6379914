/- Small facts, further: whole structs stored and read, the world behind given a name. No program in sight. -/
import Derived.Test.YtlhcjnjajkfahaaK0
import Derived.Test.YtlhcjnjajkfahaaProg
import Derived.Laws.LoneSync
import Derived.RegionCalls
import Derived.Defers
import Derived.StillTailTactics
namespace Go.Proofs.Ytlhcjnjajkfahaa
open Go.RowKit
/-- What a walk is told of a slice of integers that came in: it is nil, or it leads to a row of 'cap' cells. -/
def IsRow (k : IntKind) (w : World) (a : Option Addr) (len cap : Nat) (zs : List Int) : Prop :=
  (a = none ∧ len = 0 ∧ cap = 0 ∧ zs = []) ∨
  ∃ x, a = some x ∧ len ≤ cap ∧ cap ≤ maxLen ∧ zs.length = cap ∧ (∀ i, i < zs.length → w.cell? (x.add i) = some (.int k (zs.getD i 0))) ∧ ∀ n ∈ zs, (Lit.int k n).wf = true
/-- A struct is stored: what is behind it is a world w2 of which alone is known that it is w with these cells. -/
def Stored (w : World) (b o : Nat) (vs : List Value) (w2 : World) : Prop := w2 = w.setCells b o vs
theorem store_gen {P : Program} {ops : Array Oper} {rest : List Oper} {op : Oper} {a : Act} {w : World} {Q : Exit → Act → World → Prop} (hgd : op.guard = none) (ty : TypeId) (x y : Operand) (ho : op.op = .store ty x y)
    (b o : Nat) (cells : Array Value) (hx : a.eval x = .pointer (some ⟨b, o, none⟩)) (hy : a.eval y = .agg cells)
    (ht : w.there b o cells.size) (hi : (P.info? ty).map (·.size) = some cells.size) (h1 : cells.toList.all (·.oneCell') = true)
    (h : ∀ w2, Stored w b o cells.toList w2 → wpList P ops Q rest (a.put op.dst undef) w2) : wpList P ops Q (op :: rest) a w :=
  store_mid hgd ty x y ho b o cells hx hy ht hi h1 (h _ rfl)
theorem Stored.below {w w2 a : World} {b o B : Nat} {vs : List Value} (h : Stored w b o vs w2) (hb : Below B a w) (hB : B ≤ b) : Below B a w2 := by
  rw [show w2 = _ from h]; exact below_setCells hB vs o w hb
theorem Stored.range {w w2 : World} {b o : Nat} {vs : List Value} (h : Stored w b o vs w2) (ht : w.there b o vs.length) : w2.rangeAt b o vs := by
  rw [show w2 = _ from h]; exact World.rangeAt_setCells_same w b o vs ht
theorem range_at {w : World} {b o : Nat} {vs : List Value} (h : w.rangeAt b o vs) (j : Nat) (v : Value) (hv : vs[j]? = some v) : w.cell? ⟨b, o + j, none⟩ = some v := h j v hv
theorem Stored.cell {w w2 : World} {b o : Nat} {vs : List Value} (h : Stored w b o vs w2) (b' o' : Nat) (hn : b' ≠ b ∨ o' < o ∨ o + vs.length ≤ o') : w2.cell? ⟨b', o', none⟩ = w.cell? ⟨b', o', none⟩ := by
  rw [show w2 = _ from h]
  exact World.cell?_setCells_out b vs o w _ (fun e _ => by rcases hn with hn | hn; · exact absurd e hn
                                                           · exact hn)
theorem Stored.frozen {w w2 : World} {b o : Nat} {vs : List Value} (h : Stored w b o vs w2) (a : Addr) : w2.frozen? a = w.frozen? a := by
  rw [show w2 = _ from h]; exact World.frozen?_setCells ..
theorem Stored.size {w w2 : World} {b o : Nat} {vs : List Value} (h : Stored w b o vs w2) : w2.heap.size = w.heap.size := by
  rw [show w2 = _ from h]; clear h
  induction vs generalizing w o with
  | nil => rfl
  | cons v r ih => rw [World.setCells, ih]; simp [World.setCell]
theorem Stored.slot {w w2 : World} {b o r n : Nat} {vs : List Value} (h : Stored w b o vs w2) (hs : Slot r n w) : Slot r n w2 := by
  rw [show w2 = _ from h]; clear h
  induction vs generalizing w o with
  | nil => exact hs
  | cons v rs ih => rw [World.setCells]; exact ih (slot_set hs _ _)
/-- The results of a function whose first is a struct in memory. -/
theorem range_load {P : Program} {w : World} {b o : Nat} {ty : TypeId} {cs : List Value} {d : TypeDesc} (hc : w.rangeAt b o cs) (hu : P.underlying ty = some d) (hd : d.isRow = true) (hi : (P.info? ty).map (·.size) = some cs.length) :
    (loadVar ty ⟨b, o, none⟩).run P w = .ok (.agg cs.toArray) w := run_loadVar_mid w b o ty cs d hc hu hd hi
theorem results_c {P : Program} {fn : Func} {p : Tmp} {ty : TypeId} (h : fn.results = #[.cell p ty]) (tmps : Array Value) (w : World) (b : Nat) (cs : List Value) (d : TypeDesc)
    (hp : tmps.getD p undef = .pointer (some ⟨b, 0, none⟩)) (R : w.rangeAt b 0 cs) (hu : P.underlying ty = some d) (hd : d.isRow = true) (hi : (P.info? ty).map (·.size) = some cs.length) :
    (results fn tmps).run P w = .ok (.agg cs.toArray) w := by
  have hp' : tmps[p]?.getD undef = .pointer (some ⟨b, 0, none⟩) := by simpa using hp
  simp [results, h, hp', asAddr, run_loadVar_mid w b 0 ty cs d R hu hd hi]
theorem results_c1 {P : Program} {fn : Func} {p q : Tmp} {ty : TypeId} (h : fn.results = #[.cell p ty, .tmp q]) (tmps : Array Value) (w : World) (b : Nat) (cs : List Value) (d : TypeDesc)
    (hp : tmps.getD p undef = .pointer (some ⟨b, 0, none⟩)) (R : w.rangeAt b 0 cs) (hu : P.underlying ty = some d) (hd : d.isRow = true) (hi : (P.info? ty).map (·.size) = some cs.length) :
    (results fn tmps).run P w = .ok (.tuple #[.agg cs.toArray, tmps.getD q undef]) w := by
  have hp' : tmps[p]?.getD undef = .pointer (some ⟨b, 0, none⟩) := by simpa using hp
  simp [results, h, hp', asAddr, run_loadVar_mid w b 0 ty cs d R hu hd hi]
theorem results_c2 {P : Program} {fn : Func} {p q r : Tmp} {ty : TypeId} (h : fn.results = #[.cell p ty, .tmp q, .tmp r]) (tmps : Array Value) (w : World) (b : Nat) (cs : List Value) (d : TypeDesc)
    (hp : tmps.getD p undef = .pointer (some ⟨b, 0, none⟩)) (R : w.rangeAt b 0 cs) (hu : P.underlying ty = some d) (hd : d.isRow = true) (hi : (P.info? ty).map (·.size) = some cs.length) :
    (results fn tmps).run P w = .ok (.tuple #[.agg cs.toArray, tmps.getD q undef, tmps.getD r undef]) w := by
  have hp' : tmps[p]?.getD undef = .pointer (some ⟨b, 0, none⟩) := by simpa using hp
  simp [results, h, hp', asAddr, run_loadVar_mid w b 0 ty cs d R hu hd hi]
end Go.Proofs.Ytlhcjnjajkfahaa

/- Objects in memory: a block known whole; what a call may have changed. No program in sight. -/
namespace Go.Proofs.Ytlhcjnjajkfahaa
open Go.RowKit
set_option linter.unusedVariables false
/-- A block that is known whole, and may be written. -/
def Obj1 (w : World) (b : Nat) (cs : Array Value) (T : TypeId) : Prop := w.heap[b]? = some (.cells cs T (0, 0))
theorem Obj1.cell {w : World} {b : Nat} {cs : Array Value} {T : TypeId} (h : Obj1 w b cs T) (i : Nat) : w.cell? ⟨b, i, none⟩ = cs[i]? := by
  unfold Obj1 at h; simp [World.cell?, h]
theorem Obj1.frozen {w : World} {b : Nat} {cs : Array Value} {T : TypeId} (h : Obj1 w b cs T) (i : Nat) : w.frozen? ⟨b, i, none⟩ = false := by
  unfold Obj1 at h; simp [World.frozen?, h]
theorem Obj1.lt {w : World} {b : Nat} {cs : Array Value} {T : TypeId} (h : Obj1 w b cs T) : b < w.heap.size := (Array.getElem?_eq_some_iff.1 h).1
theorem Obj1.set {w : World} {b : Nat} {cs : Array Value} {T : TypeId} (h : Obj1 w b cs T) (i : Nat) (v : Value) : Obj1 (w.setCell ⟨b, i, none⟩ v) b (cs.setIfInBounds i v) T := by
  unfold Obj1 at h ⊢; simp [World.setCell, Array.getElem?_modify, h]
theorem Obj1.set_other {w : World} {b : Nat} {cs : Array Value} {T : TypeId} (h : Obj1 w b cs T) (a : Addr) (v : Value) (hn : b ≠ a.block) : Obj1 (w.setCell a v) b cs T := by
  unfold Obj1 at h ⊢; rw [Below.heap_setCell _ _ _ _ hn]; exact h
theorem Obj1.alloc {w : World} {b : Nat} {cs : Array Value} {T : TypeId} (h : Obj1 w b cs T) (o : Obj) : Obj1 (w.alloc o) b cs T := by
  have hl := h.lt
  unfold Obj1 at h ⊢; rw [Below.heap_alloc _ _ _ hl]; exact h
theorem Obj1.drew {w : World} {b : Nat} {cs : Array Value} {T : TypeId} (h : Obj1 w b cs T) : Obj1 w.drew b cs T := h
theorem drewN_heap (w : World) (n : Nat) : (w.drewN n).heap = w.heap := by
  induction n generalizing w with
  | zero => rfl
  | succ n ih => exact ih w.drew
theorem Obj1.drewN {w : World} {b : Nat} {cs : Array Value} {T : TypeId} (h : Obj1 w b cs T) (n : Nat) : Obj1 (w.drewN n) b cs T := by
  unfold Obj1 at h ⊢; rw [drewN_heap]; exact h
theorem obj1_new (w : World) (cs : Array Value) (T : TypeId) : Obj1 (w.alloc (.cells cs T)) w.heap.size cs T := heap_alloc_new w _
theorem Obj1.below {w w' : World} {b B : Nat} {cs : Array Value} {T : TypeId} (h : Obj1 w b cs T) (hb : Below B w w') (hlt : b < B) : Obj1 w' b cs T := by
  unfold Obj1 at h ⊢; rw [hb.block b hlt]; exact h
/-- What a call may have changed: the blocks of S, and new ones. -/
structure Chg (S : Nat → Prop) (w w' : World) : Prop where
  os : w'.os = w.os
  tape : w'.tape = w.tape
  output : w'.output = w.output
  size : w.heap.size ≤ w'.heap.size
  block : ∀ k, k < w.heap.size → ¬ S k → w'.heap[k]? = w.heap[k]?
theorem Chg.refl (S : Nat → Prop) (w : World) : Chg S w w := ⟨rfl, rfl, rfl, Nat.le_refl _, fun _ _ _ => rfl⟩
theorem Chg.trans {S : Nat → Prop} {a b c : World} (h : Chg S a b) (k : Chg S b c) : Chg S a c :=
  ⟨k.os.trans h.os, k.tape.trans h.tape, k.output.trans h.output, Nat.le_trans h.size k.size, fun i hi hs => (k.block i (Nat.lt_of_lt_of_le hi h.size) hs).trans (h.block i hi hs)⟩
theorem Chg.mono {S S' : Nat → Prop} {w w' : World} (h : Chg S w w') (hS : ∀ k, k < w.heap.size → S k → S' k) : Chg S' w w' := ⟨h.os, h.tape, h.output, h.size, fun k hk hn => h.block k hk (fun hs => hn (hS k hk hs))⟩
theorem Chg.drew {S : Nat → Prop} {a w : World} (h : Chg S a w) : Chg S a w.drew := ⟨h.os, h.tape, h.output, h.size, h.block⟩
theorem Chg.drewN {S : Nat → Prop} {a w : World} (h : Chg S a w) (n : Nat) : Chg S a (w.drewN n) := by
  induction n with
  | zero => exact h
  | succ n ih => exact ih.drew
theorem Chg.set {S : Nat → Prop} {a w : World} (h : Chg S a w) (p : Addr) (v : Value) (hp : S p.block ∨ a.heap.size ≤ p.block) : Chg S a (w.setCell p v) :=
  ⟨h.os, h.tape, h.output, by simpa [World.setCell] using h.size, fun k hk hn => by
    rw [Below.heap_setCell _ _ _ _ (fun e => by subst e; rcases hp with hp | hp; · exact hn hp
                                                · omega)]
    exact h.block k hk hn⟩
theorem Chg.alloc {S : Nat → Prop} {a w : World} (h : Chg S a w) (o : Obj) : Chg S a (w.alloc o) :=
  ⟨h.os, h.tape, h.output, Nat.le_trans h.size (by simp), fun k hk hn => (Below.heap_alloc _ _ _ (Nat.lt_of_lt_of_le hk h.size)).trans (h.block k hk hn)⟩
theorem chg_of_below {w w' : World} (h : Below w.heap.size w w') (S : Nat → Prop) : Chg S w w' := ⟨h.os, h.tape, h.output, h.size, fun k hk _ => h.block k hk⟩
theorem Chg.below {S : Nat → Prop} {w w' : World} (h : Chg S w w') {B : Nat} (hB : B ≤ w.heap.size) (hS : ∀ k, S k → B ≤ k) : Below B w w' :=
  ⟨h.os, h.tape, h.output, h.size, fun k hk => h.block k (by omega) (fun hs => by have := hS k hs; omega)⟩
theorem Chg.obj {S : Nat → Prop} {w w' : World} (h : Chg S w w') {b : Nat} {cs : Array Value} {T : TypeId} (ho : Obj1 w b cs T) (hn : ¬ S b) : Obj1 w' b cs T := by
  have hl := ho.lt
  unfold Obj1 at ho ⊢; rw [h.block b hl hn]; exact ho
theorem Chg.cell {S : Nat → Prop} {w w' : World} (h : Chg S w w') {b o : Nat} (hb : b < w.heap.size) (hn : ¬ S b) : w'.cell? ⟨b, o, none⟩ = w.cell? ⟨b, o, none⟩ := World.cell?_of_block (w := w) (h.block b hb hn)
/-- One more step, below a block number. -/
theorem bchg {B : Nat} {a b c : World} (h : Below B a b) {S : Nat → Prop} (k : Chg S b c) (hB : B ≤ b.heap.size) (hS : ∀ k, S k → B ≤ k) : Below B a c := h.trans (k.below hB hS)
end Go.Proofs.Ytlhcjnjajkfahaa

/- Whole structs loaded and stored, the value an opaque list of cells. No program in sight. -/
namespace Go.Proofs.Ytlhcjnjajkfahaa
open Go.RowKit
set_option linter.unusedVariables false
theorem Obj1.there {w : World} {b : Nat} {cs : Array Value} {T : TypeId} (h : Obj1 w b cs T) (o n : Nat) (hn : o + n ≤ cs.size) : w.there b o n := fun j hj => by
  refine ⟨?_, h.frozen _⟩
  rw [h.cell, Array.getElem?_eq_getElem (by omega)]; rfl
theorem Obj1.range0 {w : World} {b : Nat} {cs : List Value} {T : TypeId} (h : Obj1 w b cs.toArray T) : w.rangeAt b 0 cs := fun j v hv => by
  rw [h.cell, Nat.zero_add]; simpa using hv
def setL : Array Value → Nat → List Value → Array Value
  | cs, _, [] => cs
  | cs, o, v :: r => setL (cs.setIfInBounds o v) (o + 1) r
theorem Stored.obj {w w2 : World} {b o : Nat} {vs : List Value} {cs : Array Value} {T : TypeId} (hst : Stored w b o vs w2) (h : Obj1 w b cs T) : Obj1 w2 b (setL cs o vs) T := by
  rw [show w2 = _ from hst]; clear hst
  induction vs generalizing w o cs with
  | nil => exact h
  | cons v r ih => rw [World.setCells, setL]; exact ih (h.set o v)
theorem Stored.oth {w w2 : World} {b o b' : Nat} {vs : List Value} {cs : Array Value} {T : TypeId} (hst : Stored w b o vs w2) (h : Obj1 w b' cs T) (hn : b' ≠ b) : Obj1 w2 b' cs T := by
  rw [show w2 = _ from hst]; clear hst
  induction vs generalizing w o with
  | nil => exact h
  | cons v r ih => rw [World.setCells]; exact ih (h.set_other _ _ hn)
theorem setL_get' (vs : List Value) : ∀ (cs : Array Value) (o i : Nat), o + vs.length ≤ cs.size → (setL cs o vs)[i]? = if o ≤ i ∧ i < o + vs.length then vs[i - o]? else cs[i]? := by
  induction vs with
  | nil => intro cs o i h; rw [setL, if_neg (by simp)]
  | cons v r ih =>
    intro cs o i h
    rw [setL, ih _ _ _ (by simp at h ⊢; omega)]
    simp only [List.length_cons] at h ⊢
    by_cases h1 : o + 1 ≤ i ∧ i < o + 1 + r.length
    · rw [if_pos h1, if_pos (by omega), show i - o = (i - (o + 1)) + 1 by omega, List.getElem?_cons_succ]
    · rw [if_neg h1]
      by_cases h2 : i = o
      · subst h2; rw [if_pos (by omega), Nat.sub_self]; simp [Array.getElem?_setIfInBounds]; omega
      · rw [if_neg (by omega), Array.getElem?_setIfInBounds, if_neg (by omega)]
theorem setL_full' (cs : Array Value) (vs : List Value) (h : vs.length = cs.size) : setL cs 0 vs = vs.toArray := by
  apply Array.ext_getElem?
  intro i
  rw [setL_get' vs cs 0 i (by omega)]
  by_cases hi : i < vs.length
  · rw [if_pos (by omega)]; simp
  · rw [if_neg (by omega), Array.getElem?_eq_none (by omega)]; simp; omega
theorem Stored.whole {w w2 : World} {b : Nat} {vs : List Value} {cs : Array Value} {T : TypeId} (hst : Stored w b 0 vs w2) (h : Obj1 w b cs T) (hl : vs.length = cs.size) : Obj1 w2 b vs.toArray T := by
  have := hst.obj h; rwa [setL_full' _ _ hl] at this
/-- A whole struct is stored over another. -/
theorem store_o {P : Program} {ops : Array Oper} {rest : List Oper} {op : Oper} {a : Act} {w : World} {Q : Exit → Act → World → Prop} (hgd : op.guard = none) (ty : TypeId) (n : Nat) (x y : Operand) (ho : op.op = .store ty x y)
    (b : Nat) (YS : List Value) (hl : YS.length = n) (h1 : YS.all (·.oneCell') = true) (hx : a.eval x = .pointer (some ⟨b, 0, none⟩)) (hy : a.eval y = .agg YS.toArray) (hi : (P.info? ty).map (·.size) = some n) {cs : Array Value} {T : TypeId} (hO : Obj1 w b cs T) (hs : cs.size = n)
    (h : ∀ w2, Stored w b 0 YS w2 → Obj1 w2 b YS.toArray T → wpList P ops Q rest (a.put op.dst undef) w2) : wpList P ops Q (op :: rest) a w :=
  store_gen hgd ty x y ho b 0 YS.toArray hx hy (by have := hO.there 0 n (by omega); simpa [hl] using this) (by rw [List.size_toArray, hl]; exact hi) (by simpa using h1)
    fun w2 hst => h w2 (by simpa using hst) ((show Stored w b 0 YS w2 by simpa using hst).whole hO (by omega))
theorem load_o {P : Program} {ops : Array Oper} {rest : List Oper} {op : Oper} {a : Act} {w : World} {Q : Exit → Act → World → Prop} (hgd : op.guard = none) (ty : TypeId) (n : Nat) (x : Operand) (ho : op.op = .load ty x)
    (b : Nat) (YS : List Value) (hl : YS.length = n) (hx : a.eval x = .pointer (some ⟨b, 0, none⟩)) {T : TypeId} (hO : Obj1 w b YS.toArray T) {d : TypeDesc} (hu : P.underlying ty = some d) (hd : d.isRow = true) (hi : (P.info? ty).map (·.size) = some n)
    (h : wpList P ops Q rest (a.put op.dst (.agg YS.toArray)) w) : wpList P ops Q (op :: rest) a w :=
  wpList_load_mid hgd ty x ho b 0 hx YS _ hO.range0 hu hd (by rw [hl]; exact hi) h
end Go.Proofs.Ytlhcjnjajkfahaa

/- Results of which two are structs in memory. No program in sight. -/
namespace Go.Proofs.Ytlhcjnjajkfahaa
open Go.RowKit
theorem results_cc {P : Program} {fn : Func} {p q : Tmp} {ty ty2 : TypeId} (h : fn.results = #[.cell p ty, .cell q ty2]) (tmps : Array Value) (w : World) (b b2 : Nat) (cs cs2 : List Value) (d d2 : TypeDesc)
    (hp : tmps.getD p undef = .pointer (some ⟨b, 0, none⟩)) (R : w.rangeAt b 0 cs) (hu : P.underlying ty = some d) (hd : d.isRow = true) (hi : (P.info? ty).map (·.size) = some cs.length)
    (hq : tmps.getD q undef = .pointer (some ⟨b2, 0, none⟩)) (R2 : w.rangeAt b2 0 cs2) (hu2 : P.underlying ty2 = some d2) (hd2 : d2.isRow = true) (hi2 : (P.info? ty2).map (·.size) = some cs2.length) :
    (results fn tmps).run P w = .ok (.tuple #[.agg cs.toArray, .agg cs2.toArray]) w := by
  have hp' : tmps[p]?.getD undef = .pointer (some ⟨b, 0, none⟩) := by simpa using hp
  have hq' : tmps[q]?.getD undef = .pointer (some ⟨b2, 0, none⟩) := by simpa using hq
  simp [results, h, hp', hq', asAddr, run_loadVar_mid w b 0 ty cs d R hu hd hi, run_loadVar_mid w b2 0 ty2 cs2 d2 R2 hu2 hd2 hi2]
end Go.Proofs.Ytlhcjnjajkfahaa

/- Atomics of the ledger, walked. -/
namespace Go.Proofs.Ytlhcjnjajkfahaa
open Go.RowKit
set_option linter.unusedVariables false
theorem aload64 (L o : Nat) (v : Int) (w : World) (hc : w.cell? ⟨L, o, none⟩ = some (.int .i64 v)) : Calls Try.prog 127 #[.pointer (some ⟨L, o, none⟩)] w fun e w' => e = .returned (.int .i64 v) ∧ w = w' := by
  have hl := run_call_load (P := Try.prog) Try.func130 (by kernel_rfl) (by kernel_rfl) (by kernel_rfl) .i64 (by kernel_rfl) hc
  go_enter Try.func127, Try.ntmps127
  go_wp2
  go_ret
  exact ⟨rfl, rfl⟩
theorem bload_f (L o : Nat) (w : World) (hc : w.cell? ⟨L, o, none⟩ = some (.int .u32 0)) : Calls Try.prog 120 #[.pointer (some ⟨L, o, none⟩)] w fun e w' => e = .returned (.bool false) ∧ w = w' := by
  have hl := run_call_load (P := Try.prog) Try.func126 (by kernel_rfl) (by kernel_rfl) (by kernel_rfl) .u32 (by kernel_rfl) hc
  go_enter Try.func120, Try.ntmps120
  go_wp2
  go_ret
  exact ⟨rfl, rfl⟩
theorem bload_t (L o : Nat) (w : World) (hc : w.cell? ⟨L, o, none⟩ = some (.int .u32 1)) : Calls Try.prog 120 #[.pointer (some ⟨L, o, none⟩)] w fun e w' => e = .returned (.bool true) ∧ w = w' := by
  have hl := run_call_load (P := Try.prog) Try.func126 (by kernel_rfl) (by kernel_rfl) (by kernel_rfl) .u32 (by kernel_rfl) hc
  go_enter Try.func120, Try.ntmps120
  go_wp2
  go_ret
  exact ⟨rfl, rfl⟩
theorem acas64 (L o : Nat) (v y : Int) (w : World) (hc : w.cell? ⟨L, o, none⟩ = some (.int .i64 v)) (hz : w.frozen? ⟨L, o, none⟩ = false) :
    Calls Try.prog 129 #[.pointer (some ⟨L, o, none⟩), .int .i64 v, .int .i64 y] w fun e w' => e = .returned (.bool true) ∧ w.setCell ⟨L, o, none⟩ (.int .i64 y) = w' := by
  have hcas := run_call_cas_hit (P := Try.prog) Try.func134 (by kernel_rfl) (by kernel_rfl) (by kernel_rfl) .i64 (by kernel_rfl) (y := y) hc hz
  go_enter Try.func129, Try.ntmps129
  go_wp2
  go_ret
  exact ⟨rfl, rfl⟩
/-- 'add', the ledger not broken, the count within its bound. -/
theorem add_ok (L o : Nat) (n most reason was : Int) (w : World) (hbr : w.cell? ⟨L, 7, none⟩ = some (.int .u32 0)) (hc : w.cell? ⟨L, o, none⟩ = some (.int .i64 was)) (hz : w.frozen? ⟨L, o, none⟩ = false)
    (h0 : 0 ≤ n) (h1 : n ≤ most - was) (h2 : 0 ≤ was) (h3 : was ≤ most) (h4 : most ≤ 9223372036854775807) :
    Calls Try.prog 125 #[.pointer (some ⟨L, 0, none⟩), .pointer (some ⟨L, o, none⟩), .int .i64 n, .int .i64 most, .int .i64 reason] w fun e w' => e = .returned (.bool true) ∧ w.setCell ⟨L, o, none⟩ (.int .i64 (was + n)) = w' := by
  go_enter Try.func125, Try.ntmps125
  go_wp2
  refine wp_loop_rounds 1 ?_
  rw [rounds_succ]
  go_wp2_with (first
    | (go_at_call 120; (with_reducible refine (bload_f _ _ _ (by assumption)).mono ?_); rintro e w1 ⟨rfl, rfl⟩)
    | (go_at_call 127; (with_reducible refine (aload64 _ _ _ _ (by assumption)).mono ?_); rintro e w1 ⟨rfl, rfl⟩)
    | (go_at_call 129; (with_reducible refine (acas64 _ _ _ _ _ (by assumption) (by assumption)).mono ?_); rintro e w1 ⟨rfl, rfl⟩))
  go_ret
  exact ⟨rfl, rfl⟩
theorem add_broken (L o : Nat) (n most reason : Int) (w : World) (hbr : w.cell? ⟨L, 7, none⟩ = some (.int .u32 1)) :
    Calls Try.prog 125 #[.pointer (some ⟨L, 0, none⟩), .pointer (some ⟨L, o, none⟩), .int .i64 n, .int .i64 most, .int .i64 reason] w fun e w' => e = .returned (.bool false) ∧ w = w' := by
  go_enter Try.func125, Try.ntmps125
  go_wp2
  refine wp_loop_rounds 1 ?_
  rw [rounds_succ]
  go_wp2_with (first
    | (go_at_call 120; (with_reducible refine (bload_t _ _ _ (by assumption)).mono ?_); rintro e w1 ⟨rfl, rfl⟩))
  go_ret
  exact ⟨rfl, rfl⟩
set_option maxRecDepth 100000 in
theorem work_ok (L : Nat) (n most was : Int) (w : World) (hbr : w.cell? ⟨L, 7, none⟩ = some (.int .u32 0)) (hm : w.cell? ⟨L, 3, none⟩ = some (.int .i64 most)) (hc : w.cell? ⟨L, 6, none⟩ = some (.int .i64 was)) (hz : w.frozen? ⟨L, 6, none⟩ = false)
    (h0 : 0 ≤ n) (h1 : n ≤ most - was) (h2 : 0 ≤ was) (h3 : was ≤ most) (h4 : most ≤ 9223372036854775807) :
    Calls Try.prog 118 #[.pointer (some ⟨L, 0, none⟩), .int .i64 n] w fun e w' => e = .returned (.bool true) ∧ ∃ k, (w.drewN k).setCell ⟨L, 6, none⟩ (.int .i64 (was + n)) = w' := by
  have HA := Lib.hid (fun k => add_ok L 6 n most 3 was (w.drewN k) (by rw [World.cell?_drewN]; exact hbr) (by rw [World.cell?_drewN]; exact hc) (by rw [World.frozen?_drewN]; exact hz) h0 h1 h2 h3 h4)
  clear h0 h1 h2 h3 h4
  go_enter Try.func118, Try.ntmps118
  go_wp2
  go_still_tail 10, (by kernel_rfl)
  rw [show (⟨w.heap, w.tape, w.drawn + 1, w.os, w.output⟩ : World) = w.drewN 1 from rfl]
  go_wp2_with (go_at_call 125; (with_reducible refine (HA.out 1).mono ?_); rintro e w1 ⟨rfl, rfl⟩)
  go_ret
  exact ⟨rfl, 1, rfl⟩
end Go.Proofs.Ytlhcjnjajkfahaa

/- The ledger's first refusal: sync.Once, walked. -/
namespace Go.Proofs.Ytlhcjnjajkfahaa
open Go.RowKit
set_option linter.unusedVariables false
theorem c_disable (w : World) : (callFunc 142 #[]).run Try.prog w = .ok (.value (.tuple #[])) w := run_call_mark0 Try.func142 (by kernel_rfl) (by kernel_rfl) (by kernel_rfl) .disable (by kernel_rfl) w
theorem c_enable (w : World) : (callFunc 144 #[]).run Try.prog w = .ok (.value (.tuple #[])) w := run_call_mark0 Try.func144 (by kernel_rfl) (by kernel_rfl) (by kernel_rfl) .enable (by kernel_rfl) w
theorem c_acquire (a : Addr) (w : World) : (callFunc 145 #[.pointer (some a)]).run Try.prog w = .ok (.value (.tuple #[])) w := run_call_marked Try.func145 (by kernel_rfl) (by kernel_rfl) (by kernel_rfl) .acquire (by kernel_rfl) a w
theorem c_release (a : Addr) (w : World) : (callFunc 147 #[.pointer (some a)]).run Try.prog w = .ok (.value (.tuple #[])) w := run_call_marked Try.func147 (by kernel_rfl) (by kernel_rfl) (by kernel_rfl) .releaseMerge (by kernel_rfl) a w
theorem store_deferred (L o : Nat) (x : Value) (u : FrameMode) (w : World) (hc : w.cell? ⟨L, o, none⟩ = some x) (hz : w.frozen? ⟨L, o, none⟩ = false) :
    CallsD Try.prog 133 #[.pointer (some ⟨L, o, none⟩), .bool true] u w fun e u' w' => u' = u ∧ (e = .returned (.tuple #[]) ∧ w' = w.drew.setCell ⟨L, o, none⟩ (.int .u32 1)) := by
  have hc' : w.drew.cell? ⟨L, o, none⟩ = some x := by go_simp
  have hz' : w.drew.frozen? ⟨L, o, none⟩ = false := by go_simp
  have hst := run_call_store (P := Try.prog) Try.func136 (by kernel_rfl) (by kernel_rfl) (by kernel_rfl) (by kernel_rfl) (k := .u32) (y := 1) hc' hz'
  go_enter_d Try.func133, Try.ntmps133
  go_wp2
  go_region_calls
  all_goals (go_end0; exact ⟨rfl, rfl⟩)
theorem bstore (L o : Nat) (x : Value) (w : World) (hc : w.cell? ⟨L, o, none⟩ = some x) (hz : w.frozen? ⟨L, o, none⟩ = false) :
    Calls Try.prog 133 #[.pointer (some ⟨L, o, none⟩), .bool true] w fun e w' => e = .returned (.tuple #[]) ∧ w.drew.setCell ⟨L, o, none⟩ (.int .u32 1) = w' := by
  have hc' : w.drew.cell? ⟨L, o, none⟩ = some x := by go_simp
  have hz' : w.drew.frozen? ⟨L, o, none⟩ = false := by go_simp
  have hst := run_call_store (P := Try.prog) Try.func136 (by kernel_rfl) (by kernel_rfl) (by kernel_rfl) (by kernel_rfl) (k := .u32) (y := 1) hc' hz'
  go_enter Try.func133, Try.ntmps133
  go_wp2
  go_region_calls
  all_goals (go_end0; exact ⟨rfl, rfl⟩)
set_option maxRecDepth 100000 in
theorem unlock_deferred (L o : Nat) (u : FrameMode) (w : World) (hc : w.cell? ⟨L, o, none⟩ = some (.int .i32 1)) (hz : w.frozen? ⟨L, o, none⟩ = false) :
    CallsD Try.prog 139 #[.pointer (some ⟨L, o, none⟩)] u w fun e u' w' => u' = u ∧ (e = .returned (.tuple #[]) ∧ w' = w.setCell ⟨L, o, none⟩ (.int .i32 0)) := by
  have hd := c_disable
  have he := c_enable
  have hr := c_release
  have hadd := run_call_add (P := Try.prog) Try.func148 (by kernel_rfl) (by kernel_rfl) (by kernel_rfl) .i32 (by kernel_rfl) (y := -1) (s := 0) hc hz (by simp [go_sem]; rfl)
  have hcv := run_convert_to_unsafe (P := Try.prog) (src := 186) (dst := 190) Try.underlying186 Try.underlying190 (by kernel_rfl) hc
  go_enter_d Try.func139, Try.ntmps139
  go_wp2
  go_end0
  go_wp2
  all_goals (go_end0; exact ⟨rfl, rfl⟩)
set_option maxRecDepth 100000 in
theorem lock_free (L o : Nat) (w : World) (hc : w.cell? ⟨L, o, none⟩ = some (.int .i32 0)) (hz : w.frozen? ⟨L, o, none⟩ = false) :
    Calls Try.prog 138 #[.pointer (some ⟨L, o, none⟩)] w fun e w' => e = .returned (.tuple #[]) ∧ w.setCell ⟨L, o, none⟩ (.int .i32 1) = w' := by
  have hd := c_disable
  have he := c_enable
  have ha := c_acquire
  have hcas := run_call_cas_hit (P := Try.prog) Try.func143 (by kernel_rfl) (by kernel_rfl) (by kernel_rfl) .i32 (by kernel_rfl) (y := 1) hc hz
  have hc' : (w.setCell ⟨L, o, none⟩ (.int .i32 1)).cell? ⟨L, o, none⟩ = some (.int .i32 1) := World.cell?_setCell_same w _ _ hc
  have hcv := run_convert_to_unsafe (P := Try.prog) (src := 186) (dst := 190) Try.underlying186 Try.underlying190 (by kernel_rfl) hc'
  go_enter Try.func138, Try.ntmps138
  go_wp2
  first | go_end0 | (simp only [Exit.inBlock, Exit.then]; refine bodyPost_ret (results_none rfl _ _ _) rfl ?_) | refine bodyPost_ret (results_none rfl _ _ _) rfl ?_
  go_wp2
  all_goals (go_end0; exact ⟨rfl, rfl⟩)
end Go.Proofs.Ytlhcjnjajkfahaa

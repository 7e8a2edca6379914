/- Small facts, further: whole structs stored and read, the world behind given a name. No program in sight. -/
import Derived.Test.YtlhcjnjajkfahaaA0
namespace Go.Proofs.Ytlhcjnjajkfahaa
open Go.RowKit
/-- What a walk is told of a slice of integers that came in: it is nil, or it leads to a row of 'cap' cells. -/
def IsRow (k : IntKind) (w : World) (a : Option Addr) (len cap : Nat) (zs : List Int) : Prop :=
  (a = none ∧ len = 0 ∧ cap = 0 ∧ zs = []) ∨
  ∃ x, a = some x ∧ len ≤ cap ∧ cap ≤ maxLen ∧ zs.length = cap ∧ (∀ i, i < zs.length → w.cell? (x.add i) = some (.int k (zs.getD i 0))) ∧ ∀ n ∈ zs, (Lit.int k n).wf = true
/-- A struct is stored: what is behind it is a world w2 of which alone is known that it is w with these cells. -/
def Stored (w : World) (b o : Nat) (vs : List Value) (w2 : World) : Prop := w2 = w.setCells b o vs
theorem store_gen {P : Program} {ops : Array Oper} {rest : List Oper} {op : Oper} {a : Act} {w : World} {Q : Exit → Act → World → Prop} (hgd : op.guard = none) (ty : TypeId) (x y : Operand) (ho : op.op = .store ty x y)
    (b o : Nat) (cells : Array Value) (hx : a.eval x = .pointer (some ⟨b, o, none⟩)) (hy : a.eval y = .agg cells)
    (ht : w.there b o cells.size) (hi : (P.info? ty).map (·.size) = some cells.size) (h1 : cells.toList.all (·.oneCell') = true)
    (h : ∀ w2, Stored w b o cells.toList w2 → wpList P ops Q rest (a.put op.dst undef) w2) : wpList P ops Q (op :: rest) a w :=
  store_mid hgd ty x y ho b o cells hx hy ht hi h1 (h _ rfl)
theorem Stored.below {w w2 a : World} {b o B : Nat} {vs : List Value} (h : Stored w b o vs w2) (hb : Below B a w) (hB : B ≤ b) : Below B a w2 := by
  rw [show w2 = _ from h]; exact below_setCells hB vs o w hb
theorem Stored.range {w w2 : World} {b o : Nat} {vs : List Value} (h : Stored w b o vs w2) (ht : w.there b o vs.length) : w2.rangeAt b o vs := by
  rw [show w2 = _ from h]; exact World.rangeAt_setCells_same w b o vs ht
theorem range_at {w : World} {b o : Nat} {vs : List Value} (h : w.rangeAt b o vs) (j : Nat) (v : Value) (hv : vs[j]? = some v) : w.cell? ⟨b, o + j, none⟩ = some v := h j v hv
theorem Stored.cell {w w2 : World} {b o : Nat} {vs : List Value} (h : Stored w b o vs w2) (b' o' : Nat) (hn : b' ≠ b ∨ o' < o ∨ o + vs.length ≤ o') : w2.cell? ⟨b', o', none⟩ = w.cell? ⟨b', o', none⟩ := by
  rw [show w2 = _ from h]
  exact World.cell?_setCells_out b vs o w _ (fun e _ => by rcases hn with hn | hn; · exact absurd e hn
                                                           · exact hn)
theorem Stored.frozen {w w2 : World} {b o : Nat} {vs : List Value} (h : Stored w b o vs w2) (a : Addr) : w2.frozen? a = w.frozen? a := by
  rw [show w2 = _ from h]; exact World.frozen?_setCells ..
theorem Stored.size {w w2 : World} {b o : Nat} {vs : List Value} (h : Stored w b o vs w2) : w2.heap.size = w.heap.size := by
  rw [show w2 = _ from h]; clear h
  induction vs generalizing w o with
  | nil => rfl
  | cons v r ih => rw [World.setCells, ih]; simp [World.setCell]
theorem Stored.slot {w w2 : World} {b o r n : Nat} {vs : List Value} (h : Stored w b o vs w2) (hs : Slot r n w) : Slot r n w2 := by
  rw [show w2 = _ from h]; clear h
  induction vs generalizing w o with
  | nil => exact hs
  | cons v rs ih => rw [World.setCells]; exact ih (slot_set hs _ _)
/-- The results of a function whose first is a struct in memory. -/
theorem range_load {P : Program} {w : World} {b o : Nat} {ty : TypeId} {cs : List Value} {d : TypeDesc} (hc : w.rangeAt b o cs) (hu : P.underlying ty = some d) (hd : d.isRow = true) (hi : (P.info? ty).map (·.size) = some cs.length) :
    (loadVar ty ⟨b, o, none⟩).run P w = .ok (.agg cs.toArray) w := run_loadVar_mid w b o ty cs d hc hu hd hi
theorem results_c {P : Program} {fn : Func} {p : Tmp} {ty : TypeId} (h : fn.results = #[.cell p ty]) (tmps : Array Value) (w : World) (b : Nat) (cs : List Value) (d : TypeDesc)
    (hp : tmps.getD p undef = .pointer (some ⟨b, 0, none⟩)) (R : w.rangeAt b 0 cs) (hu : P.underlying ty = some d) (hd : d.isRow = true) (hi : (P.info? ty).map (·.size) = some cs.length) :
    (results fn tmps).run P w = .ok (.agg cs.toArray) w := by
  have hp' : tmps[p]?.getD undef = .pointer (some ⟨b, 0, none⟩) := by simpa using hp
  simp [results, h, hp', asAddr, run_loadVar_mid w b 0 ty cs d R hu hd hi]
theorem results_c1 {P : Program} {fn : Func} {p q : Tmp} {ty : TypeId} (h : fn.results = #[.cell p ty, .tmp q]) (tmps : Array Value) (w : World) (b : Nat) (cs : List Value) (d : TypeDesc)
    (hp : tmps.getD p undef = .pointer (some ⟨b, 0, none⟩)) (R : w.rangeAt b 0 cs) (hu : P.underlying ty = some d) (hd : d.isRow = true) (hi : (P.info? ty).map (·.size) = some cs.length) :
    (results fn tmps).run P w = .ok (.tuple #[.agg cs.toArray, tmps.getD q undef]) w := by
  have hp' : tmps[p]?.getD undef = .pointer (some ⟨b, 0, none⟩) := by simpa using hp
  simp [results, h, hp', asAddr, run_loadVar_mid w b 0 ty cs d R hu hd hi]
theorem results_c2 {P : Program} {fn : Func} {p q r : Tmp} {ty : TypeId} (h : fn.results = #[.cell p ty, .tmp q, .tmp r]) (tmps : Array Value) (w : World) (b : Nat) (cs : List Value) (d : TypeDesc)
    (hp : tmps.getD p undef = .pointer (some ⟨b, 0, none⟩)) (R : w.rangeAt b 0 cs) (hu : P.underlying ty = some d) (hd : d.isRow = true) (hi : (P.info? ty).map (·.size) = some cs.length) :
    (results fn tmps).run P w = .ok (.tuple #[.agg cs.toArray, tmps.getD q undef, tmps.getD r undef]) w := by
  have hp' : tmps[p]?.getD undef = .pointer (some ⟨b, 0, none⟩) := by simpa using hp
  simp [results, h, hp', asAddr, run_loadVar_mid w b 0 ty cs d R hu hd hi]
end Go.Proofs.Ytlhcjnjajkfahaa

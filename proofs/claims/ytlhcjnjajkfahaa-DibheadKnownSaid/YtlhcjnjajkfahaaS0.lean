/- Objects in memory: a block known whole; what a call may have changed. No program in sight. -/
import Derived.Test.YtlhcjnjajkfahaaA1
namespace Go.Proofs.Ytlhcjnjajkfahaa
open Go.RowKit
set_option linter.unusedVariables false
/-- A block that is known whole, and may be written. -/
def Obj1 (w : World) (b : Nat) (cs : Array Value) (T : TypeId) : Prop := w.heap[b]? = some (.cells cs T (0, 0))
theorem Obj1.cell {w : World} {b : Nat} {cs : Array Value} {T : TypeId} (h : Obj1 w b cs T) (i : Nat) : w.cell? ⟨b, i, none⟩ = cs[i]? := by
  unfold Obj1 at h; simp [World.cell?, h]
theorem Obj1.frozen {w : World} {b : Nat} {cs : Array Value} {T : TypeId} (h : Obj1 w b cs T) (i : Nat) : w.frozen? ⟨b, i, none⟩ = false := by
  unfold Obj1 at h; simp [World.frozen?, h]
theorem Obj1.lt {w : World} {b : Nat} {cs : Array Value} {T : TypeId} (h : Obj1 w b cs T) : b < w.heap.size := (Array.getElem?_eq_some_iff.1 h).1
theorem Obj1.set {w : World} {b : Nat} {cs : Array Value} {T : TypeId} (h : Obj1 w b cs T) (i : Nat) (v : Value) : Obj1 (w.setCell ⟨b, i, none⟩ v) b (cs.setIfInBounds i v) T := by
  unfold Obj1 at h ⊢; simp [World.setCell, Array.getElem?_modify, h]
theorem Obj1.set_other {w : World} {b : Nat} {cs : Array Value} {T : TypeId} (h : Obj1 w b cs T) (a : Addr) (v : Value) (hn : b ≠ a.block) : Obj1 (w.setCell a v) b cs T := by
  unfold Obj1 at h ⊢; rw [Below.heap_setCell _ _ _ _ hn]; exact h
theorem Obj1.alloc {w : World} {b : Nat} {cs : Array Value} {T : TypeId} (h : Obj1 w b cs T) (o : Obj) : Obj1 (w.alloc o) b cs T := by
  have hl := h.lt
  unfold Obj1 at h ⊢; rw [Below.heap_alloc _ _ _ hl]; exact h
theorem Obj1.drew {w : World} {b : Nat} {cs : Array Value} {T : TypeId} (h : Obj1 w b cs T) : Obj1 w.drew b cs T := h
theorem drewN_heap (w : World) (n : Nat) : (w.drewN n).heap = w.heap := by
  induction n generalizing w with
  | zero => rfl
  | succ n ih => exact ih w.drew
theorem Obj1.drewN {w : World} {b : Nat} {cs : Array Value} {T : TypeId} (h : Obj1 w b cs T) (n : Nat) : Obj1 (w.drewN n) b cs T := by
  unfold Obj1 at h ⊢; rw [drewN_heap]; exact h
theorem obj1_new (w : World) (cs : Array Value) (T : TypeId) : Obj1 (w.alloc (.cells cs T)) w.heap.size cs T := heap_alloc_new w _
theorem Obj1.below {w w' : World} {b B : Nat} {cs : Array Value} {T : TypeId} (h : Obj1 w b cs T) (hb : Below B w w') (hlt : b < B) : Obj1 w' b cs T := by
  unfold Obj1 at h ⊢; rw [hb.block b hlt]; exact h
/-- What a call may have changed: the blocks of S, and new ones. -/
structure Chg (S : Nat → Prop) (w w' : World) : Prop where
  os : w'.os = w.os
  tape : w'.tape = w.tape
  output : w'.output = w.output
  size : w.heap.size ≤ w'.heap.size
  block : ∀ k, k < w.heap.size → ¬ S k → w'.heap[k]? = w.heap[k]?
theorem Chg.refl (S : Nat → Prop) (w : World) : Chg S w w := ⟨rfl, rfl, rfl, Nat.le_refl _, fun _ _ _ => rfl⟩
theorem Chg.trans {S : Nat → Prop} {a b c : World} (h : Chg S a b) (k : Chg S b c) : Chg S a c :=
  ⟨k.os.trans h.os, k.tape.trans h.tape, k.output.trans h.output, Nat.le_trans h.size k.size, fun i hi hs => (k.block i (Nat.lt_of_lt_of_le hi h.size) hs).trans (h.block i hi hs)⟩
theorem Chg.mono {S S' : Nat → Prop} {w w' : World} (h : Chg S w w') (hS : ∀ k, k < w.heap.size → S k → S' k) : Chg S' w w' := ⟨h.os, h.tape, h.output, h.size, fun k hk hn => h.block k hk (fun hs => hn (hS k hk hs))⟩
theorem Chg.drew {S : Nat → Prop} {a w : World} (h : Chg S a w) : Chg S a w.drew := ⟨h.os, h.tape, h.output, h.size, h.block⟩
theorem Chg.drewN {S : Nat → Prop} {a w : World} (h : Chg S a w) (n : Nat) : Chg S a (w.drewN n) := by
  induction n with
  | zero => exact h
  | succ n ih => exact ih.drew
theorem Chg.set {S : Nat → Prop} {a w : World} (h : Chg S a w) (p : Addr) (v : Value) (hp : S p.block ∨ a.heap.size ≤ p.block) : Chg S a (w.setCell p v) :=
  ⟨h.os, h.tape, h.output, by simpa [World.setCell] using h.size, fun k hk hn => by
    rw [Below.heap_setCell _ _ _ _ (fun e => by subst e; rcases hp with hp | hp; · exact hn hp
                                                · omega)]
    exact h.block k hk hn⟩
theorem Chg.alloc {S : Nat → Prop} {a w : World} (h : Chg S a w) (o : Obj) : Chg S a (w.alloc o) :=
  ⟨h.os, h.tape, h.output, Nat.le_trans h.size (by simp), fun k hk hn => (Below.heap_alloc _ _ _ (Nat.lt_of_lt_of_le hk h.size)).trans (h.block k hk hn)⟩
theorem chg_of_below {w w' : World} (h : Below w.heap.size w w') (S : Nat → Prop) : Chg S w w' := ⟨h.os, h.tape, h.output, h.size, fun k hk _ => h.block k hk⟩
theorem Chg.below {S : Nat → Prop} {w w' : World} (h : Chg S w w') {B : Nat} (hB : B ≤ w.heap.size) (hS : ∀ k, S k → B ≤ k) : Below B w w' :=
  ⟨h.os, h.tape, h.output, h.size, fun k hk => h.block k (by omega) (fun hs => by have := hS k hs; omega)⟩
theorem Chg.obj {S : Nat → Prop} {w w' : World} (h : Chg S w w') {b : Nat} {cs : Array Value} {T : TypeId} (ho : Obj1 w b cs T) (hn : ¬ S b) : Obj1 w' b cs T := by
  have hl := ho.lt
  unfold Obj1 at ho ⊢; rw [h.block b hl hn]; exact ho
theorem Chg.cell {S : Nat → Prop} {w w' : World} (h : Chg S w w') {b o : Nat} (hb : b < w.heap.size) (hn : ¬ S b) : w'.cell? ⟨b, o, none⟩ = w.cell? ⟨b, o, none⟩ := World.cell?_of_block (w := w) (h.block b hb hn)
/-- One more step, below a block number. -/
theorem bchg {B : Nat} {a b c : World} (h : Below B a b) {S : Nat → Prop} (k : Chg S b c) (hB : B ≤ b.heap.size) (hS : ∀ k, S k → B ≤ k) : Below B a c := h.trans (k.below hB hS)
end Go.Proofs.Ytlhcjnjajkfahaa

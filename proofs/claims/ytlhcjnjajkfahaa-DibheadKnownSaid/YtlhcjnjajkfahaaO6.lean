/- Appends to slices of the call's own, beside other objects. No program in sight. -/
import Derived.Test.YtlhcjnjajkfahaaO5
import Derived.Test.YtlhcjnjajkfahaaD0
import Derived.Deep.AppendLies
import Derived.Deep.RegionLaw
namespace Go.Proofs.Ytlhcjnjajkfahaa
open Go.RowKit
set_option linter.unusedVariables false
/-- Append of one element to a slice of the call's own; all other blocks stay. -/
theorem app1k {P : Program} {ops : Array Oper} {rest : List Oper} {o : Oper} {a : Act} {Q : Exit → Act → World → Prop} (hgd : o.guard = none) (s x : Operand) (t : TypeId)
    (ho : o.op = .call { callee := .builtin .append, args := #[s, x], argTypes := #[t, t] })
    (base : Nat) (e : TypeId) (z : Value) (bytes : Nat) (ht : P.underlying t = some (.slice e)) (hi : (P.info? e).map (fun i => (i.zero, i.size, i.bytes)) = some (some z, 1, bytes)) (hz1 : z.cells.size = 1)
    (v : Value) (n : Nat) (xs : List Value) (hs : a.eval s = v) {wr : World} (hown : wr.ownsRow base e 1 v n xs) (X : Value) (hX : X.oneCell' = true) (T : TypeId)
    (hx : a.eval x = .slice (some ⟨wr.heap.size, 0, none⟩) 1 1) (hn : (n + 1) * bytes ≤ 140737488355328) (hn2 : n + 1 ≤ maxLen) (hbase : base ≤ wr.heap.size)
    (h : ∀ v' w', w'.ownsRow base e 1 v' (n + 1) (xs ++ [X]) → Chg (fun k => v.ownBlock = some k) wr w' → (∀ g, v'.ownBlock = some g → v.ownBlock = some g ∨ wr.heap.size ≤ g) → base ≤ w'.heap.size → wpList P ops Q rest (a.put o.dst v') w') :
    wpList P ops Q (o :: rest) a (wr.alloc (.cells #[X] T)) := by
  obtain ⟨i, i1, i2, i3, i4⟩ := info_parts hi
  have hz : wr.heap.size < (wr.alloc (.cells #[X] T)).heap.size := by simp
  refine wpList_append_lies (w := wr.alloc (.cells #[X] T)) hgd s x t ho base e i z 1 bytes ht i1 i2 i3 i4 hz1 (by decide) v n xs hs (hown.alloc _) ⟨wr.heap.size, 0, none⟩ 1 1 [X] hx rfl ?_ ?_ (by decide) hn2 hn (by omega) _ rfl ?_
  · intro j u hj
    match j, hj with
    | 0, hj => simp at hj; subst hj; simp [Addr.add, go_sem]
  · intro u hu; simp at hu; subst hu; exact hX
  · intro g cap w' hown' hgrow hat hlt
    have hc : Chg (fun k => v.ownBlock = some k) wr w' :=
      ((Chg.refl _ wr).alloc (.cells #[X] T)).trans ⟨hgrow.os, hgrow.tape, hgrow.output, hgrow.size, fun k hk hn => hgrow.block k hk (fun e => hn e.symm)⟩
    refine h _ w' hown' hc ?_ (Nat.le_trans hbase hc.size)
    intro g' hg'
    have : g = g' := by simpa [Value.ownBlock] using hg'
    subst this
    rcases hat with hat | hat
    · exact Or.inl hat
    · exact Or.inr (by rw [hat]; simp)
theorem step_app1k {P : Program} {ops : Array Oper} {o : Oper} {a : Act} {K : Act → World → Prop} {Q : Exit → Act → World → Prop} {E : Prop} (hgd : o.guard = none) (s x : Operand) (t : TypeId)
    (ho : o.op = .call { callee := .builtin .append, args := #[s, x], argTypes := #[t, t] })
    (base : Nat) (e : TypeId) (z : Value) (bytes : Nat) (ht : P.underlying t = some (.slice e)) (hi : (P.info? e).map (fun i => (i.zero, i.size, i.bytes)) = some (some z, 1, bytes)) (hz1 : z.cells.size = 1)
    (v : Value) (n : Nat) (xs : List Value) (hs : a.eval s = v) {wr : World} (hown : wr.ownsRow base e 1 v n xs) (X : Value) (hX : X.oneCell' = true) (T : TypeId)
    (hx : a.eval x = .slice (some ⟨wr.heap.size, 0, none⟩) 1 1) (hn : (n + 1) * bytes ≤ 140737488355328) (hn2 : n + 1 ≤ maxLen) (hbase : base ≤ wr.heap.size)
    (h : ∀ g cap w', w'.ownsRow base e 1 (.slice (some ⟨g, 0, none⟩) (n + 1) cap) (n + 1) (xs ++ [X]) → Chg (fun k => v.ownBlock = some k) wr w' → (v.ownBlock = some g ∨ wr.heap.size ≤ g) → base ≤ w'.heap.size → K (a.put o.dst (.slice (some ⟨g, 0, none⟩) (n + 1) cap)) w') :
    if Region.wanted o (yielded ops a.tmps) = true then Oper.wp P o a (wr.alloc (.cells #[X] T)).drew K Q else E := by
  obtain ⟨i, i1, i2, i3, i4⟩ := info_parts hi
  have hz : wr.heap.size < (wr.alloc (.cells #[X] T)).heap.size := by simp
  refine step_append_lies (w := (wr.alloc (.cells #[X] T)).drew) hgd s x t ho base e i z 1 bytes ht i1 i2 i3 i4 hz1 (by decide) v n xs hs (show (wr.alloc (.cells #[X] T)).drew.ownsRow base e 1 v n xs from hown.alloc _) ⟨wr.heap.size, 0, none⟩ 1 1 [X] hx rfl ?_ ?_ (by decide) hn2 hn (show base ≤ (wr.alloc (.cells #[X] T)).drew.heap.size from Nat.le_trans hbase (Nat.le_of_lt hz)) _ rfl ?_
  · intro j u hj
    match j, hj with
    | 0, hj => simp at hj; subst hj; simp [Addr.add, go_sem]
  · intro u hu; simp at hu; subst hu; exact hX
  · intro g cap w' hown' hgrow hat hlt
    have hc : Chg (fun k => v.ownBlock = some k) wr w' :=
      ((Chg.refl _ wr).alloc (.cells #[X] T)).drew.trans ⟨hgrow.os, hgrow.tape, hgrow.output, hgrow.size, fun k hk hn => hgrow.block k hk (fun e => hn e.symm)⟩
    refine h _ _ w' hown' hc ?_ (Nat.le_trans hbase hc.size)
    rcases hat with hat | hat
    · exact Or.inl hat
    · exact Or.inr (by rw [hat]; show wr.heap.size ≤ (wr.alloc (.cells #[X] T)).heap.size; exact Nat.le_of_lt hz)
theorem owns_blk {w : World} {base e size n : Nat} {v : Value} {xs : List Value} (h : w.ownsRow base e size v n xs) {g : Nat} (hg : v.ownBlock = some g) : base ≤ g ∧ g < w.heap.size := by
  obtain ⟨h1, h2⟩ := h
  rcases h2 with ⟨rfl, _⟩ | ⟨g', cap, cur, rfl, hb, hg', _⟩
  · simp [Value.ownBlock] at hg
  · have : g' = g := by simpa [Value.ownBlock] using hg
    subst this
    exact ⟨hb, (Array.getElem?_eq_some_iff.1 hg').1⟩
theorem owns_set2 {w : World} {base e size n : Nat} {v : Value} {xs : List Value} (h : w.ownsRow base e size v n xs) {OB o : Nat} (u : Value) (hOB : OB < base) : (w.setCell ⟨OB, o, none⟩ u).ownsRow base e size v n xs := by
  obtain ⟨h1, h2⟩ := h
  refine ⟨h1, ?_⟩
  rcases h2 with h2 | ⟨g, cap, cur, rfl, hb, hg, rest⟩
  · exact Or.inl h2
  · exact Or.inr ⟨g, cap, cur, rfl, hb, Obj1.set_other (T := e) (cs := cur) hg ⟨OB, o, none⟩ u (by simp; omega), rest⟩
theorem Chg.after {S S' : Nat → Prop} {a b c : World} (h : Chg S a b) (k : Chg S' b c) (hS : ∀ n, n < a.heap.size → S' n → S n) : Chg S a c :=
  ⟨k.os.trans h.os, k.tape.trans h.tape, k.output.trans h.output, Nat.le_trans h.size k.size, fun n hn hs => (k.block n (Nat.lt_of_lt_of_le hn h.size) (fun h' => hs (hS n hn h'))).trans (h.block n hn hs)⟩
theorem owns_drew2 {w : World} {base e size n : Nat} {v : Value} {xs : List Value} (h : w.ownsRow base e size v n xs) : w.drew.ownsRow base e size v n xs := h
theorem not_own2 {v v' : Value} {n g2 : Nat} (h : ∀ g, v'.ownBlock = some g → v.ownBlock = some g ∨ n ≤ g) (hn : v.ownBlock ≠ some g2) (hg : g2 < n) : v'.ownBlock ≠ some g2 := by
  intro e
  rcases h g2 e with h | h
  · exact hn h
  · omega
/-- A struct is loaded off cells that came in. -/
theorem load_r {P : Program} {ops : Array Oper} {rest : List Oper} {op : Oper} {a : Act} {w : World} {Q : Exit → Act → World → Prop} (hgd : op.guard = none) (ty : TypeId) (x : Operand) (ho : op.op = .load ty x)
    (b o : Nat) (YS : List Value) (hx : a.eval x = .pointer (some ⟨b, o, none⟩)) (hR : w.rangeAt b o YS) {d : TypeDesc} (hu : P.underlying ty = some d) (hd : d.isRow = true) (hi : (P.info? ty).map (·.size) = some YS.length)
    (h : Unit → wpList P ops Q rest (a.put op.dst (.agg YS.toArray)) w) : wpList P ops Q (op :: rest) a w := wpList_load_mid hgd ty x ho b o hx YS d hR hu hd hi (h ())
theorem range_below {w w' : World} {B b o : Nat} {L : List Value} (h : w.rangeAt b o L) (hb : Below B w w') (hlt : b < B) : w'.rangeAt b o L := fun j v hv => (World.cell?_of_block (w := w) (hb.block b hlt)).trans (h j v hv)
end Go.Proofs.Ytlhcjnjajkfahaa

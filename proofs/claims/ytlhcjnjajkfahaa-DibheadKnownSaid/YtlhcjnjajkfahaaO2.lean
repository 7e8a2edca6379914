/- Whole structs loaded and stored, the value an opaque list of cells. No program in sight. -/
import Derived.Test.YtlhcjnjajkfahaaS0
namespace Go.Proofs.Ytlhcjnjajkfahaa
open Go.RowKit
set_option linter.unusedVariables false
theorem Obj1.there {w : World} {b : Nat} {cs : Array Value} {T : TypeId} (h : Obj1 w b cs T) (o n : Nat) (hn : o + n ≤ cs.size) : w.there b o n := fun j hj => by
  refine ⟨?_, h.frozen _⟩
  rw [h.cell, Array.getElem?_eq_getElem (by omega)]; rfl
theorem Obj1.range0 {w : World} {b : Nat} {cs : List Value} {T : TypeId} (h : Obj1 w b cs.toArray T) : w.rangeAt b 0 cs := fun j v hv => by
  rw [h.cell, Nat.zero_add]; simpa using hv
def setL : Array Value → Nat → List Value → Array Value
  | cs, _, [] => cs
  | cs, o, v :: r => setL (cs.setIfInBounds o v) (o + 1) r
theorem Stored.obj {w w2 : World} {b o : Nat} {vs : List Value} {cs : Array Value} {T : TypeId} (hst : Stored w b o vs w2) (h : Obj1 w b cs T) : Obj1 w2 b (setL cs o vs) T := by
  rw [show w2 = _ from hst]; clear hst
  induction vs generalizing w o cs with
  | nil => exact h
  | cons v r ih => rw [World.setCells, setL]; exact ih (h.set o v)
theorem Stored.oth {w w2 : World} {b o b' : Nat} {vs : List Value} {cs : Array Value} {T : TypeId} (hst : Stored w b o vs w2) (h : Obj1 w b' cs T) (hn : b' ≠ b) : Obj1 w2 b' cs T := by
  rw [show w2 = _ from hst]; clear hst
  induction vs generalizing w o with
  | nil => exact h
  | cons v r ih => rw [World.setCells]; exact ih (h.set_other _ _ hn)
theorem setL_get' (vs : List Value) : ∀ (cs : Array Value) (o i : Nat), o + vs.length ≤ cs.size → (setL cs o vs)[i]? = if o ≤ i ∧ i < o + vs.length then vs[i - o]? else cs[i]? := by
  induction vs with
  | nil => intro cs o i h; rw [setL, if_neg (by simp)]
  | cons v r ih =>
    intro cs o i h
    rw [setL, ih _ _ _ (by simp at h ⊢; omega)]
    simp only [List.length_cons] at h ⊢
    by_cases h1 : o + 1 ≤ i ∧ i < o + 1 + r.length
    · rw [if_pos h1, if_pos (by omega), show i - o = (i - (o + 1)) + 1 by omega, List.getElem?_cons_succ]
    · rw [if_neg h1]
      by_cases h2 : i = o
      · subst h2; rw [if_pos (by omega), Nat.sub_self]; simp [Array.getElem?_setIfInBounds]; omega
      · rw [if_neg (by omega), Array.getElem?_setIfInBounds, if_neg (by omega)]
theorem setL_full' (cs : Array Value) (vs : List Value) (h : vs.length = cs.size) : setL cs 0 vs = vs.toArray := by
  apply Array.ext_getElem?
  intro i
  rw [setL_get' vs cs 0 i (by omega)]
  by_cases hi : i < vs.length
  · rw [if_pos (by omega)]; simp
  · rw [if_neg (by omega), Array.getElem?_eq_none (by omega)]; simp; omega
theorem Stored.whole {w w2 : World} {b : Nat} {vs : List Value} {cs : Array Value} {T : TypeId} (hst : Stored w b 0 vs w2) (h : Obj1 w b cs T) (hl : vs.length = cs.size) : Obj1 w2 b vs.toArray T := by
  have := hst.obj h; rwa [setL_full' _ _ hl] at this
/-- A whole struct is stored over another. -/
theorem store_o {P : Program} {ops : Array Oper} {rest : List Oper} {op : Oper} {a : Act} {w : World} {Q : Exit → Act → World → Prop} (hgd : op.guard = none) (ty : TypeId) (n : Nat) (x y : Operand) (ho : op.op = .store ty x y)
    (b : Nat) (YS : List Value) (hl : YS.length = n) (h1 : YS.all (·.oneCell') = true) (hx : a.eval x = .pointer (some ⟨b, 0, none⟩)) (hy : a.eval y = .agg YS.toArray) (hi : (P.info? ty).map (·.size) = some n) {cs : Array Value} {T : TypeId} (hO : Obj1 w b cs T) (hs : cs.size = n)
    (h : ∀ w2, Stored w b 0 YS w2 → Obj1 w2 b YS.toArray T → wpList P ops Q rest (a.put op.dst undef) w2) : wpList P ops Q (op :: rest) a w :=
  store_gen hgd ty x y ho b 0 YS.toArray hx hy (by have := hO.there 0 n (by omega); simpa [hl] using this) (by rw [List.size_toArray, hl]; exact hi) (by simpa using h1)
    fun w2 hst => h w2 (by simpa using hst) ((show Stored w b 0 YS w2 by simpa using hst).whole hO (by omega))
theorem load_o {P : Program} {ops : Array Oper} {rest : List Oper} {op : Oper} {a : Act} {w : World} {Q : Exit → Act → World → Prop} (hgd : op.guard = none) (ty : TypeId) (n : Nat) (x : Operand) (ho : op.op = .load ty x)
    (b : Nat) (YS : List Value) (hl : YS.length = n) (hx : a.eval x = .pointer (some ⟨b, 0, none⟩)) {T : TypeId} (hO : Obj1 w b YS.toArray T) {d : TypeDesc} (hu : P.underlying ty = some d) (hd : d.isRow = true) (hi : (P.info? ty).map (·.size) = some n)
    (h : wpList P ops Q rest (a.put op.dst (.agg YS.toArray)) w) : wpList P ops Q (op :: rest) a w :=
  wpList_load_mid hgd ty x ho b 0 hx YS _ hO.range0 hu hd (by rw [hl]; exact hi) h
end Go.Proofs.Ytlhcjnjajkfahaa

/- Parts of objects in memory, loaded and stored. No program in sight. -/
import Derived.Test.YtlhcjnjajkfahaaO3
import Derived.Test.YtlhcjnjajkfahaaT8
namespace Go.Proofs.Ytlhcjnjajkfahaa
open Go.RowKit
set_option linter.unusedVariables false
theorem Obj1.range {w : World} {b : Nat} {cs : Array Value} {T : TypeId} (h : Obj1 w b cs T) (o : Nat) (L : List Value) (hL : (cs.toList.drop o).take L.length = L) : w.rangeAt b o L := fun j v hv => by
  rw [h.cell]
  rw [← hL, List.getElem?_take] at hv
  split at hv
  · rw [List.getElem?_drop] at hv; simpa using hv
  · cases hv
/-- A struct that is a part of an object is loaded. -/
theorem load_ag {P : Program} {ops : Array Oper} {rest : List Oper} {op : Oper} {a : Act} {w : World} {Q : Exit → Act → World → Prop} (hw : Region.wanted op (yielded ops a.tmps) = true) (ty : TypeId) (x : Operand) (ho : op.op = .load ty x)
    (b o : Nat) (YS : List Value) (hx : a.eval x = .pointer (some ⟨b, o, none⟩)) {cs : Array Value} {T : TypeId} (hO : Obj1 w b cs T) (hL : (cs.toList.drop o).take YS.length = YS) {d : TypeDesc} (hu : P.underlying ty = some d) (hd : d.isRow = true) (hi : (P.info? ty).map (·.size) = some YS.length)
    (h : Unit → wpList P ops Q rest (a.put op.dst (.agg YS.toArray)) w) : wpList P ops Q (op :: rest) a w := by
  rw [wpList, if_pos hw]
  exact Or.inl (wp_load_mid ty x ho b o hx YS d (hO.range o YS hL) hu hd hi (h ()))
/-- An operation whose guard says no is passed over. -/
theorem skip_g {P : Program} {ops : Array Oper} {rest : List Oper} {op : Oper} {a : Act} {w : World} {Q : Exit → Act → World → Prop} {g : Nat × Bool} (hg : op.guard = some g) (hw : Region.wanted op (yielded ops a.tmps) = false) (h : Unit → wpList P ops Q rest (a.put op.dst undef) w) : wpList P ops Q (op :: rest) a w := by
  rw [wpList, if_neg (by simp [hw])]; exact h ()
/-- A struct is stored into a part of an object. -/
theorem store_a {P : Program} {ops : Array Oper} {rest : List Oper} {op : Oper} {a : Act} {w : World} {Q : Exit → Act → World → Prop} (hgd : op.guard = none) (ty : TypeId) (x y : Operand) (ho : op.op = .store ty x y)
    (b o : Nat) (YS : List Value) (h1 : YS.all (·.oneCell') = true) (hx : a.eval x = .pointer (some ⟨b, o, none⟩)) (hy : a.eval y = .agg YS.toArray) (hi : (P.info? ty).map (·.size) = some YS.length) {cs : Array Value} {T : TypeId} (hO : Obj1 w b cs T) (hs : o + YS.length ≤ cs.size)
    (h : ∀ w2, Stored w b o YS w2 → Obj1 w2 b (setL cs o YS) T → wpList P ops Q rest (a.put op.dst undef) w2) : wpList P ops Q (op :: rest) a w :=
  store_gen hgd ty x y ho b o YS.toArray hx hy (by have := hO.there o YS.length hs; simpa using this) (by rw [List.size_toArray]; exact hi) (by simpa using h1)
    fun w2 hst => h w2 (by simpa using hst) ((show Stored w b o YS w2 by simpa using hst).obj hO)
theorem load_u {P : Program} {ops : Array Oper} {rest : List Oper} {op : Oper} {a : Act} {w : World} {Q : Exit → Act → World → Prop} (hw : Region.wanted op (yielded ops a.tmps) = true) (ty : TypeId) (n : Nat) (x : Operand) (ho : op.op = .load ty x)
    (b : Nat) (YS : List Value) (hl : YS.length = n) (hx : a.eval x = .pointer (some ⟨b, 0, none⟩)) {T : TypeId} (hO : Obj1 w b YS.toArray T) {d : TypeDesc} (hu : P.underlying ty = some d) (hd : d.isRow = true) (hi : (P.info? ty).map (·.size) = some n)
    (h : Unit → wpList P ops Q rest (a.put op.dst (.agg YS.toArray)) w) : wpList P ops Q (op :: rest) a w := load_og hw ty n x ho b YS hl hx hO hu hd hi (h ())
theorem Obj1.cells {w : World} {b : Nat} {cs cs' : Array Value} {T : TypeId} (h : Obj1 w b cs T) (e : cs = cs') : Obj1 w b cs' T := e ▸ h
theorem Pair.alloc {w : World} {X : Nat} {x : Sr} {l : Led} (h : Pair w X x l) (o : Obj) : Pair (w.alloc o) X x l :=
  h.upon ((Below.refl w.heap.size w).alloc (Nat.le_refl _) o) h.src.lt h.led.lt
theorem Pair.drew1 {w : World} {X : Nat} {x : Sr} {l : Led} (h : Pair w X x l) : Pair w.drew X x l := ⟨⟨h.src.obj.drew, h.src.ok, h.src.ne⟩, ⟨h.led.obj.drew, h.led.ok⟩⟩
theorem Chg.setc {S : Nat → Prop} {a w : World} (h : Chg S a w) (b o : Nat) (v : Value) (hb : a.heap.size ≤ b) : Chg S a (w.setCell ⟨b, o, none⟩ v) := h.set _ v (Or.inr hb)
theorem Pair.setc {w : World} {X b o : Nat} {x : Sr} {l : Led} (h : Pair w X x l) (v : Value) (h1 : X ≠ b) (h2 : x.L ≠ b) : Pair (w.setCell ⟨b, o, none⟩ v) X x l :=
  h.into (b := b) (o := o) (vs := [v]) rfl h1 h2
end Go.Proofs.Ytlhcjnjajkfahaa

/- The frame of a walk is forgotten, but for the slots that 'return' needs: the last step is quick then. No program in sight. -/
import Derived.Test.YtlhcjnjajkfahaaA1
namespace Go
/-- The frame is forgotten but for one slot: what 'return' needs. -/
theorem gen_frame {P : Program} {ops : Array Oper} {Q : Exit → Act → World → Prop} {a : Act} {w : World} (p : Nat) (v : Value) (hv : a.tmps.getD p undef = v) (hd : a.defers = [])
    (h : ∀ A : Act, A.tmps.getD p undef = v → A.defers = [] → wpList P ops Q [] A w) : wpList P ops Q [] a w := h a hv hd
/-- .. but for two. -/
theorem gen_frame2 {P : Program} {ops : Array Oper} {Q : Exit → Act → World → Prop} {a : Act} {w : World} (p q : Nat) (v u : Value) (hv : a.tmps.getD p undef = v) (hu : a.tmps.getD q undef = u) (hd : a.defers = [])
    (h : ∀ A : Act, A.tmps.getD p undef = v → A.tmps.getD q undef = u → A.defers = [] → wpList P ops Q [] A w) : wpList P ops Q [] a w := h a hv hu hd
end Go

/- A struct that came in by value, of any number of one-cell fields. No program in sight. -/
import Derived.Test.YtcjjfnghgajefaaGreatK0
import Derived.Deep.Slices
import Derived.Deep.Fields
import Derived.ChangeSame
import Derived.Lib.SmallJoins
namespace Go.Proofs.YtcjjfnghgajefaaGreat
open Go.Joins Go.ChangeShapes Go.WideShapes Go.RowKit Go.Deep
section
variable {H : Type} {enc : TypeId × Value → H} {P : Program} {w : World} {base : Nat} {spare : Nat → Bool} {held : Bool}
theorem open_fields {r : Reach} {b0 : Nat} {t : TypeId} {fs : Array Field} {v : Value} {d : DataW H} {p : List MemPlace} (hs : P.underlying t = some (.struct fs)) (hone : oneCellFields P fs = true) (hC : P.cellsOf t = fs.size)
    (hv : Value.okWide P w r b0 t v) (h : DataW.Trod enc P w base spare held t v d p) :
    ∃ cs : Array Value, v = .agg cs ∧ cs.size = fs.size ∧ ∀ (j : Nat) (f : Field), fs[j]? = some f → ∃ (x : Value) (n : Nat) (y : DataW H × List MemPlace), cs[j]? = some x ∧ DataW.trod enc P w base spare held n f.type [x] = some y := by
  obtain ⟨cs, rfl, hsz⟩ := okWide_struct hs hv
  obtain ⟨fuel, hf⟩ := h
  obtain ⟨xs, n, -, -, -, hlen, hg⟩ := DataW.trod_struct hs hf
  have hcs : cs.size = fs.size := hsz.trans hC
  refine ⟨cs, rfl, hcs, fun j f hj => ?_⟩
  obtain ⟨ho, hk⟩ := hone_of hone j f hj
  have hjl : j < fs.size := (Array.getElem?_eq_some_iff.1 hj).1
  have h1 := hg j f hj
  have hjc : j < cs.toList.length := by simp; omega
  rw [ho, hk] at h1
  simp only [Value.cells] at h1
  rw [List.drop_eq_getElem_cons hjc] at h1
  rw [List.getElem?_eq_getElem (by omega : j < xs.length)] at h1
  exact ⟨_, n, _, by rw [Array.getElem?_eq_getElem (by omega)], by simpa using h1⟩
end
end Go.Proofs.YtcjjfnghgajefaaGreat
namespace Go.Proofs.YtcjjfnghgajefaaGreat
open Go.RowKit
theorem arr4 {cs : Array Value} {n : Nat} (h : cs.size = n) (hn : n = 4) : ∃ c0 c1 c2 c3, cs = #[c0, c1, c2, c3] := by
  subst hn
  obtain ⟨l⟩ := cs
  match l, h with
  | [c0, c1, c2, c3], _ => exact ⟨_, _, _, _, rfl⟩
end Go.Proofs.YtcjjfnghgajefaaGreat

/- Slices of structs whose fields are all integers of 64 bits: what a walk is told of one that came in. No program in sight. -/
import Derived.Test.YtomikbecbbjhoaaA1
import Derived.Deep.Slices
import Derived.Deep.Fields
import Derived.ChangeSame
namespace Go.Proofs.Ytomikbecbbjhoaa
open Go.ChangeShapes Go.WideShapes Go.RowKit Go.Deep
/-- The integer that stands at an address; 0: none. -/
def intAt (w : World) (a : Addr) : Int := match w.cell? a with | some (.int _ n) => n | _ => 0
theorem intAt_of {w : World} {a : Addr} {k : IntKind} {n : Int} (h : w.cell? a = some (.int k n)) : intAt w a = n := by unfold intAt; rw [h]
/-- Rows of k integers each: n of them, from an address on. -/
def Rows64 (w : World) (a : Option Addr) (n k : Nat) : Prop := n = 0 ∨ ∃ B o, a = some ⟨B, o, none⟩ ∧ B < w.heap.size ∧ ∀ i, i < n → ∀ j, j < k →
  w.cell? ⟨B, o + i * k + j, none⟩ = some (.int .i64 (intAt w ⟨B, o + i * k + j, none⟩)) ∧ (Lit.int .i64 (intAt w ⟨B, o + i * k + j, none⟩)).wf = true
section
variable {H : Type} {enc : TypeId × Value → H} {P : Program} {w : World} {base : Nat} {spare : Nat → Bool} {held : Bool}
theorem open_rows64 {t e : TypeId} {fs : Array Field} {a : Option Addr} {n cap fuel : Nat} {x : DataW H × List MemPlace} (ht : P.underlying t = some (.slice e)) (he : P.underlying e = some (.struct fs))
    (hone : oneCellFields P fs = true) (hC : P.cellsOf e = fs.size) (hk : 0 < fs.size) (hall : ∀ (j : Nat) (f : Field), fs[j]? = some f → P.underlying f.type = some (.int .i64))
    (h : DataW.trod enc P w base spare held fuel t [.slice a n cap] = some x) : Rows64 w a n fs.size ∧ n ≤ maxLen := by
  rcases open_slice ht h with ⟨h0, _⟩ | ⟨A, len, c, m, q, D, Pl, hcs, -, hl, hm, hmm, -, hi⟩
  · simp only [List.cons.injEq, Value.slice.injEq, and_true] at h0
    exact ⟨Or.inl h0.2.1, by rw [h0.2.1]; exact Nat.zero_le _⟩
  · simp only [List.cons.injEq, Value.slice.injEq, and_true] at hcs
    obtain ⟨rfl, rfl, rfl⟩ := hcs
    refine ⟨?_, Nat.le_trans hl hm⟩
    by_cases hn : n = 0
    · exact Or.inl hn
    have hnm : n ≤ m := by rw [hmm]; split <;> omega
    have key : ∀ i, i < n → ∀ j, j < fs.size → ∃ z, w.cell? (A.add (i * fs.size + j)) = some (.int .i64 z) ∧ (Lit.int .i64 z).wf = true := by
      intro i hin j hj
      obtain ⟨cs, hc, htr⟩ := hi i (by omega)
      obtain ⟨ys, n', -, -, hlen, hyn, hf⟩ := DataW.trod_struct he htr
      obtain ⟨-, -, hat⟩ := World.cells?_some hc
      obtain ⟨f, hfj⟩ : ∃ f, fs[j]? = some f := ⟨_, Array.getElem?_eq_getElem hj⟩
      obtain ⟨ho, hcf⟩ := hone_of hone j f hfj
      have h1 := hf j f hfj
      have hjl : j < cs.length := by omega
      rw [ho, hcf, List.drop_eq_getElem_cons hjl] at h1
      have hyl : j < ys.length := by omega
      rw [List.getElem?_eq_getElem hyl] at h1
      obtain ⟨z, hz, -, hwf⟩ := DataW.trod_int (hall j f hfj) h1
      simp only [List.take_succ_cons, List.take_zero, List.cons.injEq, and_true] at hz
      refine ⟨z, ?_, hwf⟩
      have hcell := hat j (by omega)
      rw [hC, add_add, List.getElem?_eq_getElem hjl, hz] at hcell
      exact hcell
    obtain ⟨z0, hx, -⟩ := key 0 (by omega) 0 hk
    obtain ⟨B, o, sp⟩ := A
    have hx' : w.cell? ⟨B, o, sp⟩ = some (.int .i64 z0) := by simpa [Addr.add] using hx
    have hB : B < w.heap.size := World.block_lt_of_cell? w _ hx'
    obtain rfl : sp = none := by
      cases sp with
      | none => rfl
      | some q =>
        have h9 := hx'
        unfold World.cell? at h9
        split at h9 <;> simp at h9
    refine Or.inr ⟨B, o, rfl, hB, fun i hin j hj => ?_⟩
    obtain ⟨z, hz, hwf⟩ := key i hin j hj
    rw [Addr.add_mid, ← Nat.add_assoc] at hz
    rw [intAt_of hz]
    exact ⟨hz, hwf⟩
end
end Go.Proofs.Ytomikbecbbjhoaa

/- Slices of structs whose fields are all integers of 64 bits: what a walk is told of one that came in. No program in sight. -/
import Derived.Test.YtlhcjnjajkfahaaK1
import Derived.Deep.Slices
import Derived.Deep.Fields
import Derived.ChangeSame
import Derived.Lib.SmallJoins
import Derived.Test.YtlhcjnjajkfahaaProg
namespace Go.Proofs.Ytlhcjnjajkfahaa
open Go.ChangeShapes Go.WideShapes Go.RowKit Go.Deep
/-- The integer that stands at an address; 0: none. -/
def intAt (w : World) (a : Addr) : Int := match w.cell? a with | some (.int _ n) => n | _ => 0
theorem intAt_of {w : World} {a : Addr} {k : IntKind} {n : Int} (h : w.cell? a = some (.int k n)) : intAt w a = n := by unfold intAt; rw [h]
/-- Rows of k integers each: n of them, from an address on. -/
def Rows64 (w : World) (a : Option Addr) (n k : Nat) : Prop := n = 0 ∨ ∃ B o, a = some ⟨B, o, none⟩ ∧ B < w.heap.size ∧ ∀ i, i < n → ∀ j, j < k →
  w.cell? ⟨B, o + i * k + j, none⟩ = some (.int .i64 (intAt w ⟨B, o + i * k + j, none⟩)) ∧ (Lit.int .i64 (intAt w ⟨B, o + i * k + j, none⟩)).wf = true
section
variable {H : Type} {enc : TypeId × Value → H} {P : Program} {w : World} {base : Nat} {spare : Nat → Bool} {held : Bool}
theorem open_rows64 {t e : TypeId} {fs : Array Field} {a : Option Addr} {n cap fuel : Nat} {x : DataW H × List MemPlace} (ht : P.underlying t = some (.slice e)) (he : P.underlying e = some (.struct fs))
    (hone : oneCellFields P fs = true) (hC : P.cellsOf e = fs.size) (hk : 0 < fs.size) (hall : ∀ (j : Nat) (f : Field), fs[j]? = some f → P.underlying f.type = some (.int .i64))
    (h : DataW.trod enc P w base spare held fuel t [.slice a n cap] = some x) : Rows64 w a n fs.size ∧ n ≤ maxLen := by
  rcases open_slice ht h with ⟨h0, _⟩ | ⟨A, len, c, m, q, D, Pl, hcs, -, hl, hm, hmm, -, hi⟩
  · simp only [List.cons.injEq, Value.slice.injEq, and_true] at h0
    exact ⟨Or.inl h0.2.1, by rw [h0.2.1]; exact Nat.zero_le _⟩
  · simp only [List.cons.injEq, Value.slice.injEq, and_true] at hcs
    obtain ⟨rfl, rfl, rfl⟩ := hcs
    refine ⟨?_, Nat.le_trans hl hm⟩
    by_cases hn : n = 0
    · exact Or.inl hn
    have hnm : n ≤ m := by rw [hmm]; split <;> omega
    have key : ∀ i, i < n → ∀ j, j < fs.size → ∃ z, w.cell? (A.add (i * fs.size + j)) = some (.int .i64 z) ∧ (Lit.int .i64 z).wf = true := by
      intro i hin j hj
      obtain ⟨cs, hc, htr⟩ := hi i (by omega)
      obtain ⟨ys, n', -, -, hlen, hyn, hf⟩ := DataW.trod_struct he htr
      obtain ⟨-, -, hat⟩ := World.cells?_some hc
      obtain ⟨f, hfj⟩ : ∃ f, fs[j]? = some f := ⟨_, Array.getElem?_eq_getElem hj⟩
      obtain ⟨ho, hcf⟩ := hone_of hone j f hfj
      have h1 := hf j f hfj
      have hjl : j < cs.length := by omega
      rw [ho, hcf, List.drop_eq_getElem_cons hjl] at h1
      have hyl : j < ys.length := by omega
      rw [List.getElem?_eq_getElem hyl] at h1
      obtain ⟨z, hz, -, hwf⟩ := DataW.trod_int (hall j f hfj) h1
      simp only [List.take_succ_cons, List.take_zero, List.cons.injEq, and_true] at hz
      refine ⟨z, ?_, hwf⟩
      have hcell := hat j (by omega)
      rw [hC, add_add, List.getElem?_eq_getElem hjl, hz] at hcell
      exact hcell
    obtain ⟨z0, hx, -⟩ := key 0 (by omega) 0 hk
    obtain ⟨B, o, sp⟩ := A
    have hx' : w.cell? ⟨B, o, sp⟩ = some (.int .i64 z0) := by simpa [Addr.add] using hx
    have hB : B < w.heap.size := World.block_lt_of_cell? w _ hx'
    obtain rfl : sp = none := by
      cases sp with
      | none => rfl
      | some q =>
        have h9 := hx'
        unfold World.cell? at h9
        split at h9 <;> simp at h9
    refine Or.inr ⟨B, o, rfl, hB, fun i hin j hj => ?_⟩
    obtain ⟨z, hz, hwf⟩ := key i hin j hj
    rw [Addr.add_mid, ← Nat.add_assoc] at hz
    rw [intAt_of hz]
    exact ⟨hz, hwf⟩
end
end Go.Proofs.Ytlhcjnjajkfahaa

/- A struct that came in by value, of any number of one-cell fields. No program in sight. -/
namespace Go.Proofs.Ytlhcjnjajkfahaa
open Go.Joins Go.ChangeShapes Go.WideShapes Go.RowKit Go.Deep
section
variable {H : Type} {enc : TypeId × Value → H} {P : Program} {w : World} {base : Nat} {spare : Nat → Bool} {held : Bool}
theorem open_fields {r : Reach} {b0 : Nat} {t : TypeId} {fs : Array Field} {v : Value} {d : DataW H} {p : List MemPlace} (hs : P.underlying t = some (.struct fs)) (hone : oneCellFields P fs = true) (hC : P.cellsOf t = fs.size)
    (hv : Value.okWide P w r b0 t v) (h : DataW.Trod enc P w base spare held t v d p) :
    ∃ cs : Array Value, v = .agg cs ∧ cs.size = fs.size ∧ ∀ (j : Nat) (f : Field), fs[j]? = some f → ∃ (x : Value) (n : Nat) (y : DataW H × List MemPlace), cs[j]? = some x ∧ DataW.trod enc P w base spare held n f.type [x] = some y := by
  obtain ⟨cs, rfl, hsz⟩ := okWide_struct hs hv
  obtain ⟨fuel, hf⟩ := h
  obtain ⟨xs, n, -, -, -, hlen, hg⟩ := DataW.trod_struct hs hf
  have hcs : cs.size = fs.size := hsz.trans hC
  refine ⟨cs, rfl, hcs, fun j f hj => ?_⟩
  obtain ⟨ho, hk⟩ := hone_of hone j f hj
  have hjl : j < fs.size := (Array.getElem?_eq_some_iff.1 hj).1
  have h1 := hg j f hj
  have hjc : j < cs.toList.length := by simp; omega
  rw [ho, hk] at h1
  simp only [Value.cells] at h1
  rw [List.drop_eq_getElem_cons hjc] at h1
  rw [List.getElem?_eq_getElem (by omega : j < xs.length)] at h1
  exact ⟨_, n, _, by rw [Array.getElem?_eq_getElem (by omega)], by simpa using h1⟩
theorem arr12 {cs : Array Value} {n : Nat} (h : cs.size = n) (hn : n = 12) : ∃ c0 c1 c2 c3 c4 c5 c6 c7 c8 c9 c10 c11, cs = #[c0, c1, c2, c3, c4, c5, c6, c7, c8, c9, c10, c11] := by
  subst hn
  obtain ⟨l⟩ := cs
  match l, h with
  | [c0, c1, c2, c3, c4, c5, c6, c7, c8, c9, c10, c11], _ => exact ⟨_, _, _, _, _, _, _, _, _, _, _, _, rfl⟩
end
end Go.Proofs.Ytlhcjnjajkfahaa

/- A dibhead.Head that came in by value: sixteen cells. No program's code in sight. -/
namespace Go.Proofs.Ytlhcjnjajkfahaa
open Go.Joins Go.ChangeShapes Go.WideShapes Go.RowKit Go.Deep
section
variable {H : Type} {enc : TypeId × Value → H} {P : Program} {w : World} {base : Nat} {spare : Nat → Bool} {held : Bool}
theorem trod_part {t : TypeId} {fs : Array Field} {fuel : Nat} {cs : List Value} {x : DataW H × List MemPlace} (hs : P.underlying t = some (.struct fs)) (h : DataW.trod enc P w base spare held fuel t cs = some x) (j : Nat) (f : Field) (hj : fs[j]? = some f) :
    ∃ (n : Nat) (y : DataW H × List MemPlace), DataW.trod enc P w base spare held n f.type ((cs.drop f.offset).take (P.cellsOf f.type)) = some y := by
  obtain ⟨xs, n, -, -, -, hlen, hg⟩ := DataW.trod_struct hs h
  have hjl : j < fs.size := (Array.getElem?_eq_some_iff.1 hj).1
  exact ⟨n, _, (hg j f hj).trans (List.getElem?_eq_getElem (by omega))⟩
theorem arr16 {cs : Array Value} {n : Nat} (h : cs.size = n) (hn : n = 16) : ∃ c0 c1 c2 c3 c4 c5 c6 c7 c8 c9 c10 c11 c12 c13 c14 c15, cs = #[c0, c1, c2, c3, c4, c5, c6, c7, c8, c9, c10, c11, c12, c13, c14, c15] := by
  subst hn
  obtain ⟨l⟩ := cs
  match l, h with
  | [c0, c1, c2, c3, c4, c5, c6, c7, c8, c9, c10, c11, c12, c13, c14, c15], _ => exact ⟨_, _, _, _, _, _, _, _, _, _, _, _, _, _, _, _, rfl⟩
set_option maxRecDepth 100000 in
theorem open_head {r : Reach} {b0 : Nat} {v : Value} {d : DataW H} {p : List MemPlace} (hv : Value.okWide Try.prog w r b0 61 v) (h : DataW.Trod enc Try.prog w base spare held 61 v d p) :
    ∃ (a0 a1 a2 : Int) (a3 : Bool) (a4 a5 a6 a7 a8 a9 a10 a11 a12 a13 a14 a15 : Int), v = .agg (List.toArray [.int .i64 a0, .int .i64 a1, .int .i64 a2, .bool a3, .int .i64 a4, .int .i64 a5, .int .i64 a6, .int .i64 a7, .int .i64 a8, .int .i64 a9, .int .i64 a10, .int .i64 a11, .int .i64 a12, .int .i64 a13, .int .i64 a14, .int .i64 a15]) := by
  obtain ⟨cs, rfl, hsz⟩ := okWide_struct Try.underlying61 hv
  obtain ⟨fuel, hf⟩ := h
  obtain ⟨c0, c1, c2, c3, c4, c5, c6, c7, c8, c9, c10, c11, c12, c13, c14, c15, rfl⟩ := arr16 hsz (by kernel_rfl)
  obtain ⟨n0, y0, e0⟩ := trod_part Try.underlying61 hf 0 _ rfl
  have e0 : DataW.trod enc Try.prog w base spare held n0 3 [c0] = some y0 := e0
  obtain ⟨a0, q0, -, -⟩ := DataW.trod_int Try.underlying3 e0
  simp at q0
  subst q0
  obtain ⟨n1, y1, e1⟩ := trod_part Try.underlying61 hf 1 _ rfl
  have e1 : DataW.trod enc Try.prog w base spare held n1 3 [c1] = some y1 := e1
  obtain ⟨a1, q1, -, -⟩ := DataW.trod_int Try.underlying3 e1
  simp at q1
  subst q1
  obtain ⟨n2, y2, e2⟩ := trod_part Try.underlying61 hf 2 _ rfl
  have e2 : DataW.trod enc Try.prog w base spare held n2 3 [c2] = some y2 := e2
  obtain ⟨a2, q2, -, -⟩ := DataW.trod_int Try.underlying3 e2
  simp at q2
  subst q2
  obtain ⟨n3, y3, e3⟩ := trod_part Try.underlying61 hf 3 _ rfl
  have e3 : DataW.trod enc Try.prog w base spare held n3 4 [c3] = some y3 := e3
  obtain ⟨a3, q3, -⟩ := DataW.trod_bool Try.underlying4 e3
  simp at q3
  subst q3
  obtain ⟨n4, y4, e4⟩ := trod_part Try.underlying61 hf 4 _ rfl
  have e4 : DataW.trod enc Try.prog w base spare held n4 3 [c4] = some y4 := e4
  obtain ⟨a4, q4, -, -⟩ := DataW.trod_int Try.underlying3 e4
  simp at q4
  subst q4
  obtain ⟨n5, y5, e5⟩ := trod_part Try.underlying61 hf 5 _ rfl
  have e5 : DataW.trod enc Try.prog w base spare held n5 3 [c5] = some y5 := e5
  obtain ⟨a5, q5, -, -⟩ := DataW.trod_int Try.underlying3 e5
  simp at q5
  subst q5
  obtain ⟨n6, y6, e6⟩ := trod_part Try.underlying61 hf 6 _ rfl
  have e6 : DataW.trod enc Try.prog w base spare held n6 3 [c6] = some y6 := e6
  obtain ⟨a6, q6, -, -⟩ := DataW.trod_int Try.underlying3 e6
  simp at q6
  subst q6
  obtain ⟨nm, ym, em⟩ := trod_part Try.underlying61 hf 7 _ rfl
  have em : DataW.trod enc Try.prog w base spare held nm 59 [c7, c8, c9, c10, c11, c12, c13, c14] = some ym := em
  obtain ⟨nm0, ym0, em0⟩ := trod_part Try.underlying59 em 0 _ rfl
  have em0 : DataW.trod enc Try.prog w base spare held nm0 57 [c7, c8] = some ym0 := em0
  obtain ⟨n7, y7, e7⟩ := trod_part Try.underlying57 em0 0 _ rfl
  have e7 : DataW.trod enc Try.prog w base spare held n7 3 [c7] = some y7 := e7
  obtain ⟨a7, q7, -, -⟩ := DataW.trod_int Try.underlying3 e7
  simp at q7
  subst q7
  obtain ⟨n8, y8, e8⟩ := trod_part Try.underlying57 em0 1 _ rfl
  have e8 : DataW.trod enc Try.prog w base spare held n8 3 [c8] = some y8 := e8
  obtain ⟨a8, q8, -, -⟩ := DataW.trod_int Try.underlying3 e8
  simp at q8
  subst q8
  obtain ⟨nm1, ym1, em1⟩ := trod_part Try.underlying59 em 1 _ rfl
  have em1 : DataW.trod enc Try.prog w base spare held nm1 57 [c9, c10] = some ym1 := em1
  obtain ⟨n9, y9, e9⟩ := trod_part Try.underlying57 em1 0 _ rfl
  have e9 : DataW.trod enc Try.prog w base spare held n9 3 [c9] = some y9 := e9
  obtain ⟨a9, q9, -, -⟩ := DataW.trod_int Try.underlying3 e9
  simp at q9
  subst q9
  obtain ⟨n10, y10, e10⟩ := trod_part Try.underlying57 em1 1 _ rfl
  have e10 : DataW.trod enc Try.prog w base spare held n10 3 [c10] = some y10 := e10
  obtain ⟨a10, q10, -, -⟩ := DataW.trod_int Try.underlying3 e10
  simp at q10
  subst q10
  obtain ⟨nm2, ym2, em2⟩ := trod_part Try.underlying59 em 2 _ rfl
  have em2 : DataW.trod enc Try.prog w base spare held nm2 57 [c11, c12] = some ym2 := em2
  obtain ⟨n11, y11, e11⟩ := trod_part Try.underlying57 em2 0 _ rfl
  have e11 : DataW.trod enc Try.prog w base spare held n11 3 [c11] = some y11 := e11
  obtain ⟨a11, q11, -, -⟩ := DataW.trod_int Try.underlying3 e11
  simp at q11
  subst q11
  obtain ⟨n12, y12, e12⟩ := trod_part Try.underlying57 em2 1 _ rfl
  have e12 : DataW.trod enc Try.prog w base spare held n12 3 [c12] = some y12 := e12
  obtain ⟨a12, q12, -, -⟩ := DataW.trod_int Try.underlying3 e12
  simp at q12
  subst q12
  obtain ⟨nm3, ym3, em3⟩ := trod_part Try.underlying59 em 3 _ rfl
  have em3 : DataW.trod enc Try.prog w base spare held nm3 57 [c13, c14] = some ym3 := em3
  obtain ⟨n13, y13, e13⟩ := trod_part Try.underlying57 em3 0 _ rfl
  have e13 : DataW.trod enc Try.prog w base spare held n13 3 [c13] = some y13 := e13
  obtain ⟨a13, q13, -, -⟩ := DataW.trod_int Try.underlying3 e13
  simp at q13
  subst q13
  obtain ⟨n14, y14, e14⟩ := trod_part Try.underlying57 em3 1 _ rfl
  have e14 : DataW.trod enc Try.prog w base spare held n14 3 [c14] = some y14 := e14
  obtain ⟨a14, q14, -, -⟩ := DataW.trod_int Try.underlying3 e14
  simp at q14
  subst q14
  obtain ⟨n15, y15, e15⟩ := trod_part Try.underlying61 hf 8 _ rfl
  have e15 : DataW.trod enc Try.prog w base spare held n15 3 [c15] = some y15 := e15
  obtain ⟨a15, q15, -, -⟩ := DataW.trod_int Try.underlying3 e15
  simp at q15
  subst q15
  exact ⟨_, _, _, _, _, _, _, _, _, _, _, _, _, _, _, _, rfl⟩
end
end Go.Proofs.Ytlhcjnjajkfahaa

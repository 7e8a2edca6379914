/- Strings of lists of bytes. Plain. -/
import Derived.Test.YtlhcjnjajkfahaaK5
import Derived.Test.YtlhcjnjajkfahaaK9
import Derived.Test.YtlhcjnjajkfahaaK28
import Derived.Laws.StructEq
namespace Go.Proofs.Ytlhcjnjajkfahaa
open Go.RowKit
set_option linter.unusedVariables false
theorem fold_data3 (l : List Int) : ∀ r : ByteArray, (l.foldl (fun r n => r.push (UInt8.ofNat n.toNat)) r).data.toList = r.data.toList ++ l.map (fun n => UInt8.ofNat n.toNat) := by
  induction l with
  | nil => intro r; simp
  | cons a l ih => intro r; rw [List.foldl_cons, ih]; simp [ByteArray.data_push]
theorem byN_strOf3 (l : List Int) (i : Nat) (x : Int) (h : l[i]? = some x) (h0 : 0 ≤ x) (h1 : x < 256) : byN (strOf l) i = x := by
  unfold byN strOf
  rw [fold_data3]
  rw [show (ByteArray.empty.data.toList ++ l.map (fun n => UInt8.ofNat n.toNat)) = l.map (fun n => UInt8.ofNat n.toNat) from rfl, List.getD_eq_getElem?_getD, List.getElem?_map, h]
  show ((UInt8.ofNat x.toNat).toNat : Int) = x
  rw [UInt8.toNat_ofNat']
  omega
theorem strOf_size3 (l : List Int) : (strOf l).size = l.length := by
  have h := congrArg List.length (fold_data3 l ByteArray.empty)
  rw [List.length_append, List.length_map] at h
  have h0 : ByteArray.empty.data.toList.length = 0 := rfl
  rw [h0, Nat.zero_add] at h
  rw [Array.length_toList] at h
  exact h
end Go.Proofs.Ytlhcjnjajkfahaa

/- Comparing two heads: what '!=' says of two structs. -/
namespace Go
/-- '!=' of two structs, when what their comparison says is known. -/
theorem neq_g {P : Program} {ops : Array Oper} {rest : List Oper} {op : Oper} {a : Act} {w : World} {Q : Exit → Act → World → Prop} (hw : Region.wanted op (yielded ops a.tmps) = true) (t rt : TypeId) (x y : Operand) (ho : op.op = .binOp .neq t x y rt)
    (xs ys : Array Value) (hx : a.eval x = .agg xs) (hy : a.eval y = .agg ys) (hm : P.eqGuardType P.depth t = false) (b : Bool) (he : (Op.equalIn 10000 t (.agg xs) (.agg ys)).run P w = .ok b w)
    (h : Unit → wpList P ops Q rest (a.put op.dst (.bool (!b))) w) : wpList P ops Q (op :: rest) a w := by
  rw [wpList, if_pos hw]
  refine Or.inl ?_
  unfold Oper.wp execOp
  simp [ho, hx, hy, run_eqGuard_agg w .neq t x y xs ys hm, run_neq_struct, he]
  exact h ()
end Go
namespace Go.Proofs.Ytlhcjnjajkfahaa
open Go.RowKit
set_option linter.unusedVariables false
set_option linter.unusedSimpArgs false
set_option maxRecDepth 100000 in
theorem heads_eq (a0 a1 a2 : Int) (a3 : Bool) (a4 a5 a6 a7 a8 a9 a10 a11 a12 a13 a14 a15 b0 b1 b2 : Int) (b3 : Bool) (b4 b5 b6 b7 b8 b9 b10 b11 b12 b13 b14 b15 : Int) (w : World) :
    (Op.equalIn 10000 61 (.agg #[.int .i64 a0, .int .i64 a1, .int .i64 a2, .bool a3, .int .i64 a4, .int .i64 a5, .int .i64 a6, .int .i64 a7, .int .i64 a8, .int .i64 a9, .int .i64 a10, .int .i64 a11, .int .i64 a12, .int .i64 a13, .int .i64 a14, .int .i64 a15])
      (.agg #[.int .i64 b0, .int .i64 b1, .int .i64 b2, .bool b3, .int .i64 b4, .int .i64 b5, .int .i64 b6, .int .i64 b7, .int .i64 b8, .int .i64 b9, .int .i64 b10, .int .i64 b11, .int .i64 b12, .int .i64 b13, .int .i64 b14, .int .i64 b15])).run Try.prog w =
    .ok ((a0 == b0) && ((a1 == b1) && ((a2 == b2) && ((a3 == b3) && ((a4 == b4) && ((a5 == b5) && ((a6 == b6) && ((a7 == b7) && ((a8 == b8) && ((a9 == b9) && ((a10 == b10) && ((a11 == b11) && ((a12 == b12) && ((a13 == b13) && ((a14 == b14) && (a15 == b15)))))))))))))))) w := by
  generalize hc0 : (a0 == b0) = c0
  generalize hc1 : (a1 == b1) = c1
  generalize hc2 : (a2 == b2) = c2
  generalize hc3 : (a3 == b3) = c3
  generalize hc4 : (a4 == b4) = c4
  generalize hc5 : (a5 == b5) = c5
  generalize hc6 : (a6 == b6) = c6
  generalize hc7 : (a7 == b7) = c7
  generalize hc8 : (a8 == b8) = c8
  generalize hc9 : (a9 == b9) = c9
  generalize hc10 : (a10 == b10) = c10
  generalize hc11 : (a11 == b11) = c11
  generalize hc12 : (a12 == b12) = c12
  generalize hc13 : (a13 == b13) = c13
  generalize hc14 : (a14 == b14) = c14
  generalize hc15 : (a15 == b15) = c15
  go_simp
  cases c0
  · simp
  cases c1
  · simp
  cases c2
  · simp
  cases c3
  · simp
  cases c4
  · simp
  cases c5
  · simp
  cases c6
  · simp
  cases c7
  · simp
  cases c8
  · simp
  cases c9
  · simp
  cases c10
  · simp
  cases c11
  · simp
  cases c12
  · simp
  cases c13
  · simp
  cases c14
  · simp
  cases c15
  · simp
  simp
theorem heads_chain (a0 a1 a2 : Int) (a3 : Bool) (a4 a5 a6 a7 a8 a9 a10 a11 a12 a13 a14 a15 b0 b1 b2 : Int) (b3 : Bool) (b4 b5 b6 b7 b8 b9 b10 b11 b12 b13 b14 b15 : Int) :
    (((a0 == b0) && ((a1 == b1) && ((a2 == b2) && ((a3 == b3) && ((a4 == b4) && ((a5 == b5) && ((a6 == b6) && ((a7 == b7) && ((a8 == b8) && ((a9 == b9) && ((a10 == b10) && ((a11 == b11) && ((a12 == b12) && ((a13 == b13) && ((a14 == b14) && (a15 == b15)))))))))))))))) = true) ↔ ([.int .i64 a0, .int .i64 a1, .int .i64 a2, .bool a3, .int .i64 a4, .int .i64 a5, .int .i64 a6, .int .i64 a7, .int .i64 a8, .int .i64 a9, .int .i64 a10, .int .i64 a11, .int .i64 a12, .int .i64 a13, .int .i64 a14, .int .i64 a15] : List Value) = [.int .i64 b0, .int .i64 b1, .int .i64 b2, .bool b3, .int .i64 b4, .int .i64 b5, .int .i64 b6, .int .i64 b7, .int .i64 b8, .int .i64 b9, .int .i64 b10, .int .i64 b11, .int .i64 b12, .int .i64 b13, .int .i64 b14, .int .i64 b15] := by
  simp
end Go.Proofs.Ytlhcjnjajkfahaa

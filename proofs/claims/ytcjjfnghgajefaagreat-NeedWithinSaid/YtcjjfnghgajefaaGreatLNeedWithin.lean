/- NeedWithin: for every input the law returns true, and what it was given reads as it did. The frame is the guide's; the walk stands in a text of its own. -/
import Derived.Test.YtcjjfnghgajefaaGreatRows
import Derived.Test.YtcjjfnghgajefaaGreatK13
import Derived.Test.YtcjjfnghgajefaaGreatK14
import Derived.WalkKit
import Derived.ProofKit
import Derived.OpenShut
import Derived.ShutString
import Derived.ChangeOld
import Derived.Below
import Derived.Lib.SmallJoins
import Derived.Test.YtcjjfnghgajefaaGreatK0
namespace Go.Proofs.YtcjjfnghgajefaaGreat.needWithin
open Go.ChangeShapes Go.WideShapes Go.ChangeAt Go.RowKit Go.Joins
open Go.ChangeMaps (open_string shut_string)
set_option linter.unusedVariables false
theorem own : ownKnob Tryz.prog.godebug = none := by kernel_rfl
theorem laidOut : laidOutB Tryz.prog = true := by kernel_rfl
set_option maxRecDepth 100000 in
theorem lifted (os : Os) (started : os.Started) (H : Type) (enc : TypeId × Value → H) :
    ReturnsInHanded {} Tryz.checked os 4 .any (Rows.needWithinSpec.pre6 enc Tryz.prog Tryz.f4 Rows.needWithinRow.domain false) (Rows.needWithinSpec.post enc Tryz.prog Tryz.f4 false true false false) := by
  refine returnsInHanded_of_change (C := Tryz.checked) own started (by kernel_rfl) Tryz.func4
    (ChangeSpec.witness6 (enc := enc) (C := Tryz.checked) false ⟨#[], #[.agg #[.int .i64 0, .int .i64 0, .int .i64 0, .int .i64 0], .agg #[.int .i64 0, .int .i64 0, .int .i64 0, .int .i64 0]], []⟩ 8 (by kernel_rfl) (by kernel_rfl) (by kernel_rfl) (by kernel_rfl)) ?_
  intro W base args ds gs before hval0 hW hcnd _
  have hval : ∀ (j : Nat) t v, Tryz.f4.params[j]? = some t → args[j]? = some v → Value.okWide Tryz.prog W .any base t v := hval0
  have hW' := hW
  obtain ⟨p, q, hA0, hV, rfl, hfz, hnd⟩ := hW
  have hA : DataW.TrodAll enc Tryz.prog W 0 (fun _ => true) true Tryz.f4.params.toList args.toList ds p := hA0
  rw [Tryz.params4] at hA hval
  obtain ⟨v0, vs0, d0, ds0, p0, q0, hargs, rfl, rfl, h0, r0⟩ := trodAll_cons hA
  obtain ⟨v1, vs1, d1, ds1, p1, q1, rfl, rfl, rfl, h1, r1⟩ := trodAll_cons r0
  obtain ⟨rfl, rfl, rfl⟩ := trodAll_nil r1
  obtain rfl : args = #[v0, v1] := by cases args; simp_all
  obtain ⟨rfl, rfl⟩ := trodVars_none hV
  have k0 := h0
  have lt0 : ∀ x ∈ p0, x.block < W.heap.size := by obtain ⟨m, hm⟩ := k0; exact DataW.trod_lt m _ _ _ hm
  obtain ⟨cs0, rfl, sz0, g0⟩ := open_fields Tryz.underlying25 (by kernel_rfl) (by kernel_rfl) (hval 0 25 v0 rfl rfl) h0
  obtain ⟨c0_0, c0_1, c0_2, c0_3, rfl⟩ := arr4 sz0 rfl
  obtain ⟨x0_0, n0_0, y0_0, e0_0, f0_0⟩ := g0 0 _ rfl
  obtain ⟨b0_0, q0_0, -, -⟩ := DataW.trod_int Tryz.underlying3 f0_0
  simp at e0_0 q0_0
  subst e0_0 q0_0
  obtain ⟨x0_1, n0_1, y0_1, e0_1, f0_1⟩ := g0 1 _ rfl
  obtain ⟨b0_1, q0_1, -, -⟩ := DataW.trod_int Tryz.underlying3 f0_1
  simp at e0_1 q0_1
  subst e0_1 q0_1
  obtain ⟨x0_2, n0_2, y0_2, e0_2, f0_2⟩ := g0 2 _ rfl
  obtain ⟨b0_2, q0_2, -, -⟩ := DataW.trod_int Tryz.underlying3 f0_2
  simp at e0_2 q0_2
  subst e0_2 q0_2
  obtain ⟨x0_3, n0_3, y0_3, e0_3, f0_3⟩ := g0 3 _ rfl
  obtain ⟨b0_3, q0_3, -, -⟩ := DataW.trod_int Tryz.underlying3 f0_3
  simp at e0_3 q0_3
  subst e0_3 q0_3
  have k1 := h1
  have lt1 : ∀ x ∈ p1, x.block < W.heap.size := by obtain ⟨m, hm⟩ := k1; exact DataW.trod_lt m _ _ _ hm
  obtain ⟨cs1, rfl, sz1, g1⟩ := open_fields Tryz.underlying25 (by kernel_rfl) (by kernel_rfl) (hval 1 25 v1 rfl rfl) h1
  obtain ⟨c1_0, c1_1, c1_2, c1_3, rfl⟩ := arr4 sz1 rfl
  obtain ⟨x1_0, n1_0, y1_0, e1_0, f1_0⟩ := g1 0 _ rfl
  obtain ⟨b1_0, q1_0, -, -⟩ := DataW.trod_int Tryz.underlying3 f1_0
  simp at e1_0 q1_0
  subst e1_0 q1_0
  obtain ⟨x1_1, n1_1, y1_1, e1_1, f1_1⟩ := g1 1 _ rfl
  obtain ⟨b1_1, q1_1, -, -⟩ := DataW.trod_int Tryz.underlying3 f1_1
  simp at e1_1 q1_1
  subst e1_1 q1_1
  obtain ⟨x1_2, n1_2, y1_2, e1_2, f1_2⟩ := g1 2 _ rfl
  obtain ⟨b1_2, q1_2, -, -⟩ := DataW.trod_int Tryz.underlying3 f1_2
  simp at e1_2 q1_2
  subst e1_2 q1_2
  obtain ⟨x1_3, n1_3, y1_3, e1_3, f1_3⟩ := g1 3 _ rfl
  obtain ⟨b1_3, q1_3, -, -⟩ := DataW.trod_int Tryz.underlying3 f1_3
  simp at e1_3 q1_3
  subst e1_3 q1_3
  clear hA0 hval0
  refine (nwith_law b0_0 b0_1 b0_2 b0_3 b1_0 b1_1 b1_2 b1_3  W).mono fun e W' ⟨he, bel⟩ => ?_
  subst he
  exact ⟨_, rfl, _, _, _, [], _, [], hW', trodAll_mk1 (shut_bool Tryz.underlying4 _), (trodAll_cons_mk (Below.trod laidOut (by kernel_rfl) (of_decide_eq_true (by kernel_rfl)) k0 bel lt0) (trodAll_cons_mk (Below.trod laidOut (by kernel_rfl) (of_decide_eq_true (by kernel_rfl)) k1 bel lt1) trodAll_mk0)), rfl, bel.frame _, fun h => by cases h⟩
end Go.Proofs.YtcjjfnghgajefaaGreat.needWithin
namespace Go.Proofs.YtcjjfnghgajefaaGreat
theorem needWithin_proved : Rows.NeedWithinSaid :=
  OpenClaim.holds_of_wide 4 Tryz.f4 rfl rfl rfl rfl rfl rfl rfl ⟨rfl, rfl, rfl, rfl, rfl⟩ rfl rfl rfl rfl rfl (by kernel_rfl) Tryz.func4 (by kernel_rfl)
    (of_decide_eq_true (by kernel_rfl)) (by unfold Func.isWrapper; first | (rw [if_pos (by decide +kernel)]; kernel_rfl) | (rw [if_neg (by decide +kernel)]; exact ⟨rfl, rfl⟩))
    (fun os started H enc _ => needWithin.lifted os started H enc)
#print axioms needWithin_proved
end Go.Proofs.YtcjjfnghgajefaaGreat

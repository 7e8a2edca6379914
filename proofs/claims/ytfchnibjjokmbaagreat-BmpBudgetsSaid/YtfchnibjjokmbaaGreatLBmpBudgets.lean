/- BmpBudgets: for every input the law returns true, and what it was given reads as it did. The frame is the guide's; the walk stands in a text of its own. -/
import Derived.Test.YtfchnibjjokmbaaGreatRows
import Derived.Test.YtfchnibjjokmbaaGreatK31
import Derived.ProofKit
import Derived.OpenShut
import Derived.ShutString
import Derived.ChangeOld
import Derived.Below
set_option linter.all false
set_option maxRecDepth 100000
set_option maxHeartbeats 16000000
namespace Go.Proofs.YtfchnibjjokmbaaGreat.bmpBudgets
open Go.ChangeShapes Go.WideShapes Go.ChangeAt Go.RowKit Go.Joins
open Go.ChangeMaps (open_string shut_string)
theorem own : ownKnob Tryz.prog.godebug = none := by kernel_rfl
theorem laidOut : laidOutB Tryz.prog = true := by kernel_rfl
theorem lifted (os : Os) (started : os.Started) (H : Type) (enc : TypeId × Value → H) :
 ReturnsInHanded {} Tryz.checked os 3 .any (Rows.bmpBudgetsSpec.pre6 enc Tryz.prog Tryz.f3 Rows.bmpBudgetsRow.domain false) (Rows.bmpBudgetsSpec.post enc Tryz.prog Tryz.f3 false true false false) := by
 refine returnsInHanded_of_change (C := Tryz.checked) own started (by kernel_rfl) Tryz.func3
  (ChangeSpec.witness6 (enc := enc) (C := Tryz.checked) false ⟨#[], #[.string ByteArray.empty, .agg #[.int .i64 0, .int .i64 0, .int .i64 0, .int .i64 0]], []⟩ 8 (by kernel_rfl) (by kernel_rfl) (by kernel_rfl) (by kernel_rfl)) ?_
 intro W base args ds gs before hval0 hW hcnd _
 have hval : ∀ (j : Nat) t v, Tryz.f3.params[j]? = some t → args[j]? = some v → Value.okWide Tryz.prog W .any base t v := hval0
 have hW' := hW
 obtain ⟨p, q, hA0, hV, rfl, hfz, hnd⟩ := hW
 have hA : DataW.TrodAll enc Tryz.prog W 0 (fun _ => true) true Tryz.f3.params.toList args.toList ds p := hA0
 rw [Tryz.params3] at hA hval
 obtain ⟨v0, vs0, d0, ds0, p0, q0, hargs, rfl, rfl, h0, r0⟩ := trodAll_cons hA
 obtain ⟨v1, vs1, d1, ds1, p1, q1, rfl, rfl, rfl, h1, r1⟩ := trodAll_cons r0
 obtain ⟨rfl, rfl, rfl⟩ := trodAll_nil r1
 obtain rfl : args = #[v0, v1] := by cases args; simp_all
 obtain ⟨rfl, rfl⟩ := trodVars_none hV
 obtain ⟨a0, rfl, rfl, rfl, w0⟩ := open_string Tryz.underlying9 (hval 0 9 v0 rfl rfl) h0
 have k1 := h1
 have lt1 : ∀ x ∈ p1, x.block < W.heap.size := by obtain ⟨m, hm⟩ := k1; exact DataW.trod_lt m _ _ _ hm
 obtain ⟨cs1, rfl, sz1, g1⟩ := open_fields Tryz.underlying23 (by kernel_rfl) (by kernel_rfl) (hval 1 23 v1 rfl rfl) h1
 obtain ⟨c1_0, c1_1, c1_2, c1_3, rfl⟩ := arr4 sz1 rfl
 obtain ⟨x1_0, n1_0, y1_0, e1_0, f1_0⟩ := g1 0 _ rfl
 obtain ⟨b1_0, q1_0, -, w1_0⟩ := DataW.trod_int Tryz.underlying3 f1_0
 simp at e1_0 q1_0
 subst e1_0 q1_0
 obtain ⟨x1_1, n1_1, y1_1, e1_1, f1_1⟩ := g1 1 _ rfl
 obtain ⟨b1_1, q1_1, -, w1_1⟩ := DataW.trod_int Tryz.underlying3 f1_1
 simp at e1_1 q1_1
 subst e1_1 q1_1
 obtain ⟨x1_2, n1_2, y1_2, e1_2, f1_2⟩ := g1 2 _ rfl
 obtain ⟨b1_2, q1_2, -, w1_2⟩ := DataW.trod_int Tryz.underlying3 f1_2
 simp at e1_2 q1_2
 subst e1_2 q1_2
 obtain ⟨x1_3, n1_3, y1_3, e1_3, f1_3⟩ := g1 3 _ rfl
 obtain ⟨b1_3, q1_3, -, w1_3⟩ := DataW.trod_int Tryz.underlying3 f1_3
 simp at e1_3 q1_3
 subst e1_3 q1_3
 clear hA0 hval0
 refine (bud_law a0 b1_0 b1_1 b1_2 b1_3 w0 w1_0 w1_1 w1_2 w1_3 W).mono fun e W' ⟨he, bel⟩ => ?_
 subst he
 exact ⟨_, rfl, _, _, _, [], _, [], hW', trodAll_mk1 (shut_bool Tryz.underlying4 _), (trodAll_cons_mk (shut_string Tryz.underlying9 w0) (trodAll_cons_mk (Below.trod laidOut (by kernel_rfl) (of_decide_eq_true (by kernel_rfl)) k1 bel lt1) trodAll_mk0)), rfl, bel.frame _, fun h => by cases h⟩
end Go.Proofs.YtfchnibjjokmbaaGreat.bmpBudgets
namespace Go.Proofs.YtfchnibjjokmbaaGreat
theorem bmpBudgets_proved : Rows.BmpBudgetsSaid :=
 OpenClaim.holds_of_wide 3 Tryz.f3 rfl rfl rfl rfl rfl rfl rfl ⟨rfl, rfl, rfl, rfl, rfl⟩ rfl rfl rfl rfl rfl (by kernel_rfl) Tryz.func3 (by kernel_rfl)
  (of_decide_eq_true (by kernel_rfl)) (by unfold Func.isWrapper; first | (rw [if_pos (by decide +kernel)]; kernel_rfl) | (rw [if_neg (by decide +kernel)]; exact ⟨rfl, rfl⟩))
  (fun os started H enc _ => bmpBudgets.lifted os started H enc)
#print axioms bmpBudgets_proved
end Go.Proofs.YtfchnibjjokmbaaGreat

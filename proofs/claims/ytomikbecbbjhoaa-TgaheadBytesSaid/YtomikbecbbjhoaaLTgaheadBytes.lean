/- TgaheadBytes: for every input the law returns true, and what it was given reads as it did. The frame is the guide's; the walk stands in a text of its own. -/
import Derived.Test.YtomikbecbbjhoaaRows
import Derived.Test.YtomikbecbbjhoaaTB
import Derived.Test.YtomikbecbbjhoaaO4
import Derived.WalkKit
import Derived.ProofKit
import Derived.OpenShut
import Derived.ShutString
import Derived.ChangeOld
import Derived.Below
import Derived.Lib.SmallJoins
namespace Go.Proofs.Ytomikbecbbjhoaa.tgaheadBytes
open Go.ChangeShapes Go.WideShapes Go.ChangeAt Go.RowKit Go.Joins
open Go.ChangeMaps (open_string shut_string)
set_option linter.unusedVariables false
theorem own : ownKnob Try.prog.godebug = none := by kernel_rfl
theorem laidOut : laidOutB Try.prog = true := by kernel_rfl
set_option maxRecDepth 100000 in
theorem lifted (os : Os) (started : os.Started) (H : Type) (enc : TypeId × Value → H) :
    ReturnsInHanded {} Try.checked os 7 .any (Rows.tgaheadBytesSpec.pre6 enc Try.prog Try.f7 Rows.tgaheadBytesRow.domain false) (Rows.tgaheadBytesSpec.post enc Try.prog Try.f7 false true false false) := by
  refine returnsInHanded_of_change (C := Try.checked) own started (by kernel_rfl) Try.func7
    (ChangeSpec.witness6 (enc := enc) (C := Try.checked) false ⟨#[], #[.agg #[.int .i64 0, .bool false, .int .i64 0, .int .i64 0, .int .i64 0, .int .i64 0, .int .i64 0, .int .i64 0, .int .i64 0, .int .i64 0, .bool false, .bool false]], []⟩ 8 (by kernel_rfl) (by kernel_rfl) (by kernel_rfl) (by kernel_rfl)) ?_
  intro W base args ds gs before hval0 hW hcnd _
  have hval : ∀ (j : Nat) t v, Try.f7.params[j]? = some t → args[j]? = some v → Value.okWide Try.prog W .any base t v := hval0
  have hW' := hW
  obtain ⟨p, q, hA0, hV, rfl, hfz, hnd⟩ := hW
  have hA : DataW.TrodAll enc Try.prog W 0 (fun _ => true) true Try.f7.params.toList args.toList ds p := hA0
  rw [Try.params7] at hA hval
  obtain ⟨v0, vs0, d0, ds0, p0, q0, hargs, rfl, rfl, h0, r0⟩ := trodAll_cons hA
  obtain ⟨rfl, rfl, rfl⟩ := trodAll_nil r0
  obtain rfl : args = #[v0] := by cases args; simp_all
  obtain ⟨rfl, rfl⟩ := trodVars_none hV
  have k0 := h0
  have lt0 : ∀ x ∈ p0, x.block < W.heap.size := by obtain ⟨m, hm⟩ := k0; exact DataW.trod_lt m _ _ _ hm
  obtain ⟨cs0, rfl, sz0, g0⟩ := open_fields Try.underlying44 (by kernel_rfl) (by kernel_rfl) (hval 0 44 v0 rfl rfl) h0
  obtain ⟨c0_0, c0_1, c0_2, c0_3, c0_4, c0_5, c0_6, c0_7, c0_8, c0_9, c0_10, c0_11, rfl⟩ := arr12 sz0 rfl
  obtain ⟨x0_0, n0_0, y0_0, e0_0, f0_0⟩ := g0 0 _ rfl
  obtain ⟨b0_0, q0_0, -, -⟩ := DataW.trod_int Try.underlying3 f0_0
  simp at e0_0 q0_0
  subst e0_0 q0_0
  obtain ⟨x0_1, n0_1, y0_1, e0_1, f0_1⟩ := g0 1 _ rfl
  obtain ⟨b0_1, q0_1, -⟩ := DataW.trod_bool Try.underlying4 f0_1
  simp at e0_1 q0_1
  subst e0_1 q0_1
  obtain ⟨x0_2, n0_2, y0_2, e0_2, f0_2⟩ := g0 2 _ rfl
  obtain ⟨b0_2, q0_2, -, -⟩ := DataW.trod_int Try.underlying3 f0_2
  simp at e0_2 q0_2
  subst e0_2 q0_2
  obtain ⟨x0_3, n0_3, y0_3, e0_3, f0_3⟩ := g0 3 _ rfl
  obtain ⟨b0_3, q0_3, -, -⟩ := DataW.trod_int Try.underlying3 f0_3
  simp at e0_3 q0_3
  subst e0_3 q0_3
  obtain ⟨x0_4, n0_4, y0_4, e0_4, f0_4⟩ := g0 4 _ rfl
  obtain ⟨b0_4, q0_4, -, -⟩ := DataW.trod_int Try.underlying3 f0_4
  simp at e0_4 q0_4
  subst e0_4 q0_4
  obtain ⟨x0_5, n0_5, y0_5, e0_5, f0_5⟩ := g0 5 _ rfl
  obtain ⟨b0_5, q0_5, -, -⟩ := DataW.trod_int Try.underlying3 f0_5
  simp at e0_5 q0_5
  subst e0_5 q0_5
  obtain ⟨x0_6, n0_6, y0_6, e0_6, f0_6⟩ := g0 6 _ rfl
  obtain ⟨b0_6, q0_6, -, -⟩ := DataW.trod_int Try.underlying3 f0_6
  simp at e0_6 q0_6
  subst e0_6 q0_6
  obtain ⟨x0_7, n0_7, y0_7, e0_7, f0_7⟩ := g0 7 _ rfl
  obtain ⟨b0_7, q0_7, -, -⟩ := DataW.trod_int Try.underlying3 f0_7
  simp at e0_7 q0_7
  subst e0_7 q0_7
  obtain ⟨x0_8, n0_8, y0_8, e0_8, f0_8⟩ := g0 8 _ rfl
  obtain ⟨b0_8, q0_8, -, -⟩ := DataW.trod_int Try.underlying3 f0_8
  simp at e0_8 q0_8
  subst e0_8 q0_8
  obtain ⟨x0_9, n0_9, y0_9, e0_9, f0_9⟩ := g0 9 _ rfl
  obtain ⟨b0_9, q0_9, -, -⟩ := DataW.trod_int Try.underlying3 f0_9
  simp at e0_9 q0_9
  subst e0_9 q0_9
  obtain ⟨x0_10, n0_10, y0_10, e0_10, f0_10⟩ := g0 10 _ rfl
  obtain ⟨b0_10, q0_10, -⟩ := DataW.trod_bool Try.underlying4 f0_10
  simp at e0_10 q0_10
  subst e0_10 q0_10
  obtain ⟨x0_11, n0_11, y0_11, e0_11, f0_11⟩ := g0 11 _ rfl
  obtain ⟨b0_11, q0_11, -⟩ := DataW.trod_bool Try.underlying4 f0_11
  simp at e0_11 q0_11
  subst e0_11 q0_11
  clear hA0 hval0
  refine (tbytes_law b0_0 b0_2 b0_3 b0_4 b0_5 b0_6 b0_7 b0_8 b0_9 b0_1 b0_10 b0_11  W).mono fun e W' ⟨he, bel⟩ => ?_
  subst he
  exact ⟨_, rfl, _, _, _, [], _, [], hW', trodAll_mk1 (shut_bool Try.underlying4 _), (trodAll_cons_mk (Below.trod laidOut (by kernel_rfl) (of_decide_eq_true (by kernel_rfl)) k0 bel lt0) trodAll_mk0), rfl, bel.frame _, fun h => by cases h⟩
end Go.Proofs.Ytomikbecbbjhoaa.tgaheadBytes
namespace Go.Proofs.Ytomikbecbbjhoaa
theorem tgaheadBytes_proved : Rows.TgaheadBytesSaid :=
  OpenClaim.holds_of_wide 7 Try.f7 rfl rfl rfl rfl rfl rfl rfl ⟨rfl, rfl, rfl, rfl, rfl⟩ rfl rfl rfl rfl rfl (by kernel_rfl) Try.func7 (by kernel_rfl)
    (of_decide_eq_true (by kernel_rfl)) (by unfold Func.isWrapper; first | (rw [if_pos (by decide +kernel)]; kernel_rfl) | (rw [if_neg (by decide +kernel)]; exact ⟨rfl, rfl⟩))
    (fun os started H enc _ => tgaheadBytes.lifted os started H enc)
#print axioms tgaheadBytes_proved
end Go.Proofs.Ytomikbecbbjhoaa

/- ProbeValues: for every input the law returns true, and what it was given reads as it did. The frame is the guide's; the walk stands in a text of its own. -/
import Derived.Test.YtapdgfeekipidaaGreatDoorRows
import Derived.Test.YtapdgfeekipidaaGreatDoorK4
import Derived.Test.YtapdgfeekipidaaGreatDoorK6
import Derived.Test.YtapdgfeekipidaaGreatDoorCards
import Derived.Test.YtapdgfeekipidaaGreatDoorTie
import Derived.SevenTiedAt
import Derived.SliceStrings
import Derived.WalkKit
import Derived.ProofKit
import Derived.OpenShut
import Derived.ShutString
import Derived.ChangeOld
import Derived.Below
import Derived.Lib.SmallJoins
import Derived.Deep.DeepHandedRow
import Derived.Lib.LaidTab
import Derived.Test.YtapdgfeekipidaaGreatDoorK0
namespace Go.Proofs.YtapdgfeekipidaaGreatDoor.probeValues
open Go.ChangeShapes Go.WideShapes Go.ChangeAt Go.RowKit Go.Joins
open Go.ChangeMaps (open_string shut_string)
set_option linter.unusedVariables false
theorem own : ownKnob Tryz.prog.godebug = none := by kernel_rfl
theorem laidOut : laidOutB Tryz.prog = true := by kernel_rfl
def layNums : DataW Unit → List Value
  | .agg l => l.map fun
    | .lit (.int k z) => .int k z
    | _ => undef
  | _ => []
def layIn (d : DataW Unit) : Obj → Obj
  | .cells _ t frozen => .cells (layNums d).toArray t frozen
  | o => o
noncomputable def laidWorld (os : Os) : World :=
  { World.holding Tryz.prog os ⟨#[], #[], []⟩ with heap := (((World.holding Tryz.prog os ⟨#[], #[], []⟩).heap.modify 1 (layIn Rows.laid_math_bits_deBruijn32tab)).modify 2 (layIn Rows.laid_math_bits_deBruijn64tab)).modify 0 (layIn Rows.laid_internal_strconv_uint64pow10) }
def none2 : Array Value := #[.slice none 0 0, .string ByteArray.empty]
theorem laid_met (os : Os) : laidMet Tryz.prog Rows.probeValuesRow.laid ((laidWorld os).forCall (fun _ _ => 0) ⟨#[], none2, []⟩).memory :=
  laidMet_of_run' 8 (by kernel_rfl) (by kernel_rfl)
theorem reads (os : Os) {H : Type} (enc : TypeId × Value → H) : ∃ places, DataW.whole enc Tryz.prog ((laidWorld os).forCall (fun _ _ => 0) ⟨#[], none2, []⟩).memory Tryz.f3.params.toList Rows.probeValuesSpec.vars false none2.toList 8 = some ([.nil, .lit (.string [])], [], places) :=
  ⟨[], by kernel_rfl⟩
set_option maxRecDepth 100000 in
theorem contract (H : Type) (enc : TypeId × Value → H) (W : World) (base : Nat) (args : Array Value) (ds gs : List (DataW H)) (before : List MemPlace)
    (hval0 : ∀ (j : Nat) t v, Tryz.f3.params[j]? = some t → args[j]? = some v → Value.okWide Tryz.prog W .any base t v)
    (hW : DataW.Whole enc Tryz.prog Tryz.f3.params.toList Rows.probeValuesSpec.vars false W args.toList ds gs before) :
    Calls Tryz.prog 3 args W fun e W' => ∃ v, e = .returned v ∧ Rows.probeValuesSpec.post enc Tryz.prog Tryz.f3 false true false false W args v W' := by
  have hval : ∀ (j : Nat) t v, Tryz.f3.params[j]? = some t → args[j]? = some v → Value.okWide Tryz.prog W .any base t v := hval0
  have hW' := hW
  obtain ⟨p, q, hA0, hV, rfl, hfz, hnd⟩ := hW
  have hA : DataW.TrodAll enc Tryz.prog W 0 (fun _ => true) true Tryz.f3.params.toList args.toList ds p := hA0
  rw [Tryz.params3] at hA hval
  obtain ⟨v0, vs0, d0, ds0, p0, q0, hargs, rfl, rfl, h0, r0⟩ := trodAll_cons hA
  obtain ⟨v1, vs1, d1, ds1, p1, q1, rfl, rfl, rfl, h1, r1⟩ := trodAll_cons r0
  obtain ⟨rfl, rfl, rfl⟩ := trodAll_nil r1
  obtain rfl : args = #[v0, v1] := by cases args; simp_all
  obtain ⟨rfl, rfl⟩ := trodVars_none hV
  obtain ⟨a0, len0, cap0, rfl⟩ := okWide_slice Tryz.underlying22 (hval 0 22 v0 rfl rfl)
  have k0 := h0
  have lt0 : ∀ x ∈ p0, x.block < W.heap.size := by obtain ⟨m, hm⟩ := k0; exact DataW.trod_lt m _ _ _ hm
  obtain ⟨z0, n0, w0⟩ : ∃ ss : List ByteArray, len0 = ss.length ∧ (len0 ≠ 0 → ∃ x : Addr, a0 = some x ∧ ∀ i, i < len0 → W.cell? (x.add i) = some (.string (ss.getD i ByteArray.empty))) := by
    obtain ⟨fuel, hf⟩ := h0
    rcases open_strings Tryz.underlying22 Tryz.underlying9 (by kernel_rfl) hf with ⟨hcs, _⟩ | ⟨x, l, c, ss, hcs, _, hl, hm, hz, _, hcell, _⟩
    · simp [Value.cells] at hcs
      obtain ⟨rfl, rfl, rfl⟩ := hcs
      exact ⟨[], rfl, fun h => absurd rfl h⟩
    · simp [Value.cells] at hcs
      obtain ⟨rfl, rfl, rfl⟩ := hcs
      have hz : ss.length = cap0 := by simpa using hz
      refine ⟨ss.take len0, by rw [List.length_take]; omega, fun _ => ⟨_, rfl, fun j hj => ?_⟩⟩
      rw [List.getD_eq_getElem?_getD, List.getElem?_take, if_pos hj, ← List.getD_eq_getElem?_getD]
      exact hcell j (by omega)
  obtain ⟨a1, rfl, rfl, rfl, w1⟩ := open_string Tryz.underlying9 (hval 1 9 v1 rfl rfl) h1
  clear hA0 hval0
  refine (probe_walk a0 len0 cap0 z0 a1 n0 w0 w1 W).mono fun e W' ⟨he, bel⟩ => ?_
  subst he
  exact ⟨_, rfl, _, _, _, [], _, [], hW', trodAll_mk1 (shut_bool Tryz.underlying4 _), (trodAll_cons_mk (Below.trod laidOut (by kernel_rfl) (of_decide_eq_true (by kernel_rfl)) k0 bel lt0) (trodAll_cons_mk (shut_string Tryz.underlying9 w1) trodAll_mk0)), rfl, bel.frame _, fun h => by cases h⟩
set_option maxRecDepth 100000 in
theorem lifted (os : Os) (started : os.Started) (H : Type) (enc : TypeId × Value → H) (F : Stop.Interp) :
    ReturnsInHanded {} Tryz.checked os 3 .any ((OpenSpec.ofChange Rows.probeValuesSpec).preRow enc Tryz.prog Tryz.f3 Rows.probeValuesRow.domain false Rows.probeValuesRow.laid) (((OpenSpec.ofChange Rows.probeValuesSpec).at F).post enc Tryz.prog Tryz.f3 false true false false) := by
  obtain ⟨places, hx⟩ := reads os enc
  refine returnsInHanded_of_row (C := Tryz.checked) (s := OpenSpec.ofChange Rows.probeValuesSpec) own started (by kernel_rfl) Tryz.func3
    (witness_row_at (enc := enc) (C := Tryz.checked) false (laidWorld os) none2 rfl (by kernel_rfl) (by kernel_rfl) (by kernel_rfl)
      (OpenSpec.preRow_of_cond 8 hx (by kernel_rfl) (fun k hk => by cases hk) (by kernel_rfl) (laid_met os))) ?_
  intro W base args ds gs before hval hW _ _ _ _ _ _
  exact contract H enc W base args ds gs before hval hW
end Go.Proofs.YtapdgfeekipidaaGreatDoor.probeValues
namespace Go.Proofs.YtapdgfeekipidaaGreatDoor
theorem probeValues_proved : Rows.ProbeValuesSaid :=
  OpenClaim.holds_of_cond 3 Tryz.f3 rfl rfl rfl rfl rfl rfl rfl ⟨rfl, rfl, rfl, rfl, rfl⟩ rfl rfl rfl rfl rfl (by kernel_rfl) Tryz.func3 fact_all
    (of_decide_eq_true (by kernel_rfl)) (by unfold Func.isWrapper; first | (rw [if_pos (by decide +kernel)]; kernel_rfl) | (rw [if_neg (by decide +kernel)]; exact ⟨rfl, rfl⟩))
    (fun os started H enc _ F => by rw [OpenClaim.pre_eq_preRow]; exact probeValues.lifted os started H enc F)
theorem probeValues_plain (f : FuncId) (fn : Func) (hf : Tryz.pinned.checked.prog.funcNamed "tintype/tintypelaw37.ProbeValues" = some f) (hfn : Tryz.pinned.checked.prog.funcs[f]? = some fn) :
    true = Tryz.pinned.checked.prog.looks [] ∧ ∀ (j : Nat) t, fn.params[j]? = some t → Tryz.pinned.checked.prog.wantsStandIn t = false := by
  obtain rfl : f = 3 := Option.some.inj ((show Tryz.prog.funcNamed "tintype/tintypelaw37.ProbeValues" = some 3 by kernel_rfl).symm.trans hf) |>.symm
  obtain rfl : fn = Tryz.f3 := (Option.some.inj (Tryz.func3.symm.trans hfn)).symm
  refine ⟨by kernel_rfl, fun j t ht => ?_⟩
  rw [Tryz.params3] at ht
  have h3 : t = 22 ∨ t = 9 := by
    rcases j with _ | _ | j
    · left; simpa using ht.symm
    · right; simpa using ht.symm
    · simp at ht
  rcases h3 with rfl | rfl
  · exact (show Tryz.prog.wantsStandIn 22 = false by kernel_rfl)
  · exact (show Tryz.prog.wantsStandIn 9 = false by kernel_rfl)
theorem probeValuesCard_proved : Rows.ProbeValuesCardSaid :=
  Claim7.holds_tied_plain_at .later [] _ _ _ _ probeValues_proved (fun _ h => by cases h) (by kernel_rfl) (fun _ h => by cases h) probeValues_row_tie rfl ⟨rfl, rfl⟩ (by kernel_rfl) rfl probeValues_plain (by kernel_rfl)
end Go.Proofs.YtapdgfeekipidaaGreatDoor

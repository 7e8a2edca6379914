/- ProbeValues: the closed facts of the row, joined. -/
import Derived.Test.YtapdgfeekipidaaGreatDoorK5
import Derived.Test.YtapdgfeekipidaaGreatDoorK0
namespace Go.Proofs.YtapdgfeekipidaaGreatDoor
theorem and_mk {a b : Bool} (h : a = true) (k : b = true) : (a && b) = true := by rw [h, k]; rfl
set_option maxRecDepth 100000 in
set_option maxHeartbeats 4000000 in
theorem fact_all : joinedFacts Tryz.pinned.checked.prog 3 Tryz.f3 (OpenSpec.ofChange Rows.probeValuesSpec).bare Rows.probeValuesRow = true := by
  unfold joinedFacts
  refine and_mk ?_ (by as_aux_lemma => kernel_rfl)
  refine and_mk ?_ (by as_aux_lemma => kernel_rfl)
  refine and_mk ?_ (by as_aux_lemma => kernel_rfl)
  refine and_mk ?_ (by as_aux_lemma => kernel_rfl)
  refine and_mk ?_ (by as_aux_lemma => kernel_rfl)
  refine and_mk ?_ (by as_aux_lemma => kernel_rfl)
  refine and_mk ?_ (by as_aux_lemma => kernel_rfl)
  refine and_mk ?_ (by as_aux_lemma => kernel_rfl)
  refine and_mk ?_ (by as_aux_lemma => kernel_rfl)
  refine and_mk ?_ (by as_aux_lemma => kernel_rfl)
  refine and_mk ?_ (by as_aux_lemma => kernel_rfl)
  refine and_mk ?_ (by as_aux_lemma => kernel_rfl)
  refine and_mk ?_ (by as_aux_lemma => kernel_rfl)
  refine and_mk ?_ (by as_aux_lemma => kernel_rfl)
  refine and_mk ?_ (by as_aux_lemma => kernel_rfl)
  refine and_mk ?_ (by as_aux_lemma => kernel_rfl)
  refine and_mk ?_ (by as_aux_lemma => kernel_rfl)
  refine and_mk ?_ (by as_aux_lemma => kernel_rfl)
  refine and_mk ?_ (by as_aux_lemma => kernel_rfl)
  refine and_mk ?_ fact_named
  refine and_mk ?_ fact_recurses
  refine and_mk ?_ fact_unfollowed
  refine and_mk ?_ fact_inPlace
  refine and_mk ?_ (by as_aux_lemma => kernel_rfl)
  refine and_mk ?_ (by as_aux_lemma => kernel_rfl)
  refine and_mk ?_ (by as_aux_lemma => kernel_rfl)
  refine and_mk ?_ (by as_aux_lemma => kernel_rfl)
  refine and_mk ?_ (by as_aux_lemma => kernel_rfl)
  refine and_mk ?_ (by as_aux_lemma => kernel_rfl)
  refine and_mk ?_ (by as_aux_lemma => kernel_rfl)
  refine and_mk ?_ (by as_aux_lemma => kernel_rfl)
  kernel_rfl
end Go.Proofs.YtapdgfeekipidaaGreatDoor

/- ProbeValues: the closed facts of the row, each by itself. -/
import Derived.Test.YtapdgfeekipidaaGreatDoorRows
import Derived.JoinedCond
import Derived.KernelRfl
import Derived.Test.YtapdgfeekipidaaGreatDoorK0
namespace Go.Proofs.YtapdgfeekipidaaGreatDoor
theorem fact_inPlace : (Rows.probeValuesRow.inPlace == Tryz.pinned.checked.prog.inPlace 3) = true := by kernel_rfl
theorem fact_unfollowed : (Rows.probeValuesRow.unfollowed == Tryz.pinned.checked.prog.unfollowed 3) = true := by kernel_rfl
theorem fact_recurses : (Rows.probeValuesRow.recurses == Tryz.pinned.checked.prog.recurses 3) = true := by kernel_rfl
theorem fact_named : (Rows.probeValuesRow.named == Tryz.pinned.checked.prog.varsNamed 3) = true := by kernel_rfl
end Go.Proofs.YtapdgfeekipidaaGreatDoor

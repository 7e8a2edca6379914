/- Layer 20: a source over a text; the chapter's example; DibheadKnown, walked. -/
import Derived.Test.YtlfbaggcfaenlaaGreatK12
import Derived.Test.YtlfbaggcfaenlaaGreatK18
import Derived.Test.YtlfbaggcfaenlaaGreatK2
import Derived.Deep.CutRange
import Derived.Test.YtlfbaggcfaenlaaGreatK0
namespace Go.Proofs.YtlfbaggcfaenlaaGreat
open Go.RowKit
set_option linter.unusedVariables false
set_option linter.unusedSimpArgs false
theorem hread_any (X : Nat) (x : Sr) (l : Led) (f : Int) (w : World) (h : Pair w X x l) : Calls Tryz.prog 18 #[.pointer (some ⟨X, 0, none⟩), .int .i64 f] w (HReadPost w X x (hRead x l f)) := by
  cases hg : tkOk x l with
  | false => exact hread_bad X x l f w h hg
  | true => exact hread_good X x l f w h hg
def z40 : ByteArray := strOf [40, 0, 0, 0, 1, 0, 0, 0, 255, 255, 255, 255, 1, 0, 24, 0, 0, 0, 0, 0, 0, 0, 0, 0, 0, 0, 0, 0, 0, 0, 0, 0, 0, 0, 0, 0, 0, 0, 0, 0]
end Go.Proofs.YtlfbaggcfaenlaaGreat

/-
  DERIVED. GIVEN WITH THE SEED: THE CARDS: each row of YtapdgfeekipidaaGreatDoorRows.lean that lists a variable, with what it lists TIED to the program's text (the seventh form; the later family's looks); each row that meets fmt, with fmt's text TOLD by the authors' own Lean function (tested against real Go, not proved from fmt's source: count such statements apart). THE CARD IS WHAT COUNTS. Prove the row's statement (the work); the ties are given (YtapdgfeekipidaaGreatDoorTie.lean); close each card by the builder's one call (the guide's Derived/Test/ToyasCard.lean, 'card_holds'). Laid BY PROGRAM, IN A SANDBOX (cutbox-door.mjs). By AI agents, Wed Nov 11 2026. No macro, syntax, notation, axiom, sorry.
-/
import Derived.Test.YtapdgfeekipidaaGreatDoorRows
import GoSem.ClaimSeven
namespace Go.Proofs.YtapdgfeekipidaaGreatDoor
namespace Rows

/-- THE TIED CARD OF 'tintypelaw37.ProbeValues'. -/
def probeValuesCard : Claim7 := { stood := { row := probeValuesRow, standIns := [], harness := (true, "5bff6a99ef269494793a5e011933954a8780715b5038c1a3ac25c81211bad98c"), looks := true }, kinds := [], alts := [], laidByText := true, laidKinds := [.data, .data, .data], laidTests := true, laidLooks := .later }
def ProbeValuesCardSaid : Prop := Claim7.holds Tryz.pinned (.plain (OpenSpec.ofChange probeValuesSpec)) probeValuesCard

/-- THE SECOND FORM's CARD OF 'tintypelaw37.ProbeValues'. -/
def probeValuesUptoCard : Claim7 := { stood := { row := probeValuesUptoRow, standIns := [], harness := (true, "5bff6a99ef269494793a5e011933954a8780715b5038c1a3ac25c81211bad98c"), looks := true }, kinds := [], alts := [], laidByText := true, laidKinds := [.data, .data, .data], laidTests := true, laidLooks := .later }
def ProbeValuesUptoCardSaid : Prop := Claim7.holds Tryz.pinned (.plain (OpenSpec.upto probeValuesSpec)) probeValuesUptoCard
end Rows
end Go.Proofs.YtapdgfeekipidaaGreatDoor

/-
  No cell of these rows narrows 'for every input' (looked for: loops, veiled, ifaces, maps, wideKeys, modest, calm, conditions, laid).
  DERIVED. THE GIVEN ROWS OF THIS SEAT. 11 by the template 'for every input the law returns true; each argument reads behind the call as it read before'; 0 by the template 'total and deterministic' (their statements: YtlfbaggcfaenlaaGreatTotals.lean).
  GIVEN WITH THE SEED: the statements are not yours to turn. If you find one false, say at which input.
  Laid BY PROGRAM, IN A SANDBOX (cutbox-rows.mjs): the forced cells as the released guide's own fill.sh prints them over the translation e217005fefcadc51… (all of the seat's roots in one cut). By AI agents, Wed Nov 11 2026. No macro, syntax, notation, axiom, sorry.
-/
import Derived.Test.YtlfbaggcfaenlaaGreatChecked
import GoSem.Claim
import GoSem.ClaimJoined
import GoSem.ClaimMapViews
import Derived.JoinedTies
import Derived.KernelRfl
namespace Go.Proofs.YtlfbaggcfaenlaaGreat
/- THE CELL 'sum', in the pinned program and in every row, IS THE sha256 OF THE DUMP (.gsa) THAT YtlfbaggcfaenlaaGreatProg.lean LOADS. Nothing in Lean hashes anything: it is a label: what it is worth is what the hold of that sum in a sandbox is worth. -/
noncomputable def Tryz.pinned : Pinned := { name := "ytlfbaggcfaenlaagreat", sum := "e217005fefcadc51d362c406c1541a888802b4e0235dfbd33b1bebe1afc769a9", checked := Tryz.checked }
namespace Rows
def none {H : Type} : Left H := { results := [], args := [] }

/-- 'tintypelaw22.DibrleSteps': WHATEVER THE INPUT: true; the input reads as it did. -/
def dibrleStepsSpec : ChangeSpec := { name := "dibrleSteps", fn := fun _ => fun
  | [d] => { results := [.lit (.bool true)], args := [d] }
  | _ => none }
def dibrleStepsRow : OpenClaim := { program := "ytlfbaggcfaenlaagreat", sum := "e217005fefcadc51d362c406c1541a888802b4e0235dfbd33b1bebe1afc769a9", func := "tintype/tintypelaw22.DibrleSteps", spec := "dibrleSteps", inPlace := ["sync/atomic.LoadUint32", "sync/atomic.LoadInt64", "sync/atomic.StoreUint32", "(*internal/sync.Mutex).Lock", "internal/race.Disable", "sync/atomic.CompareAndSwapInt32", "internal/race.Enable", "internal/race.Acquire", "(*internal/sync.Mutex).lockSlow", "internal/sync.runtime_canSpin", "internal/sync.runtime_doSpin", "internal/sync.throw", "internal/sync.runtime_nanotime", "internal/sync.runtime_SemacquireMutex", "sync/atomic.AddInt32", "(*internal/sync.Mutex).Unlock", "internal/race.ReleaseMerge", "(*internal/sync.Mutex).unlockSlow", "internal/sync.fatal", "internal/sync.runtime_Semrelease", "sync/atomic.CompareAndSwapInt64"], unfollowed := true, recurses := true, plainKeys := false, apart := false }
def DibrleStepsSaid : Prop := dibrleStepsRow.holds Tryz.pinned (OpenSpec.ofChange dibrleStepsSpec)

/-- ITS FALSE NEIGHBOUR: 'it returns false'. Refute it at one input. -/
def dibrleStepsWrong : ChangeSpec := { name := "dibrleSteps", fn := fun _ => fun
  | [d] => { results := [.lit (.bool false)], args := [d] }
  | _ => none }
def DibrleStepsWrongFalsely : Prop := dibrleStepsRow.holds Tryz.pinned (OpenSpec.ofChange dibrleStepsWrong)

/-- 'tintypelaw22.DibrleReads': WHATEVER THE INPUT: true; the input reads as it did. -/
def dibrleReadsSpec : ChangeSpec := { name := "dibrleReads", fn := fun _ => fun
  | [d1, d2] => { results := [.lit (.bool true)], args := [d1, d2] }
  | _ => none }
def dibrleReadsRow : OpenClaim := { program := "ytlfbaggcfaenlaagreat", sum := "e217005fefcadc51d362c406c1541a888802b4e0235dfbd33b1bebe1afc769a9", func := "tintype/tintypelaw22.DibrleReads", spec := "dibrleReads", inPlace := ["sync/atomic.LoadUint32", "sync/atomic.LoadInt64", "sync/atomic.StoreUint32", "(*internal/sync.Mutex).Lock", "internal/race.Disable", "sync/atomic.CompareAndSwapInt32", "internal/race.Enable", "internal/race.Acquire", "(*internal/sync.Mutex).lockSlow", "internal/sync.runtime_canSpin", "internal/sync.runtime_doSpin", "internal/sync.throw", "internal/sync.runtime_nanotime", "internal/sync.runtime_SemacquireMutex", "sync/atomic.AddInt32", "(*internal/sync.Mutex).Unlock", "internal/race.ReleaseMerge", "(*internal/sync.Mutex).unlockSlow", "internal/sync.fatal", "internal/sync.runtime_Semrelease", "sync/atomic.CompareAndSwapInt64"], unfollowed := true, recurses := true, plainKeys := false, apart := false }
def DibrleReadsSaid : Prop := dibrleReadsRow.holds Tryz.pinned (OpenSpec.ofChange dibrleReadsSpec)

/-- ITS FALSE NEIGHBOUR: 'it returns false'. Refute it at one input. -/
def dibrleReadsWrong : ChangeSpec := { name := "dibrleReads", fn := fun _ => fun
  | [d1, d2] => { results := [.lit (.bool false)], args := [d1, d2] }
  | _ => none }
def DibrleReadsWrongFalsely : Prop := dibrleReadsRow.holds Tryz.pinned (OpenSpec.ofChange dibrleReadsWrong)

/-- 'tintypelaw21.DibrowSteps': WHATEVER THE INPUT: true; the input reads as it did. -/
def dibrowStepsSpec : ChangeSpec := { name := "dibrowSteps", fn := fun _ => fun
  | [d] => { results := [.lit (.bool true)], args := [d] }
  | _ => none }
def dibrowStepsRow : OpenClaim := { program := "ytlfbaggcfaenlaagreat", sum := "e217005fefcadc51d362c406c1541a888802b4e0235dfbd33b1bebe1afc769a9", func := "tintype/tintypelaw21.DibrowSteps", spec := "dibrowSteps", inPlace := ["sync/atomic.LoadUint32", "sync/atomic.LoadInt64", "sync/atomic.StoreUint32", "(*internal/sync.Mutex).Lock", "internal/race.Disable", "sync/atomic.CompareAndSwapInt32", "internal/race.Enable", "internal/race.Acquire", "(*internal/sync.Mutex).lockSlow", "internal/sync.runtime_canSpin", "internal/sync.runtime_doSpin", "internal/sync.throw", "internal/sync.runtime_nanotime", "internal/sync.runtime_SemacquireMutex", "sync/atomic.AddInt32", "(*internal/sync.Mutex).Unlock", "internal/race.ReleaseMerge", "(*internal/sync.Mutex).unlockSlow", "internal/sync.fatal", "internal/sync.runtime_Semrelease", "sync/atomic.CompareAndSwapInt64"], unfollowed := true, recurses := true, plainKeys := false, apart := false }
def DibrowStepsSaid : Prop := dibrowStepsRow.holds Tryz.pinned (OpenSpec.ofChange dibrowStepsSpec)

/-- ITS FALSE NEIGHBOUR: 'it returns false'. Refute it at one input. -/
def dibrowStepsWrong : ChangeSpec := { name := "dibrowSteps", fn := fun _ => fun
  | [d] => { results := [.lit (.bool false)], args := [d] }
  | _ => none }
def DibrowStepsWrongFalsely : Prop := dibrowStepsRow.holds Tryz.pinned (OpenSpec.ofChange dibrowStepsWrong)

/-- 'tintypelaw21.DibrowReads': WHATEVER THE INPUT: true; the input reads as it did. -/
def dibrowReadsSpec : ChangeSpec := { name := "dibrowReads", fn := fun _ => fun
  | [d1, d2] => { results := [.lit (.bool true)], args := [d1, d2] }
  | _ => none }
def dibrowReadsRow : OpenClaim := { program := "ytlfbaggcfaenlaagreat", sum := "e217005fefcadc51d362c406c1541a888802b4e0235dfbd33b1bebe1afc769a9", func := "tintype/tintypelaw21.DibrowReads", spec := "dibrowReads", inPlace := ["sync/atomic.LoadUint32", "sync/atomic.LoadInt64", "sync/atomic.StoreUint32", "(*internal/sync.Mutex).Lock", "internal/race.Disable", "sync/atomic.CompareAndSwapInt32", "internal/race.Enable", "internal/race.Acquire", "(*internal/sync.Mutex).lockSlow", "internal/sync.runtime_canSpin", "internal/sync.runtime_doSpin", "internal/sync.throw", "internal/sync.runtime_nanotime", "internal/sync.runtime_SemacquireMutex", "sync/atomic.AddInt32", "(*internal/sync.Mutex).Unlock", "internal/race.ReleaseMerge", "(*internal/sync.Mutex).unlockSlow", "internal/sync.fatal", "internal/sync.runtime_Semrelease", "sync/atomic.CompareAndSwapInt64"], unfollowed := true, recurses := true, plainKeys := false, apart := false }
def DibrowReadsSaid : Prop := dibrowReadsRow.holds Tryz.pinned (OpenSpec.ofChange dibrowReadsSpec)

/-- ITS FALSE NEIGHBOUR: 'it returns false'. Refute it at one input. -/
def dibrowReadsWrong : ChangeSpec := { name := "dibrowReads", fn := fun _ => fun
  | [d1, d2] => { results := [.lit (.bool false)], args := [d1, d2] }
  | _ => none }
def DibrowReadsWrongFalsely : Prop := dibrowReadsRow.holds Tryz.pinned (OpenSpec.ofChange dibrowReadsWrong)

/-- 'tintypelaw23.BmpBack': WHATEVER THE INPUT: true; the input reads as it did. -/
def bmpBackSpec : ChangeSpec := { name := "bmpBack", fn := fun _ => fun
  | [d1, d2] => { results := [.lit (.bool true)], args := [d1, d2] }
  | _ => none }
def bmpBackRow : OpenClaim := { program := "ytlfbaggcfaenlaagreat", sum := "e217005fefcadc51d362c406c1541a888802b4e0235dfbd33b1bebe1afc769a9", func := "tintype/tintypelaw23.BmpBack", spec := "bmpBack", inPlace := ["sync/atomic.LoadUint32", "(*internal/sync.Mutex).Lock", "internal/race.Disable", "sync/atomic.CompareAndSwapInt32", "internal/race.Enable", "internal/race.Acquire", "(*internal/sync.Mutex).lockSlow", "internal/sync.runtime_canSpin", "internal/sync.runtime_doSpin", "internal/sync.throw", "internal/sync.runtime_nanotime", "internal/sync.runtime_SemacquireMutex", "sync/atomic.AddInt32", "(*internal/sync.Mutex).Unlock", "internal/race.ReleaseMerge", "(*internal/sync.Mutex).unlockSlow", "internal/sync.fatal", "internal/sync.runtime_Semrelease", "sync/atomic.StoreUint32", "sync/atomic.LoadInt64", "sync/atomic.CompareAndSwapInt64"], unfollowed := true, recurses := true, plainKeys := false, apart := false }
def BmpBackSaid : Prop := bmpBackRow.holds Tryz.pinned (OpenSpec.ofChange bmpBackSpec)

/-- ITS FALSE NEIGHBOUR: 'it returns false'. Refute it at one input. -/
def bmpBackWrong : ChangeSpec := { name := "bmpBack", fn := fun _ => fun
  | [d1, d2] => { results := [.lit (.bool false)], args := [d1, d2] }
  | _ => none }
def BmpBackWrongFalsely : Prop := bmpBackRow.holds Tryz.pinned (OpenSpec.ofChange bmpBackWrong)

/-- 'tintypelaw23.BmpDecodes': WHATEVER THE INPUT: true; the input reads as it did. -/
def bmpDecodesSpec : ChangeSpec := { name := "bmpDecodes", fn := fun _ => fun
  | [d] => { results := [.lit (.bool true)], args := [d] }
  | _ => none }
def bmpDecodesRow : OpenClaim := { program := "ytlfbaggcfaenlaagreat", sum := "e217005fefcadc51d362c406c1541a888802b4e0235dfbd33b1bebe1afc769a9", func := "tintype/tintypelaw23.BmpDecodes", spec := "bmpDecodes", inPlace := ["sync/atomic.LoadUint32", "(*internal/sync.Mutex).Lock", "internal/race.Disable", "sync/atomic.CompareAndSwapInt32", "internal/race.Enable", "internal/race.Acquire", "(*internal/sync.Mutex).lockSlow", "internal/sync.runtime_canSpin", "internal/sync.runtime_doSpin", "internal/sync.throw", "internal/sync.runtime_nanotime", "internal/sync.runtime_SemacquireMutex", "sync/atomic.AddInt32", "(*internal/sync.Mutex).Unlock", "internal/race.ReleaseMerge", "(*internal/sync.Mutex).unlockSlow", "internal/sync.fatal", "internal/sync.runtime_Semrelease", "sync/atomic.StoreUint32", "sync/atomic.LoadInt64", "sync/atomic.CompareAndSwapInt64"], unfollowed := true, recurses := true, plainKeys := false, apart := false }
def BmpDecodesSaid : Prop := bmpDecodesRow.holds Tryz.pinned (OpenSpec.ofChange bmpDecodesSpec)

/-- ITS FALSE NEIGHBOUR: 'it returns false'. Refute it at one input. -/
def bmpDecodesWrong : ChangeSpec := { name := "bmpDecodes", fn := fun _ => fun
  | [d] => { results := [.lit (.bool false)], args := [d] }
  | _ => none }
def BmpDecodesWrongFalsely : Prop := bmpDecodesRow.holds Tryz.pinned (OpenSpec.ofChange bmpDecodesWrong)

/-- 'tintypelaw23.BmpBodies': WHATEVER THE INPUT: true; the input reads as it did. -/
def bmpBodiesSpec : ChangeSpec := { name := "bmpBodies", fn := fun _ => fun
  | [d1, d2, d3, d4, d5] => { results := [.lit (.bool true)], args := [d1, d2, d3, d4, d5] }
  | _ => none }
def bmpBodiesRow : OpenClaim := { program := "ytlfbaggcfaenlaagreat", sum := "e217005fefcadc51d362c406c1541a888802b4e0235dfbd33b1bebe1afc769a9", func := "tintype/tintypelaw23.BmpBodies", spec := "bmpBodies", inPlace := ["sync/atomic.LoadUint32", "(*internal/sync.Mutex).Lock", "internal/race.Disable", "sync/atomic.CompareAndSwapInt32", "internal/race.Enable", "internal/race.Acquire", "(*internal/sync.Mutex).lockSlow", "internal/sync.runtime_canSpin", "internal/sync.runtime_doSpin", "internal/sync.throw", "internal/sync.runtime_nanotime", "internal/sync.runtime_SemacquireMutex", "sync/atomic.AddInt32", "(*internal/sync.Mutex).Unlock", "internal/race.ReleaseMerge", "(*internal/sync.Mutex).unlockSlow", "internal/sync.fatal", "internal/sync.runtime_Semrelease", "sync/atomic.StoreUint32", "sync/atomic.LoadInt64", "sync/atomic.CompareAndSwapInt64"], unfollowed := true, recurses := true, plainKeys := false, apart := false }
def BmpBodiesSaid : Prop := bmpBodiesRow.holds Tryz.pinned (OpenSpec.ofChange bmpBodiesSpec)

/-- ITS FALSE NEIGHBOUR: 'it returns false'. Refute it at one input. -/
def bmpBodiesWrong : ChangeSpec := { name := "bmpBodies", fn := fun _ => fun
  | [d1, d2, d3, d4, d5] => { results := [.lit (.bool false)], args := [d1, d2, d3, d4, d5] }
  | _ => none }
def BmpBodiesWrongFalsely : Prop := bmpBodiesRow.holds Tryz.pinned (OpenSpec.ofChange bmpBodiesWrong)

/-- 'tintypelaw23.BmpBudgets': WHATEVER THE INPUT: true; the input reads as it did. -/
def bmpBudgetsSpec : ChangeSpec := { name := "bmpBudgets", fn := fun _ => fun
  | [d1, d2] => { results := [.lit (.bool true)], args := [d1, d2] }
  | _ => none }
def bmpBudgetsRow : OpenClaim := { program := "ytlfbaggcfaenlaagreat", sum := "e217005fefcadc51d362c406c1541a888802b4e0235dfbd33b1bebe1afc769a9", func := "tintype/tintypelaw23.BmpBudgets", spec := "bmpBudgets", inPlace := ["sync/atomic.LoadUint32", "(*internal/sync.Mutex).Lock", "internal/race.Disable", "sync/atomic.CompareAndSwapInt32", "internal/race.Enable", "internal/race.Acquire", "(*internal/sync.Mutex).lockSlow", "internal/sync.runtime_canSpin", "internal/sync.runtime_doSpin", "internal/sync.throw", "internal/sync.runtime_nanotime", "internal/sync.runtime_SemacquireMutex", "sync/atomic.AddInt32", "(*internal/sync.Mutex).Unlock", "internal/race.ReleaseMerge", "(*internal/sync.Mutex).unlockSlow", "internal/sync.fatal", "internal/sync.runtime_Semrelease", "sync/atomic.StoreUint32", "sync/atomic.LoadInt64", "sync/atomic.CompareAndSwapInt64"], unfollowed := true, recurses := true, plainKeys := false, apart := false }
def BmpBudgetsSaid : Prop := bmpBudgetsRow.holds Tryz.pinned (OpenSpec.ofChange bmpBudgetsSpec)

/-- ITS FALSE NEIGHBOUR: 'it returns false'. Refute it at one input. -/
def bmpBudgetsWrong : ChangeSpec := { name := "bmpBudgets", fn := fun _ => fun
  | [d1, d2] => { results := [.lit (.bool false)], args := [d1, d2] }
  | _ => none }
def BmpBudgetsWrongFalsely : Prop := bmpBudgetsRow.holds Tryz.pinned (OpenSpec.ofChange bmpBudgetsWrong)

/-- 'tintypelaw25.IcoBack': WHATEVER THE INPUT: true; the input reads as it did. -/
def icoBackSpec : ChangeSpec := { name := "icoBack", fn := fun _ => fun
  | [d1, d2] => { results := [.lit (.bool true)], args := [d1, d2] }
  | _ => none }
def icoBackRow : OpenClaim := { program := "ytlfbaggcfaenlaagreat", sum := "e217005fefcadc51d362c406c1541a888802b4e0235dfbd33b1bebe1afc769a9", func := "tintype/tintypelaw25.IcoBack", spec := "icoBack", inPlace := ["sync/atomic.LoadUint32", "sync/atomic.LoadInt64", "sync/atomic.StoreUint32", "(*internal/sync.Mutex).Lock", "internal/race.Disable", "sync/atomic.CompareAndSwapInt32", "internal/race.Enable", "internal/race.Acquire", "(*internal/sync.Mutex).lockSlow", "internal/sync.runtime_canSpin", "internal/sync.runtime_doSpin", "internal/sync.throw", "internal/sync.runtime_nanotime", "internal/sync.runtime_SemacquireMutex", "sync/atomic.AddInt32", "(*internal/sync.Mutex).Unlock", "internal/race.ReleaseMerge", "(*internal/sync.Mutex).unlockSlow", "internal/sync.fatal", "internal/sync.runtime_Semrelease", "sync/atomic.CompareAndSwapInt64"], unfollowed := true, recurses := true, plainKeys := false, apart := false }
def IcoBackSaid : Prop := icoBackRow.holds Tryz.pinned (OpenSpec.ofChange icoBackSpec)

/-- ITS FALSE NEIGHBOUR: 'it returns false'. Refute it at one input. -/
def icoBackWrong : ChangeSpec := { name := "icoBack", fn := fun _ => fun
  | [d1, d2] => { results := [.lit (.bool false)], args := [d1, d2] }
  | _ => none }
def IcoBackWrongFalsely : Prop := icoBackRow.holds Tryz.pinned (OpenSpec.ofChange icoBackWrong)

/-- 'tintypelaw25.IcoDecodes': WHATEVER THE INPUT: true; the input reads as it did. -/
def icoDecodesSpec : ChangeSpec := { name := "icoDecodes", fn := fun _ => fun
  | [d] => { results := [.lit (.bool true)], args := [d] }
  | _ => none }
def icoDecodesRow : OpenClaim := { program := "ytlfbaggcfaenlaagreat", sum := "e217005fefcadc51d362c406c1541a888802b4e0235dfbd33b1bebe1afc769a9", func := "tintype/tintypelaw25.IcoDecodes", spec := "icoDecodes", inPlace := ["sync/atomic.LoadUint32", "sync/atomic.LoadInt64", "sync/atomic.StoreUint32", "(*internal/sync.Mutex).Lock", "internal/race.Disable", "sync/atomic.CompareAndSwapInt32", "internal/race.Enable", "internal/race.Acquire", "(*internal/sync.Mutex).lockSlow", "internal/sync.runtime_canSpin", "internal/sync.runtime_doSpin", "internal/sync.throw", "internal/sync.runtime_nanotime", "internal/sync.runtime_SemacquireMutex", "sync/atomic.AddInt32", "(*internal/sync.Mutex).Unlock", "internal/race.ReleaseMerge", "(*internal/sync.Mutex).unlockSlow", "internal/sync.fatal", "internal/sync.runtime_Semrelease", "sync/atomic.CompareAndSwapInt64"], unfollowed := true, recurses := true, plainKeys := false, apart := false }
def IcoDecodesSaid : Prop := icoDecodesRow.holds Tryz.pinned (OpenSpec.ofChange icoDecodesSpec)

/-- ITS FALSE NEIGHBOUR: 'it returns false'. Refute it at one input. -/
def icoDecodesWrong : ChangeSpec := { name := "icoDecodes", fn := fun _ => fun
  | [d] => { results := [.lit (.bool false)], args := [d] }
  | _ => none }
def IcoDecodesWrongFalsely : Prop := icoDecodesRow.holds Tryz.pinned (OpenSpec.ofChange icoDecodesWrong)

/-- 'tintypelaw25.IcoBudgets': WHATEVER THE INPUT: true; the input reads as it did. -/
def icoBudgetsSpec : ChangeSpec := { name := "icoBudgets", fn := fun _ => fun
  | [d1, d2] => { results := [.lit (.bool true)], args := [d1, d2] }
  | _ => none }
def icoBudgetsRow : OpenClaim := { program := "ytlfbaggcfaenlaagreat", sum := "e217005fefcadc51d362c406c1541a888802b4e0235dfbd33b1bebe1afc769a9", func := "tintype/tintypelaw25.IcoBudgets", spec := "icoBudgets", inPlace := ["sync/atomic.LoadUint32", "sync/atomic.LoadInt64", "sync/atomic.StoreUint32", "(*internal/sync.Mutex).Lock", "internal/race.Disable", "sync/atomic.CompareAndSwapInt32", "internal/race.Enable", "internal/race.Acquire", "(*internal/sync.Mutex).lockSlow", "internal/sync.runtime_canSpin", "internal/sync.runtime_doSpin", "internal/sync.throw", "internal/sync.runtime_nanotime", "internal/sync.runtime_SemacquireMutex", "sync/atomic.AddInt32", "(*internal/sync.Mutex).Unlock", "internal/race.ReleaseMerge", "(*internal/sync.Mutex).unlockSlow", "internal/sync.fatal", "internal/sync.runtime_Semrelease", "sync/atomic.CompareAndSwapInt64"], unfollowed := true, recurses := true, plainKeys := false, apart := false }
def IcoBudgetsSaid : Prop := icoBudgetsRow.holds Tryz.pinned (OpenSpec.ofChange icoBudgetsSpec)

/-- ITS FALSE NEIGHBOUR: 'it returns false'. Refute it at one input. -/
def icoBudgetsWrong : ChangeSpec := { name := "icoBudgets", fn := fun _ => fun
  | [d1, d2] => { results := [.lit (.bool false)], args := [d1, d2] }
  | _ => none }
def IcoBudgetsWrongFalsely : Prop := icoBudgetsRow.holds Tryz.pinned (OpenSpec.ofChange icoBudgetsWrong)

/- THE SECOND FORM. 'bulk': how many values and letters a reading holds, each counted each time it is reached (what is shared counts as often as it is met; a slice's spare places count too). A statement '..UptoSaid' is the law's where the arguments, and the package variables that the reading takes, are together of bulk at most 1048576: NARROWER than '..Said'. Prove '..Said' where nothing that the law and all that it calls make is longer than what came in: it says more and counts as full. Else prove '..UptoSaid'. A law counts once. -/
mutual
def uptoBulk {H : Type} : DataW H → Nat
  | .lit (.string bytes) => bytes.length + 1
  | .lit _ => 1
  | .nil => 1
  | .ptr d => uptoBulk d + 1
  | .slice elems spare => uptoBulkAll elems + uptoBulkAll spare + 1
  | .agg parts => uptoBulkAll parts + 1
  | .iface _ d => uptoBulk d + 1
  | .map entries => uptoBulkEntries entries + 1
  | .held _ => 1
def uptoBulkAll {H : Type} : List (DataW H) → Nat
  | [] => 0
  | d :: r => uptoBulk d + uptoBulkAll r
def uptoBulkEntries {H : Type} : List (Lit × DataW H) → Nat
  | [] => 0
  | x :: r => uptoBulkEntry x + uptoBulkEntries r
def uptoBulkEntry {H : Type} : Lit × DataW H → Nat
  | (.string bytes, d) => bytes.length + uptoBulk d + 1
  | (_, d) => uptoBulk d + 1
 end
def uptoSmall : (H : Type) → List (DataW H) → Bool := fun _ ds => decide (uptoBulkAll ds ≤ 1048576)
def OpenSpec.upto (s : _root_.Go.ChangeSpec) : _root_.Go.OpenSpec := { _root_.Go.OpenSpec.ofChange s with cond := some uptoSmall }

/-- 'tintypelaw22.DibrleSteps', WHERE WHAT IT READS IS OF BULK AT MOST 1048576: true; the input reads as it did. -/
def dibrleStepsUptoRow : OpenClaim := { program := "ytlfbaggcfaenlaagreat", sum := "e217005fefcadc51d362c406c1541a888802b4e0235dfbd33b1bebe1afc769a9", func := "tintype/tintypelaw22.DibrleSteps", spec := "dibrleSteps", inPlace := ["sync/atomic.LoadUint32", "sync/atomic.LoadInt64", "sync/atomic.StoreUint32", "(*internal/sync.Mutex).Lock", "internal/race.Disable", "sync/atomic.CompareAndSwapInt32", "internal/race.Enable", "internal/race.Acquire", "(*internal/sync.Mutex).lockSlow", "internal/sync.runtime_canSpin", "internal/sync.runtime_doSpin", "internal/sync.throw", "internal/sync.runtime_nanotime", "internal/sync.runtime_SemacquireMutex", "sync/atomic.AddInt32", "(*internal/sync.Mutex).Unlock", "internal/race.ReleaseMerge", "(*internal/sync.Mutex).unlockSlow", "internal/sync.fatal", "internal/sync.runtime_Semrelease", "sync/atomic.CompareAndSwapInt64"], unfollowed := true, recurses := true, plainKeys := false, apart := false, narrowed := true }
def DibrleStepsUptoSaid : Prop := dibrleStepsUptoRow.holds Tryz.pinned (OpenSpec.upto dibrleStepsSpec)

/-- 'tintypelaw22.DibrleReads', WHERE WHAT IT READS IS OF BULK AT MOST 1048576: true; the input reads as it did. -/
def dibrleReadsUptoRow : OpenClaim := { program := "ytlfbaggcfaenlaagreat", sum := "e217005fefcadc51d362c406c1541a888802b4e0235dfbd33b1bebe1afc769a9", func := "tintype/tintypelaw22.DibrleReads", spec := "dibrleReads", inPlace := ["sync/atomic.LoadUint32", "sync/atomic.LoadInt64", "sync/atomic.StoreUint32", "(*internal/sync.Mutex).Lock", "internal/race.Disable", "sync/atomic.CompareAndSwapInt32", "internal/race.Enable", "internal/race.Acquire", "(*internal/sync.Mutex).lockSlow", "internal/sync.runtime_canSpin", "internal/sync.runtime_doSpin", "internal/sync.throw", "internal/sync.runtime_nanotime", "internal/sync.runtime_SemacquireMutex", "sync/atomic.AddInt32", "(*internal/sync.Mutex).Unlock", "internal/race.ReleaseMerge", "(*internal/sync.Mutex).unlockSlow", "internal/sync.fatal", "internal/sync.runtime_Semrelease", "sync/atomic.CompareAndSwapInt64"], unfollowed := true, recurses := true, plainKeys := false, apart := false, narrowed := true }
def DibrleReadsUptoSaid : Prop := dibrleReadsUptoRow.holds Tryz.pinned (OpenSpec.upto dibrleReadsSpec)

/-- 'tintypelaw21.DibrowSteps', WHERE WHAT IT READS IS OF BULK AT MOST 1048576: true; the input reads as it did. -/
def dibrowStepsUptoRow : OpenClaim := { program := "ytlfbaggcfaenlaagreat", sum := "e217005fefcadc51d362c406c1541a888802b4e0235dfbd33b1bebe1afc769a9", func := "tintype/tintypelaw21.DibrowSteps", spec := "dibrowSteps", inPlace := ["sync/atomic.LoadUint32", "sync/atomic.LoadInt64", "sync/atomic.StoreUint32", "(*internal/sync.Mutex).Lock", "internal/race.Disable", "sync/atomic.CompareAndSwapInt32", "internal/race.Enable", "internal/race.Acquire", "(*internal/sync.Mutex).lockSlow", "internal/sync.runtime_canSpin", "internal/sync.runtime_doSpin", "internal/sync.throw", "internal/sync.runtime_nanotime", "internal/sync.runtime_SemacquireMutex", "sync/atomic.AddInt32", "(*internal/sync.Mutex).Unlock", "internal/race.ReleaseMerge", "(*internal/sync.Mutex).unlockSlow", "internal/sync.fatal", "internal/sync.runtime_Semrelease", "sync/atomic.CompareAndSwapInt64"], unfollowed := true, recurses := true, plainKeys := false, apart := false, narrowed := true }
def DibrowStepsUptoSaid : Prop := dibrowStepsUptoRow.holds Tryz.pinned (OpenSpec.upto dibrowStepsSpec)

/-- 'tintypelaw21.DibrowReads', WHERE WHAT IT READS IS OF BULK AT MOST 1048576: true; the input reads as it did. -/
def dibrowReadsUptoRow : OpenClaim := { program := "ytlfbaggcfaenlaagreat", sum := "e217005fefcadc51d362c406c1541a888802b4e0235dfbd33b1bebe1afc769a9", func := "tintype/tintypelaw21.DibrowReads", spec := "dibrowReads", inPlace := ["sync/atomic.LoadUint32", "sync/atomic.LoadInt64", "sync/atomic.StoreUint32", "(*internal/sync.Mutex).Lock", "internal/race.Disable", "sync/atomic.CompareAndSwapInt32", "internal/race.Enable", "internal/race.Acquire", "(*internal/sync.Mutex).lockSlow", "internal/sync.runtime_canSpin", "internal/sync.runtime_doSpin", "internal/sync.throw", "internal/sync.runtime_nanotime", "internal/sync.runtime_SemacquireMutex", "sync/atomic.AddInt32", "(*internal/sync.Mutex).Unlock", "internal/race.ReleaseMerge", "(*internal/sync.Mutex).unlockSlow", "internal/sync.fatal", "internal/sync.runtime_Semrelease", "sync/atomic.CompareAndSwapInt64"], unfollowed := true, recurses := true, plainKeys := false, apart := false, narrowed := true }
def DibrowReadsUptoSaid : Prop := dibrowReadsUptoRow.holds Tryz.pinned (OpenSpec.upto dibrowReadsSpec)

/-- 'tintypelaw23.BmpBack', WHERE WHAT IT READS IS OF BULK AT MOST 1048576: true; the input reads as it did. -/
def bmpBackUptoRow : OpenClaim := { program := "ytlfbaggcfaenlaagreat", sum := "e217005fefcadc51d362c406c1541a888802b4e0235dfbd33b1bebe1afc769a9", func := "tintype/tintypelaw23.BmpBack", spec := "bmpBack", inPlace := ["sync/atomic.LoadUint32", "(*internal/sync.Mutex).Lock", "internal/race.Disable", "sync/atomic.CompareAndSwapInt32", "internal/race.Enable", "internal/race.Acquire", "(*internal/sync.Mutex).lockSlow", "internal/sync.runtime_canSpin", "internal/sync.runtime_doSpin", "internal/sync.throw", "internal/sync.runtime_nanotime", "internal/sync.runtime_SemacquireMutex", "sync/atomic.AddInt32", "(*internal/sync.Mutex).Unlock", "internal/race.ReleaseMerge", "(*internal/sync.Mutex).unlockSlow", "internal/sync.fatal", "internal/sync.runtime_Semrelease", "sync/atomic.StoreUint32", "sync/atomic.LoadInt64", "sync/atomic.CompareAndSwapInt64"], unfollowed := true, recurses := true, plainKeys := false, apart := false, narrowed := true }
def BmpBackUptoSaid : Prop := bmpBackUptoRow.holds Tryz.pinned (OpenSpec.upto bmpBackSpec)

/-- 'tintypelaw23.BmpDecodes', WHERE WHAT IT READS IS OF BULK AT MOST 1048576: true; the input reads as it did. -/
def bmpDecodesUptoRow : OpenClaim := { program := "ytlfbaggcfaenlaagreat", sum := "e217005fefcadc51d362c406c1541a888802b4e0235dfbd33b1bebe1afc769a9", func := "tintype/tintypelaw23.BmpDecodes", spec := "bmpDecodes", inPlace := ["sync/atomic.LoadUint32", "(*internal/sync.Mutex).Lock", "internal/race.Disable", "sync/atomic.CompareAndSwapInt32", "internal/race.Enable", "internal/race.Acquire", "(*internal/sync.Mutex).lockSlow", "internal/sync.runtime_canSpin", "internal/sync.runtime_doSpin", "internal/sync.throw", "internal/sync.runtime_nanotime", "internal/sync.runtime_SemacquireMutex", "sync/atomic.AddInt32", "(*internal/sync.Mutex).Unlock", "internal/race.ReleaseMerge", "(*internal/sync.Mutex).unlockSlow", "internal/sync.fatal", "internal/sync.runtime_Semrelease", "sync/atomic.StoreUint32", "sync/atomic.LoadInt64", "sync/atomic.CompareAndSwapInt64"], unfollowed := true, recurses := true, plainKeys := false, apart := false, narrowed := true }
def BmpDecodesUptoSaid : Prop := bmpDecodesUptoRow.holds Tryz.pinned (OpenSpec.upto bmpDecodesSpec)

/-- 'tintypelaw23.BmpBodies', WHERE WHAT IT READS IS OF BULK AT MOST 1048576: true; the input reads as it did. -/
def bmpBodiesUptoRow : OpenClaim := { program := "ytlfbaggcfaenlaagreat", sum := "e217005fefcadc51d362c406c1541a888802b4e0235dfbd33b1bebe1afc769a9", func := "tintype/tintypelaw23.BmpBodies", spec := "bmpBodies", inPlace := ["sync/atomic.LoadUint32", "(*internal/sync.Mutex).Lock", "internal/race.Disable", "sync/atomic.CompareAndSwapInt32", "internal/race.Enable", "internal/race.Acquire", "(*internal/sync.Mutex).lockSlow", "internal/sync.runtime_canSpin", "internal/sync.runtime_doSpin", "internal/sync.throw", "internal/sync.runtime_nanotime", "internal/sync.runtime_SemacquireMutex", "sync/atomic.AddInt32", "(*internal/sync.Mutex).Unlock", "internal/race.ReleaseMerge", "(*internal/sync.Mutex).unlockSlow", "internal/sync.fatal", "internal/sync.runtime_Semrelease", "sync/atomic.StoreUint32", "sync/atomic.LoadInt64", "sync/atomic.CompareAndSwapInt64"], unfollowed := true, recurses := true, plainKeys := false, apart := false, narrowed := true }
def BmpBodiesUptoSaid : Prop := bmpBodiesUptoRow.holds Tryz.pinned (OpenSpec.upto bmpBodiesSpec)

/-- 'tintypelaw23.BmpBudgets', WHERE WHAT IT READS IS OF BULK AT MOST 1048576: true; the input reads as it did. -/
def bmpBudgetsUptoRow : OpenClaim := { program := "ytlfbaggcfaenlaagreat", sum := "e217005fefcadc51d362c406c1541a888802b4e0235dfbd33b1bebe1afc769a9", func := "tintype/tintypelaw23.BmpBudgets", spec := "bmpBudgets", inPlace := ["sync/atomic.LoadUint32", "(*internal/sync.Mutex).Lock", "internal/race.Disable", "sync/atomic.CompareAndSwapInt32", "internal/race.Enable", "internal/race.Acquire", "(*internal/sync.Mutex).lockSlow", "internal/sync.runtime_canSpin", "internal/sync.runtime_doSpin", "internal/sync.throw", "internal/sync.runtime_nanotime", "internal/sync.runtime_SemacquireMutex", "sync/atomic.AddInt32", "(*internal/sync.Mutex).Unlock", "internal/race.ReleaseMerge", "(*internal/sync.Mutex).unlockSlow", "internal/sync.fatal", "internal/sync.runtime_Semrelease", "sync/atomic.StoreUint32", "sync/atomic.LoadInt64", "sync/atomic.CompareAndSwapInt64"], unfollowed := true, recurses := true, plainKeys := false, apart := false, narrowed := true }
def BmpBudgetsUptoSaid : Prop := bmpBudgetsUptoRow.holds Tryz.pinned (OpenSpec.upto bmpBudgetsSpec)

/-- 'tintypelaw25.IcoBack', WHERE WHAT IT READS IS OF BULK AT MOST 1048576: true; the input reads as it did. -/
def icoBackUptoRow : OpenClaim := { program := "ytlfbaggcfaenlaagreat", sum := "e217005fefcadc51d362c406c1541a888802b4e0235dfbd33b1bebe1afc769a9", func := "tintype/tintypelaw25.IcoBack", spec := "icoBack", inPlace := ["sync/atomic.LoadUint32", "sync/atomic.LoadInt64", "sync/atomic.StoreUint32", "(*internal/sync.Mutex).Lock", "internal/race.Disable", "sync/atomic.CompareAndSwapInt32", "internal/race.Enable", "internal/race.Acquire", "(*internal/sync.Mutex).lockSlow", "internal/sync.runtime_canSpin", "internal/sync.runtime_doSpin", "internal/sync.throw", "internal/sync.runtime_nanotime", "internal/sync.runtime_SemacquireMutex", "sync/atomic.AddInt32", "(*internal/sync.Mutex).Unlock", "internal/race.ReleaseMerge", "(*internal/sync.Mutex).unlockSlow", "internal/sync.fatal", "internal/sync.runtime_Semrelease", "sync/atomic.CompareAndSwapInt64"], unfollowed := true, recurses := true, plainKeys := false, apart := false, narrowed := true }
def IcoBackUptoSaid : Prop := icoBackUptoRow.holds Tryz.pinned (OpenSpec.upto icoBackSpec)

/-- 'tintypelaw25.IcoDecodes', WHERE WHAT IT READS IS OF BULK AT MOST 1048576: true; the input reads as it did. -/
def icoDecodesUptoRow : OpenClaim := { program := "ytlfbaggcfaenlaagreat", sum := "e217005fefcadc51d362c406c1541a888802b4e0235dfbd33b1bebe1afc769a9", func := "tintype/tintypelaw25.IcoDecodes", spec := "icoDecodes", inPlace := ["sync/atomic.LoadUint32", "sync/atomic.LoadInt64", "sync/atomic.StoreUint32", "(*internal/sync.Mutex).Lock", "internal/race.Disable", "sync/atomic.CompareAndSwapInt32", "internal/race.Enable", "internal/race.Acquire", "(*internal/sync.Mutex).lockSlow", "internal/sync.runtime_canSpin", "internal/sync.runtime_doSpin", "internal/sync.throw", "internal/sync.runtime_nanotime", "internal/sync.runtime_SemacquireMutex", "sync/atomic.AddInt32", "(*internal/sync.Mutex).Unlock", "internal/race.ReleaseMerge", "(*internal/sync.Mutex).unlockSlow", "internal/sync.fatal", "internal/sync.runtime_Semrelease", "sync/atomic.CompareAndSwapInt64"], unfollowed := true, recurses := true, plainKeys := false, apart := false, narrowed := true }
def IcoDecodesUptoSaid : Prop := icoDecodesUptoRow.holds Tryz.pinned (OpenSpec.upto icoDecodesSpec)

/-- 'tintypelaw25.IcoBudgets', WHERE WHAT IT READS IS OF BULK AT MOST 1048576: true; the input reads as it did. -/
def icoBudgetsUptoRow : OpenClaim := { program := "ytlfbaggcfaenlaagreat", sum := "e217005fefcadc51d362c406c1541a888802b4e0235dfbd33b1bebe1afc769a9", func := "tintype/tintypelaw25.IcoBudgets", spec := "icoBudgets", inPlace := ["sync/atomic.LoadUint32", "sync/atomic.LoadInt64", "sync/atomic.StoreUint32", "(*internal/sync.Mutex).Lock", "internal/race.Disable", "sync/atomic.CompareAndSwapInt32", "internal/race.Enable", "internal/race.Acquire", "(*internal/sync.Mutex).lockSlow", "internal/sync.runtime_canSpin", "internal/sync.runtime_doSpin", "internal/sync.throw", "internal/sync.runtime_nanotime", "internal/sync.runtime_SemacquireMutex", "sync/atomic.AddInt32", "(*internal/sync.Mutex).Unlock", "internal/race.ReleaseMerge", "(*internal/sync.Mutex).unlockSlow", "internal/sync.fatal", "internal/sync.runtime_Semrelease", "sync/atomic.CompareAndSwapInt64"], unfollowed := true, recurses := true, plainKeys := false, apart := false, narrowed := true }
def IcoBudgetsUptoSaid : Prop := icoBudgetsUptoRow.holds Tryz.pinned (OpenSpec.upto icoBudgetsSpec)

end Rows
end Go.Proofs.YtlfbaggcfaenlaaGreat

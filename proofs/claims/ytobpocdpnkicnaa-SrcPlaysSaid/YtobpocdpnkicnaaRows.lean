/-
  No cell of these rows narrows 'for every input' (looked for: loops, veiled, ifaces, maps, wideKeys, modest, calm, conditions, laid).
  DERIVED. THE GIVEN ROWS OF THIS SEAT. 12 by the template 'for every input the law returns true; each argument reads behind the call as it read before'; 0 by the template 'total and deterministic' (their statements: YtobpocdpnkicnaaTotals.lean).
  GIVEN WITH THE SEED: the statements are not yours to turn. If you find one false, say at which input.
  Laid BY PROGRAM, IN A SANDBOX (cutbox-rows.mjs): the forced cells as the released guide's own fill.sh prints them over the translation c48ab13d2545fa38… (all of the seat's roots in one cut). By AI agents, Wed Nov 11 2026. No macro, syntax, notation, axiom, sorry.
-/
import Derived.Test.YtobpocdpnkicnaaChecked
import GoSem.Claim
import GoSem.ClaimJoined
import GoSem.ClaimMapViews
import Derived.JoinedTies
import Derived.KernelRfl
namespace Go.Proofs.Ytobpocdpnkicnaa
/- THE CELL 'sum', in the pinned program and in every row, IS THE sha256 OF THE DUMP (.gsa) THAT YtobpocdpnkicnaaProg.lean LOADS. Nothing in Lean hashes anything: it is a label: what it is worth is what the hold of that sum in a sandbox is worth. -/
noncomputable def Try.pinned : Pinned := { name := "ytobpocdpnkicnaa", sum := "c48ab13d2545fa383add77dc89d3f1fae507298a7725765f8b2616da116652c0", checked := Try.checked }
namespace Rows
def none {H : Type} : Left H := { results := [], args := [] }

/-- 'tintypelaw22.DibrlePacks': WHATEVER THE INPUT: true; the input reads as it did. -/
def dibrlePacksSpec : ChangeSpec := { name := "dibrlePacks", fn := fun _ => fun
  | [d1, d2, d3] => { results := [.lit (.bool true)], args := [d1, d2, d3] }
  | _ => none }
def dibrlePacksRow : OpenClaim := { program := "ytobpocdpnkicnaa", sum := "c48ab13d2545fa383add77dc89d3f1fae507298a7725765f8b2616da116652c0", func := "tintype/tintypelaw22.DibrlePacks", spec := "dibrlePacks", apart := false }
def DibrlePacksSaid : Prop := dibrlePacksRow.holds Try.pinned (OpenSpec.ofChange dibrlePacksSpec)

/-- ITS FALSE NEIGHBOUR: 'it returns false'. Refute it at one input. -/
def dibrlePacksWrong : ChangeSpec := { name := "dibrlePacks", fn := fun _ => fun
  | [d1, d2, d3] => { results := [.lit (.bool false)], args := [d1, d2, d3] }
  | _ => none }
def DibrlePacksWrongFalsely : Prop := dibrlePacksRow.holds Try.pinned (OpenSpec.ofChange dibrlePacksWrong)

/-- 'tintypelaw21.DibrowPacks': WHATEVER THE INPUT: true; the input reads as it did. -/
def dibrowPacksSpec : ChangeSpec := { name := "dibrowPacks", fn := fun _ => fun
  | [d1, d2] => { results := [.lit (.bool true)], args := [d1, d2] }
  | _ => none }
def dibrowPacksRow : OpenClaim := { program := "ytobpocdpnkicnaa", sum := "c48ab13d2545fa383add77dc89d3f1fae507298a7725765f8b2616da116652c0", func := "tintype/tintypelaw21.DibrowPacks", spec := "dibrowPacks", apart := false }
def DibrowPacksSaid : Prop := dibrowPacksRow.holds Try.pinned (OpenSpec.ofChange dibrowPacksSpec)

/-- ITS FALSE NEIGHBOUR: 'it returns false'. Refute it at one input. -/
def dibrowPacksWrong : ChangeSpec := { name := "dibrowPacks", fn := fun _ => fun
  | [d1, d2] => { results := [.lit (.bool false)], args := [d1, d2] }
  | _ => none }
def DibrowPacksWrongFalsely : Prop := dibrowPacksRow.holds Try.pinned (OpenSpec.ofChange dibrowPacksWrong)

/-- 'tintypelaw09.MaskCommon': WHATEVER THE INPUT: true; the input reads as it did. -/
def maskCommonSpec : ChangeSpec := { name := "maskCommon", fn := fun _ => fun
  | [d1, d2] => { results := [.lit (.bool true)], args := [d1, d2] }
  | _ => none }
def maskCommonRow : OpenClaim := { program := "ytobpocdpnkicnaa", sum := "c48ab13d2545fa383add77dc89d3f1fae507298a7725765f8b2616da116652c0", func := "tintype/tintypelaw09.MaskCommon", spec := "maskCommon", apart := false }
def MaskCommonSaid : Prop := maskCommonRow.holds Try.pinned (OpenSpec.ofChange maskCommonSpec)

/-- ITS FALSE NEIGHBOUR: 'it returns false'. Refute it at one input. -/
def maskCommonWrong : ChangeSpec := { name := "maskCommon", fn := fun _ => fun
  | [d1, d2] => { results := [.lit (.bool false)], args := [d1, d2] }
  | _ => none }
def MaskCommonWrongFalsely : Prop := maskCommonRow.holds Try.pinned (OpenSpec.ofChange maskCommonWrong)

/-- 'tintypelaw09.MaskFinds': WHATEVER THE INPUT: true; the input reads as it did. -/
def maskFindsSpec : ChangeSpec := { name := "maskFinds", fn := fun _ => fun
  | [d1, d2, d3] => { results := [.lit (.bool true)], args := [d1, d2, d3] }
  | _ => none }
def maskFindsRow : OpenClaim := { program := "ytobpocdpnkicnaa", sum := "c48ab13d2545fa383add77dc89d3f1fae507298a7725765f8b2616da116652c0", func := "tintype/tintypelaw09.MaskFinds", spec := "maskFinds", apart := false }
def MaskFindsSaid : Prop := maskFindsRow.holds Try.pinned (OpenSpec.ofChange maskFindsSpec)

/-- ITS FALSE NEIGHBOUR: 'it returns false'. Refute it at one input. -/
def maskFindsWrong : ChangeSpec := { name := "maskFinds", fn := fun _ => fun
  | [d1, d2, d3] => { results := [.lit (.bool false)], args := [d1, d2, d3] }
  | _ => none }
def MaskFindsWrongFalsely : Prop := maskFindsRow.holds Try.pinned (OpenSpec.ofChange maskFindsWrong)

/-- 'tintypelaw09.MaskFives': WHATEVER THE INPUT: true; the input reads as it did. -/
def maskFivesSpec : ChangeSpec := { name := "maskFives", fn := fun _ => fun
  | [d1, d2] => { results := [.lit (.bool true)], args := [d1, d2] }
  | _ => none }
def maskFivesRow : OpenClaim := { program := "ytobpocdpnkicnaa", sum := "c48ab13d2545fa383add77dc89d3f1fae507298a7725765f8b2616da116652c0", func := "tintype/tintypelaw09.MaskFives", spec := "maskFives", apart := false }
def MaskFivesSaid : Prop := maskFivesRow.holds Try.pinned (OpenSpec.ofChange maskFivesSpec)

/-- ITS FALSE NEIGHBOUR: 'it returns false'. Refute it at one input. -/
def maskFivesWrong : ChangeSpec := { name := "maskFives", fn := fun _ => fun
  | [d1, d2] => { results := [.lit (.bool false)], args := [d1, d2] }
  | _ => none }
def MaskFivesWrongFalsely : Prop := maskFivesRow.holds Try.pinned (OpenSpec.ofChange maskFivesWrong)

/-- 'tintypelaw09.MaskFours': WHATEVER THE INPUT: true; the input reads as it did. -/
def maskFoursSpec : ChangeSpec := { name := "maskFours", fn := fun _ => fun
  | [d1, d2, d3, d4, d5, d6] => { results := [.lit (.bool true)], args := [d1, d2, d3, d4, d5, d6] }
  | _ => none }
def maskFoursRow : OpenClaim := { program := "ytobpocdpnkicnaa", sum := "c48ab13d2545fa383add77dc89d3f1fae507298a7725765f8b2616da116652c0", func := "tintype/tintypelaw09.MaskFours", spec := "maskFours", apart := false }
def MaskFoursSaid : Prop := maskFoursRow.holds Try.pinned (OpenSpec.ofChange maskFoursSpec)

/-- ITS FALSE NEIGHBOUR: 'it returns false'. Refute it at one input. -/
def maskFoursWrong : ChangeSpec := { name := "maskFours", fn := fun _ => fun
  | [d1, d2, d3, d4, d5, d6] => { results := [.lit (.bool false)], args := [d1, d2, d3, d4, d5, d6] }
  | _ => none }
def MaskFoursWrongFalsely : Prop := maskFoursRow.holds Try.pinned (OpenSpec.ofChange maskFoursWrong)

/-- 'tintypelaw09.MaskWords': WHATEVER THE INPUT: true; the input reads as it did. -/
def maskWordsSpec : ChangeSpec := { name := "maskWords", fn := fun _ => fun
  | [d1, d2, d3] => { results := [.lit (.bool true)], args := [d1, d2, d3] }
  | _ => none }
def maskWordsRow : OpenClaim := { program := "ytobpocdpnkicnaa", sum := "c48ab13d2545fa383add77dc89d3f1fae507298a7725765f8b2616da116652c0", func := "tintype/tintypelaw09.MaskWords", spec := "maskWords", apart := false }
def MaskWordsSaid : Prop := maskWordsRow.holds Try.pinned (OpenSpec.ofChange maskWordsSpec)

/-- ITS FALSE NEIGHBOUR: 'it returns false'. Refute it at one input. -/
def maskWordsWrong : ChangeSpec := { name := "maskWords", fn := fun _ => fun
  | [d1, d2, d3] => { results := [.lit (.bool false)], args := [d1, d2, d3] }
  | _ => none }
def MaskWordsWrongFalsely : Prop := maskWordsRow.holds Try.pinned (OpenSpec.ofChange maskWordsWrong)

/-- 'tintypelaw05.SrcWindows': WHATEVER THE INPUT: true; the input reads as it did. -/
def srcWindowsSpec : ChangeSpec := { name := "srcWindows", fn := fun _ => fun
  | [d1, d2, d3, d4, d5] => { results := [.lit (.bool true)], args := [d1, d2, d3, d4, d5] }
  | _ => none }
def srcWindowsRow : OpenClaim := { program := "ytobpocdpnkicnaa", sum := "c48ab13d2545fa383add77dc89d3f1fae507298a7725765f8b2616da116652c0", func := "tintype/tintypelaw05.SrcWindows", spec := "srcWindows", inPlace := ["sync/atomic.LoadUint32", "sync/atomic.LoadInt64", "sync/atomic.StoreUint32", "(*internal/sync.Mutex).Lock", "internal/race.Disable", "sync/atomic.CompareAndSwapInt32", "internal/race.Enable", "internal/race.Acquire", "(*internal/sync.Mutex).lockSlow", "internal/sync.runtime_canSpin", "internal/sync.runtime_doSpin", "internal/sync.throw", "internal/sync.runtime_nanotime", "internal/sync.runtime_SemacquireMutex", "sync/atomic.AddInt32", "(*internal/sync.Mutex).Unlock", "internal/race.ReleaseMerge", "(*internal/sync.Mutex).unlockSlow", "internal/sync.fatal", "internal/sync.runtime_Semrelease", "sync/atomic.CompareAndSwapInt64"], unfollowed := true, recurses := true, apart := false }
def SrcWindowsSaid : Prop := srcWindowsRow.holds Try.pinned (OpenSpec.ofChange srcWindowsSpec)

/-- ITS FALSE NEIGHBOUR: 'it returns false'. Refute it at one input. -/
def srcWindowsWrong : ChangeSpec := { name := "srcWindows", fn := fun _ => fun
  | [d1, d2, d3, d4, d5] => { results := [.lit (.bool false)], args := [d1, d2, d3, d4, d5] }
  | _ => none }
def SrcWindowsWrongFalsely : Prop := srcWindowsRow.holds Try.pinned (OpenSpec.ofChange srcWindowsWrong)

/-- 'tintypelaw05.SrcNumbers': WHATEVER THE INPUT: true; the input reads as it did. -/
def srcNumbersSpec : ChangeSpec := { name := "srcNumbers", fn := fun _ => fun
  | [d1, d2, d3, d4] => { results := [.lit (.bool true)], args := [d1, d2, d3, d4] }
  | _ => none }
def srcNumbersRow : OpenClaim := { program := "ytobpocdpnkicnaa", sum := "c48ab13d2545fa383add77dc89d3f1fae507298a7725765f8b2616da116652c0", func := "tintype/tintypelaw05.SrcNumbers", spec := "srcNumbers", inPlace := ["sync/atomic.LoadUint32", "sync/atomic.LoadInt64", "sync/atomic.StoreUint32", "(*internal/sync.Mutex).Lock", "internal/race.Disable", "sync/atomic.CompareAndSwapInt32", "internal/race.Enable", "internal/race.Acquire", "(*internal/sync.Mutex).lockSlow", "internal/sync.runtime_canSpin", "internal/sync.runtime_doSpin", "internal/sync.throw", "internal/sync.runtime_nanotime", "internal/sync.runtime_SemacquireMutex", "sync/atomic.AddInt32", "(*internal/sync.Mutex).Unlock", "internal/race.ReleaseMerge", "(*internal/sync.Mutex).unlockSlow", "internal/sync.fatal", "internal/sync.runtime_Semrelease", "sync/atomic.CompareAndSwapInt64"], unfollowed := true, recurses := true, apart := false }
def SrcNumbersSaid : Prop := srcNumbersRow.holds Try.pinned (OpenSpec.ofChange srcNumbersSpec)

/-- ITS FALSE NEIGHBOUR: 'it returns false'. Refute it at one input. -/
def srcNumbersWrong : ChangeSpec := { name := "srcNumbers", fn := fun _ => fun
  | [d1, d2, d3, d4] => { results := [.lit (.bool false)], args := [d1, d2, d3, d4] }
  | _ => none }
def SrcNumbersWrongFalsely : Prop := srcNumbersRow.holds Try.pinned (OpenSpec.ofChange srcNumbersWrong)

/-- 'tintypelaw06.BitsSame': WHATEVER THE INPUT: true; the input reads as it did. -/
def bitsSameSpec : ChangeSpec := { name := "bitsSame", fn := fun _ => fun
  | [d1, d2, d3] => { results := [.lit (.bool true)], args := [d1, d2, d3] }
  | _ => none }
def bitsSameRow : OpenClaim := { program := "ytobpocdpnkicnaa", sum := "c48ab13d2545fa383add77dc89d3f1fae507298a7725765f8b2616da116652c0", func := "tintype/tintypelaw06.BitsSame", spec := "bitsSame", inPlace := ["sync/atomic.LoadUint32", "sync/atomic.LoadInt64", "sync/atomic.StoreUint32", "(*internal/sync.Mutex).Lock", "internal/race.Disable", "sync/atomic.CompareAndSwapInt32", "internal/race.Enable", "internal/race.Acquire", "(*internal/sync.Mutex).lockSlow", "internal/sync.runtime_canSpin", "internal/sync.runtime_doSpin", "internal/sync.throw", "internal/sync.runtime_nanotime", "internal/sync.runtime_SemacquireMutex", "sync/atomic.AddInt32", "(*internal/sync.Mutex).Unlock", "internal/race.ReleaseMerge", "(*internal/sync.Mutex).unlockSlow", "internal/sync.fatal", "internal/sync.runtime_Semrelease", "sync/atomic.CompareAndSwapInt64"], unfollowed := true, recurses := true, apart := false }
def BitsSameSaid : Prop := bitsSameRow.holds Try.pinned (OpenSpec.ofChange bitsSameSpec)

/-- ITS FALSE NEIGHBOUR: 'it returns false'. Refute it at one input. -/
def bitsSameWrong : ChangeSpec := { name := "bitsSame", fn := fun _ => fun
  | [d1, d2, d3] => { results := [.lit (.bool false)], args := [d1, d2, d3] }
  | _ => none }
def BitsSameWrongFalsely : Prop := bitsSameRow.holds Try.pinned (OpenSpec.ofChange bitsSameWrong)

/-- 'tintypelaw06.BitsPlays': WHATEVER THE INPUT: true; the input reads as it did. -/
def bitsPlaysSpec : ChangeSpec := { name := "bitsPlays", fn := fun _ => fun
  | [d1, d2, d3] => { results := [.lit (.bool true)], args := [d1, d2, d3] }
  | _ => none }
def bitsPlaysRow : OpenClaim := { program := "ytobpocdpnkicnaa", sum := "c48ab13d2545fa383add77dc89d3f1fae507298a7725765f8b2616da116652c0", func := "tintype/tintypelaw06.BitsPlays", spec := "bitsPlays", inPlace := ["sync/atomic.LoadUint32", "sync/atomic.LoadInt64", "sync/atomic.StoreUint32", "(*internal/sync.Mutex).Lock", "internal/race.Disable", "sync/atomic.CompareAndSwapInt32", "internal/race.Enable", "internal/race.Acquire", "(*internal/sync.Mutex).lockSlow", "internal/sync.runtime_canSpin", "internal/sync.runtime_doSpin", "internal/sync.throw", "internal/sync.runtime_nanotime", "internal/sync.runtime_SemacquireMutex", "sync/atomic.AddInt32", "(*internal/sync.Mutex).Unlock", "internal/race.ReleaseMerge", "(*internal/sync.Mutex).unlockSlow", "internal/sync.fatal", "internal/sync.runtime_Semrelease", "sync/atomic.CompareAndSwapInt64"], unfollowed := true, recurses := true, apart := false }
def BitsPlaysSaid : Prop := bitsPlaysRow.holds Try.pinned (OpenSpec.ofChange bitsPlaysSpec)

/-- ITS FALSE NEIGHBOUR: 'it returns false'. Refute it at one input. -/
def bitsPlaysWrong : ChangeSpec := { name := "bitsPlays", fn := fun _ => fun
  | [d1, d2, d3] => { results := [.lit (.bool false)], args := [d1, d2, d3] }
  | _ => none }
def BitsPlaysWrongFalsely : Prop := bitsPlaysRow.holds Try.pinned (OpenSpec.ofChange bitsPlaysWrong)

/-- 'tintypelaw05.SrcPlays': WHATEVER THE INPUT: true; the input reads as it did. -/
def srcPlaysSpec : ChangeSpec := { name := "srcPlays", fn := fun _ => fun
  | [d1, d2, d3, d4] => { results := [.lit (.bool true)], args := [d1, d2, d3, d4] }
  | _ => none }
def srcPlaysRow : OpenClaim := { program := "ytobpocdpnkicnaa", sum := "c48ab13d2545fa383add77dc89d3f1fae507298a7725765f8b2616da116652c0", func := "tintype/tintypelaw05.SrcPlays", spec := "srcPlays", inPlace := ["sync/atomic.LoadUint32", "sync/atomic.LoadInt64", "sync/atomic.StoreUint32", "(*internal/sync.Mutex).Lock", "internal/race.Disable", "sync/atomic.CompareAndSwapInt32", "internal/race.Enable", "internal/race.Acquire", "(*internal/sync.Mutex).lockSlow", "internal/sync.runtime_canSpin", "internal/sync.runtime_doSpin", "internal/sync.throw", "internal/sync.runtime_nanotime", "internal/sync.runtime_SemacquireMutex", "sync/atomic.AddInt32", "(*internal/sync.Mutex).Unlock", "internal/race.ReleaseMerge", "(*internal/sync.Mutex).unlockSlow", "internal/sync.fatal", "internal/sync.runtime_Semrelease", "sync/atomic.CompareAndSwapInt64"], unfollowed := true, recurses := true, apart := false }
def SrcPlaysSaid : Prop := srcPlaysRow.holds Try.pinned (OpenSpec.ofChange srcPlaysSpec)

/-- ITS FALSE NEIGHBOUR: 'it returns false'. Refute it at one input. -/
def srcPlaysWrong : ChangeSpec := { name := "srcPlays", fn := fun _ => fun
  | [d1, d2, d3, d4] => { results := [.lit (.bool false)], args := [d1, d2, d3, d4] }
  | _ => none }
def SrcPlaysWrongFalsely : Prop := srcPlaysRow.holds Try.pinned (OpenSpec.ofChange srcPlaysWrong)

/- THE SECOND FORM. 'bulk': how many values and letters a reading holds, each counted each time it is reached (what is shared counts as often as it is met; a slice's spare places count too). A statement '..UptoSaid' is the law's where the arguments, and the package variables that the reading takes, are together of bulk at most 1048576: NARROWER than '..Said'. Prove '..Said' where nothing that the law and all that it calls make is longer than what came in: it says more and counts as full. Else prove '..UptoSaid'. A law counts once. -/
mutual
def uptoBulk {H : Type} : DataW H → Nat
  | .lit (.string bytes) => bytes.length + 1
  | .lit _ => 1
  | .nil => 1
  | .ptr d => uptoBulk d + 1
  | .slice elems spare => uptoBulkAll elems + uptoBulkAll spare + 1
  | .agg parts => uptoBulkAll parts + 1
  | .iface _ d => uptoBulk d + 1
  | .map entries => uptoBulkEntries entries + 1
  | .held _ => 1
def uptoBulkAll {H : Type} : List (DataW H) → Nat
  | [] => 0
  | d :: r => uptoBulk d + uptoBulkAll r
def uptoBulkEntries {H : Type} : List (Lit × DataW H) → Nat
  | [] => 0
  | x :: r => uptoBulkEntry x + uptoBulkEntries r
def uptoBulkEntry {H : Type} : Lit × DataW H → Nat
  | (.string bytes, d) => bytes.length + uptoBulk d + 1
  | (_, d) => uptoBulk d + 1
 end
def uptoSmall : (H : Type) → List (DataW H) → Bool := fun _ ds => decide (uptoBulkAll ds ≤ 1048576)
def OpenSpec.upto (s : _root_.Go.ChangeSpec) : _root_.Go.OpenSpec := { _root_.Go.OpenSpec.ofChange s with cond := some uptoSmall }

/-- 'tintypelaw22.DibrlePacks', WHERE WHAT IT READS IS OF BULK AT MOST 1048576: true; the input reads as it did. -/
def dibrlePacksUptoRow : OpenClaim := { program := "ytobpocdpnkicnaa", sum := "c48ab13d2545fa383add77dc89d3f1fae507298a7725765f8b2616da116652c0", func := "tintype/tintypelaw22.DibrlePacks", spec := "dibrlePacks", apart := false, narrowed := true }
def DibrlePacksUptoSaid : Prop := dibrlePacksUptoRow.holds Try.pinned (OpenSpec.upto dibrlePacksSpec)

/-- 'tintypelaw21.DibrowPacks', WHERE WHAT IT READS IS OF BULK AT MOST 1048576: true; the input reads as it did. -/
def dibrowPacksUptoRow : OpenClaim := { program := "ytobpocdpnkicnaa", sum := "c48ab13d2545fa383add77dc89d3f1fae507298a7725765f8b2616da116652c0", func := "tintype/tintypelaw21.DibrowPacks", spec := "dibrowPacks", apart := false, narrowed := true }
def DibrowPacksUptoSaid : Prop := dibrowPacksUptoRow.holds Try.pinned (OpenSpec.upto dibrowPacksSpec)

/-- 'tintypelaw09.MaskCommon', WHERE WHAT IT READS IS OF BULK AT MOST 1048576: true; the input reads as it did. -/
def maskCommonUptoRow : OpenClaim := { program := "ytobpocdpnkicnaa", sum := "c48ab13d2545fa383add77dc89d3f1fae507298a7725765f8b2616da116652c0", func := "tintype/tintypelaw09.MaskCommon", spec := "maskCommon", apart := false, narrowed := true }
def MaskCommonUptoSaid : Prop := maskCommonUptoRow.holds Try.pinned (OpenSpec.upto maskCommonSpec)

/-- 'tintypelaw09.MaskFinds', WHERE WHAT IT READS IS OF BULK AT MOST 1048576: true; the input reads as it did. -/
def maskFindsUptoRow : OpenClaim := { program := "ytobpocdpnkicnaa", sum := "c48ab13d2545fa383add77dc89d3f1fae507298a7725765f8b2616da116652c0", func := "tintype/tintypelaw09.MaskFinds", spec := "maskFinds", apart := false, narrowed := true }
def MaskFindsUptoSaid : Prop := maskFindsUptoRow.holds Try.pinned (OpenSpec.upto maskFindsSpec)

/-- 'tintypelaw09.MaskFives', WHERE WHAT IT READS IS OF BULK AT MOST 1048576: true; the input reads as it did. -/
def maskFivesUptoRow : OpenClaim := { program := "ytobpocdpnkicnaa", sum := "c48ab13d2545fa383add77dc89d3f1fae507298a7725765f8b2616da116652c0", func := "tintype/tintypelaw09.MaskFives", spec := "maskFives", apart := false, narrowed := true }
def MaskFivesUptoSaid : Prop := maskFivesUptoRow.holds Try.pinned (OpenSpec.upto maskFivesSpec)

/-- 'tintypelaw09.MaskFours', WHERE WHAT IT READS IS OF BULK AT MOST 1048576: true; the input reads as it did. -/
def maskFoursUptoRow : OpenClaim := { program := "ytobpocdpnkicnaa", sum := "c48ab13d2545fa383add77dc89d3f1fae507298a7725765f8b2616da116652c0", func := "tintype/tintypelaw09.MaskFours", spec := "maskFours", apart := false, narrowed := true }
def MaskFoursUptoSaid : Prop := maskFoursUptoRow.holds Try.pinned (OpenSpec.upto maskFoursSpec)

/-- 'tintypelaw09.MaskWords', WHERE WHAT IT READS IS OF BULK AT MOST 1048576: true; the input reads as it did. -/
def maskWordsUptoRow : OpenClaim := { program := "ytobpocdpnkicnaa", sum := "c48ab13d2545fa383add77dc89d3f1fae507298a7725765f8b2616da116652c0", func := "tintype/tintypelaw09.MaskWords", spec := "maskWords", apart := false, narrowed := true }
def MaskWordsUptoSaid : Prop := maskWordsUptoRow.holds Try.pinned (OpenSpec.upto maskWordsSpec)

/-- 'tintypelaw05.SrcWindows', WHERE WHAT IT READS IS OF BULK AT MOST 1048576: true; the input reads as it did. -/
def srcWindowsUptoRow : OpenClaim := { program := "ytobpocdpnkicnaa", sum := "c48ab13d2545fa383add77dc89d3f1fae507298a7725765f8b2616da116652c0", func := "tintype/tintypelaw05.SrcWindows", spec := "srcWindows", inPlace := ["sync/atomic.LoadUint32", "sync/atomic.LoadInt64", "sync/atomic.StoreUint32", "(*internal/sync.Mutex).Lock", "internal/race.Disable", "sync/atomic.CompareAndSwapInt32", "internal/race.Enable", "internal/race.Acquire", "(*internal/sync.Mutex).lockSlow", "internal/sync.runtime_canSpin", "internal/sync.runtime_doSpin", "internal/sync.throw", "internal/sync.runtime_nanotime", "internal/sync.runtime_SemacquireMutex", "sync/atomic.AddInt32", "(*internal/sync.Mutex).Unlock", "internal/race.ReleaseMerge", "(*internal/sync.Mutex).unlockSlow", "internal/sync.fatal", "internal/sync.runtime_Semrelease", "sync/atomic.CompareAndSwapInt64"], unfollowed := true, recurses := true, apart := false, narrowed := true }
def SrcWindowsUptoSaid : Prop := srcWindowsUptoRow.holds Try.pinned (OpenSpec.upto srcWindowsSpec)

/-- 'tintypelaw05.SrcNumbers', WHERE WHAT IT READS IS OF BULK AT MOST 1048576: true; the input reads as it did. -/
def srcNumbersUptoRow : OpenClaim := { program := "ytobpocdpnkicnaa", sum := "c48ab13d2545fa383add77dc89d3f1fae507298a7725765f8b2616da116652c0", func := "tintype/tintypelaw05.SrcNumbers", spec := "srcNumbers", inPlace := ["sync/atomic.LoadUint32", "sync/atomic.LoadInt64", "sync/atomic.StoreUint32", "(*internal/sync.Mutex).Lock", "internal/race.Disable", "sync/atomic.CompareAndSwapInt32", "internal/race.Enable", "internal/race.Acquire", "(*internal/sync.Mutex).lockSlow", "internal/sync.runtime_canSpin", "internal/sync.runtime_doSpin", "internal/sync.throw", "internal/sync.runtime_nanotime", "internal/sync.runtime_SemacquireMutex", "sync/atomic.AddInt32", "(*internal/sync.Mutex).Unlock", "internal/race.ReleaseMerge", "(*internal/sync.Mutex).unlockSlow", "internal/sync.fatal", "internal/sync.runtime_Semrelease", "sync/atomic.CompareAndSwapInt64"], unfollowed := true, recurses := true, apart := false, narrowed := true }
def SrcNumbersUptoSaid : Prop := srcNumbersUptoRow.holds Try.pinned (OpenSpec.upto srcNumbersSpec)

/-- 'tintypelaw06.BitsSame', WHERE WHAT IT READS IS OF BULK AT MOST 1048576: true; the input reads as it did. -/
def bitsSameUptoRow : OpenClaim := { program := "ytobpocdpnkicnaa", sum := "c48ab13d2545fa383add77dc89d3f1fae507298a7725765f8b2616da116652c0", func := "tintype/tintypelaw06.BitsSame", spec := "bitsSame", inPlace := ["sync/atomic.LoadUint32", "sync/atomic.LoadInt64", "sync/atomic.StoreUint32", "(*internal/sync.Mutex).Lock", "internal/race.Disable", "sync/atomic.CompareAndSwapInt32", "internal/race.Enable", "internal/race.Acquire", "(*internal/sync.Mutex).lockSlow", "internal/sync.runtime_canSpin", "internal/sync.runtime_doSpin", "internal/sync.throw", "internal/sync.runtime_nanotime", "internal/sync.runtime_SemacquireMutex", "sync/atomic.AddInt32", "(*internal/sync.Mutex).Unlock", "internal/race.ReleaseMerge", "(*internal/sync.Mutex).unlockSlow", "internal/sync.fatal", "internal/sync.runtime_Semrelease", "sync/atomic.CompareAndSwapInt64"], unfollowed := true, recurses := true, apart := false, narrowed := true }
def BitsSameUptoSaid : Prop := bitsSameUptoRow.holds Try.pinned (OpenSpec.upto bitsSameSpec)

/-- 'tintypelaw06.BitsPlays', WHERE WHAT IT READS IS OF BULK AT MOST 1048576: true; the input reads as it did. -/
def bitsPlaysUptoRow : OpenClaim := { program := "ytobpocdpnkicnaa", sum := "c48ab13d2545fa383add77dc89d3f1fae507298a7725765f8b2616da116652c0", func := "tintype/tintypelaw06.BitsPlays", spec := "bitsPlays", inPlace := ["sync/atomic.LoadUint32", "sync/atomic.LoadInt64", "sync/atomic.StoreUint32", "(*internal/sync.Mutex).Lock", "internal/race.Disable", "sync/atomic.CompareAndSwapInt32", "internal/race.Enable", "internal/race.Acquire", "(*internal/sync.Mutex).lockSlow", "internal/sync.runtime_canSpin", "internal/sync.runtime_doSpin", "internal/sync.throw", "internal/sync.runtime_nanotime", "internal/sync.runtime_SemacquireMutex", "sync/atomic.AddInt32", "(*internal/sync.Mutex).Unlock", "internal/race.ReleaseMerge", "(*internal/sync.Mutex).unlockSlow", "internal/sync.fatal", "internal/sync.runtime_Semrelease", "sync/atomic.CompareAndSwapInt64"], unfollowed := true, recurses := true, apart := false, narrowed := true }
def BitsPlaysUptoSaid : Prop := bitsPlaysUptoRow.holds Try.pinned (OpenSpec.upto bitsPlaysSpec)

/-- 'tintypelaw05.SrcPlays', WHERE WHAT IT READS IS OF BULK AT MOST 1048576: true; the input reads as it did. -/
def srcPlaysUptoRow : OpenClaim := { program := "ytobpocdpnkicnaa", sum := "c48ab13d2545fa383add77dc89d3f1fae507298a7725765f8b2616da116652c0", func := "tintype/tintypelaw05.SrcPlays", spec := "srcPlays", inPlace := ["sync/atomic.LoadUint32", "sync/atomic.LoadInt64", "sync/atomic.StoreUint32", "(*internal/sync.Mutex).Lock", "internal/race.Disable", "sync/atomic.CompareAndSwapInt32", "internal/race.Enable", "internal/race.Acquire", "(*internal/sync.Mutex).lockSlow", "internal/sync.runtime_canSpin", "internal/sync.runtime_doSpin", "internal/sync.throw", "internal/sync.runtime_nanotime", "internal/sync.runtime_SemacquireMutex", "sync/atomic.AddInt32", "(*internal/sync.Mutex).Unlock", "internal/race.ReleaseMerge", "(*internal/sync.Mutex).unlockSlow", "internal/sync.fatal", "internal/sync.runtime_Semrelease", "sync/atomic.CompareAndSwapInt64"], unfollowed := true, recurses := true, apart := false, narrowed := true }
def SrcPlaysUptoSaid : Prop := srcPlaysUptoRow.holds Try.pinned (OpenSpec.upto srcPlaysSpec)

end Rows
end Go.Proofs.Ytobpocdpnkicnaa

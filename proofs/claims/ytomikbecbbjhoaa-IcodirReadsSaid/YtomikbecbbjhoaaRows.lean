/-
  No cell of these rows narrows 'for every input' (looked for: loops, veiled, ifaces, maps, wideKeys, modest, calm, conditions, laid).
  DERIVED. THE GIVEN ROWS OF THIS SEAT. 12 by the template 'for every input the law returns true; each argument reads behind the call as it read before'; 0 by the template 'total and deterministic' (their statements: YtomikbecbbjhoaaTotals.lean).
  GIVEN WITH THE SEED: the statements are not yours to turn. If you find one false, say at which input.
  Laid BY PROGRAM, IN A SANDBOX (cutbox-rows.mjs): the forced cells as the released guide's own fill.sh prints them over the translation 1004da4663a835df… (all of the seat's roots in one cut). By AI agents, Wed Nov 11 2026. No macro, syntax, notation, axiom, sorry.
-/
import Derived.Test.YtomikbecbbjhoaaChecked
import GoSem.Claim
import GoSem.ClaimJoined
import GoSem.ClaimMapViews
import Derived.JoinedTies
import Derived.KernelRfl
namespace Go.Proofs.Ytomikbecbbjhoaa
/- THE CELL 'sum', in the pinned program and in every row, IS THE sha256 OF THE DUMP (.gsa) THAT YtomikbecbbjhoaaProg.lean LOADS. Nothing in Lean hashes anything: it is a label: what it is worth is what the hold of that sum in a sandbox is worth. -/
noncomputable def Try.pinned : Pinned := { name := "ytomikbecbbjhoaa", sum := "1004da4663a835df6f3cf718ee890fdcfc0463237aab64675c23abb17805fb12", checked := Try.checked }
namespace Rows
def none {H : Type} : Left H := { results := [], args := [] }

/-- 'tintypelaw30.SniffFormats': WHATEVER THE INPUT: true; the input reads as it did. -/
def sniffFormatsSpec : ChangeSpec := { name := "sniffFormats", fn := fun _ => fun
  | [d1, d2] => { results := [.lit (.bool true)], args := [d1, d2] }
  | _ => none }
def sniffFormatsRow : OpenClaim := { program := "ytomikbecbbjhoaa", sum := "1004da4663a835df6f3cf718ee890fdcfc0463237aab64675c23abb17805fb12", func := "tintype/tintypelaw30.SniffFormats", spec := "sniffFormats", unfollowed := true, recurses := true, apart := false }
def SniffFormatsSaid : Prop := sniffFormatsRow.holds Try.pinned (OpenSpec.ofChange sniffFormatsSpec)

/-- ITS FALSE NEIGHBOUR: 'it returns false'. Refute it at one input. -/
def sniffFormatsWrong : ChangeSpec := { name := "sniffFormats", fn := fun _ => fun
  | [d1, d2] => { results := [.lit (.bool false)], args := [d1, d2] }
  | _ => none }
def SniffFormatsWrongFalsely : Prop := sniffFormatsRow.holds Try.pinned (OpenSpec.ofChange sniffFormatsWrong)

/-- 'tintypelaw30.SniffNames': WHATEVER THE INPUT: true; the input reads as it did. -/
def sniffNamesSpec : ChangeSpec := { name := "sniffNames", fn := fun _ => fun
  | [d1, d2] => { results := [.lit (.bool true)], args := [d1, d2] }
  | _ => none }
def sniffNamesRow : OpenClaim := { program := "ytomikbecbbjhoaa", sum := "1004da4663a835df6f3cf718ee890fdcfc0463237aab64675c23abb17805fb12", func := "tintype/tintypelaw30.SniffNames", spec := "sniffNames", unfollowed := true, recurses := true, apart := false }
def SniffNamesSaid : Prop := sniffNamesRow.holds Try.pinned (OpenSpec.ofChange sniffNamesSpec)

/-- ITS FALSE NEIGHBOUR: 'it returns false'. Refute it at one input. -/
def sniffNamesWrong : ChangeSpec := { name := "sniffNames", fn := fun _ => fun
  | [d1, d2] => { results := [.lit (.bool false)], args := [d1, d2] }
  | _ => none }
def SniffNamesWrongFalsely : Prop := sniffNamesRow.holds Try.pinned (OpenSpec.ofChange sniffNamesWrong)

/-- 'tintypelaw30.SniffStops': WHATEVER THE INPUT: true; the input reads as it did. -/
def sniffStopsSpec : ChangeSpec := { name := "sniffStops", fn := fun _ => fun
  | [d] => { results := [.lit (.bool true)], args := [d] }
  | _ => none }
def sniffStopsRow : OpenClaim := { program := "ytomikbecbbjhoaa", sum := "1004da4663a835df6f3cf718ee890fdcfc0463237aab64675c23abb17805fb12", func := "tintype/tintypelaw30.SniffStops", spec := "sniffStops", unfollowed := true, recurses := true, apart := false }
def SniffStopsSaid : Prop := sniffStopsRow.holds Try.pinned (OpenSpec.ofChange sniffStopsSpec)

/-- ITS FALSE NEIGHBOUR: 'it returns false'. Refute it at one input. -/
def sniffStopsWrong : ChangeSpec := { name := "sniffStops", fn := fun _ => fun
  | [d] => { results := [.lit (.bool false)], args := [d] }
  | _ => none }
def SniffStopsWrongFalsely : Prop := sniffStopsRow.holds Try.pinned (OpenSpec.ofChange sniffStopsWrong)

/-- 'tintypelaw16.TgaheadReads': WHATEVER THE INPUT: true; the input reads as it did. -/
def tgaheadReadsSpec : ChangeSpec := { name := "tgaheadReads", fn := fun _ => fun
  | [d1, d2] => { results := [.lit (.bool true)], args := [d1, d2] }
  | _ => none }
def tgaheadReadsRow : OpenClaim := { program := "ytomikbecbbjhoaa", sum := "1004da4663a835df6f3cf718ee890fdcfc0463237aab64675c23abb17805fb12", func := "tintype/tintypelaw16.TgaheadReads", spec := "tgaheadReads", inPlace := ["sync/atomic.LoadUint32", "sync/atomic.LoadInt64", "sync/atomic.StoreUint32", "(*internal/sync.Mutex).Lock", "internal/race.Disable", "sync/atomic.CompareAndSwapInt32", "internal/race.Enable", "internal/race.Acquire", "(*internal/sync.Mutex).lockSlow", "internal/sync.runtime_canSpin", "internal/sync.runtime_doSpin", "internal/sync.throw", "internal/sync.runtime_nanotime", "internal/sync.runtime_SemacquireMutex", "sync/atomic.AddInt32", "(*internal/sync.Mutex).Unlock", "internal/race.ReleaseMerge", "(*internal/sync.Mutex).unlockSlow", "internal/sync.fatal", "internal/sync.runtime_Semrelease", "sync/atomic.CompareAndSwapInt64"], unfollowed := true, recurses := true, apart := false }
def TgaheadReadsSaid : Prop := tgaheadReadsRow.holds Try.pinned (OpenSpec.ofChange tgaheadReadsSpec)

/-- ITS FALSE NEIGHBOUR: 'it returns false'. Refute it at one input. -/
def tgaheadReadsWrong : ChangeSpec := { name := "tgaheadReads", fn := fun _ => fun
  | [d1, d2] => { results := [.lit (.bool false)], args := [d1, d2] }
  | _ => none }
def TgaheadReadsWrongFalsely : Prop := tgaheadReadsRow.holds Try.pinned (OpenSpec.ofChange tgaheadReadsWrong)

/-- 'tintypelaw16.TgaheadBytes': WHATEVER THE INPUT: true; the input reads as it did. -/
def tgaheadBytesSpec : ChangeSpec := { name := "tgaheadBytes", fn := fun _ => fun
  | [d] => { results := [.lit (.bool true)], args := [d] }
  | _ => none }
def tgaheadBytesRow : OpenClaim := { program := "ytomikbecbbjhoaa", sum := "1004da4663a835df6f3cf718ee890fdcfc0463237aab64675c23abb17805fb12", func := "tintype/tintypelaw16.TgaheadBytes", spec := "tgaheadBytes", inPlace := ["sync/atomic.LoadUint32", "sync/atomic.LoadInt64", "sync/atomic.StoreUint32", "(*internal/sync.Mutex).Lock", "internal/race.Disable", "sync/atomic.CompareAndSwapInt32", "internal/race.Enable", "internal/race.Acquire", "(*internal/sync.Mutex).lockSlow", "internal/sync.runtime_canSpin", "internal/sync.runtime_doSpin", "internal/sync.throw", "internal/sync.runtime_nanotime", "internal/sync.runtime_SemacquireMutex", "sync/atomic.AddInt32", "(*internal/sync.Mutex).Unlock", "internal/race.ReleaseMerge", "(*internal/sync.Mutex).unlockSlow", "internal/sync.fatal", "internal/sync.runtime_Semrelease", "sync/atomic.CompareAndSwapInt64"], unfollowed := true, recurses := true, apart := false }
def TgaheadBytesSaid : Prop := tgaheadBytesRow.holds Try.pinned (OpenSpec.ofChange tgaheadBytesSpec)

/-- ITS FALSE NEIGHBOUR: 'it returns false'. Refute it at one input. -/
def tgaheadBytesWrong : ChangeSpec := { name := "tgaheadBytes", fn := fun _ => fun
  | [d] => { results := [.lit (.bool false)], args := [d] }
  | _ => none }
def TgaheadBytesWrongFalsely : Prop := tgaheadBytesRow.holds Try.pinned (OpenSpec.ofChange tgaheadBytesWrong)

/-- 'tintypelaw16.TgaheadBack': WHATEVER THE INPUT: true; the input reads as it did. -/
def tgaheadBackSpec : ChangeSpec := { name := "tgaheadBack", fn := fun _ => fun
  | [d] => { results := [.lit (.bool true)], args := [d] }
  | _ => none }
def tgaheadBackRow : OpenClaim := { program := "ytomikbecbbjhoaa", sum := "1004da4663a835df6f3cf718ee890fdcfc0463237aab64675c23abb17805fb12", func := "tintype/tintypelaw16.TgaheadBack", spec := "tgaheadBack", inPlace := ["sync/atomic.LoadUint32", "sync/atomic.LoadInt64", "sync/atomic.StoreUint32", "(*internal/sync.Mutex).Lock", "internal/race.Disable", "sync/atomic.CompareAndSwapInt32", "internal/race.Enable", "internal/race.Acquire", "(*internal/sync.Mutex).lockSlow", "internal/sync.runtime_canSpin", "internal/sync.runtime_doSpin", "internal/sync.throw", "internal/sync.runtime_nanotime", "internal/sync.runtime_SemacquireMutex", "sync/atomic.AddInt32", "(*internal/sync.Mutex).Unlock", "internal/race.ReleaseMerge", "(*internal/sync.Mutex).unlockSlow", "internal/sync.fatal", "internal/sync.runtime_Semrelease", "sync/atomic.CompareAndSwapInt64"], unfollowed := true, recurses := true, apart := false }
def TgaheadBackSaid : Prop := tgaheadBackRow.holds Try.pinned (OpenSpec.ofChange tgaheadBackSpec)

/-- ITS FALSE NEIGHBOUR: 'it returns false'. Refute it at one input. -/
def tgaheadBackWrong : ChangeSpec := { name := "tgaheadBack", fn := fun _ => fun
  | [d] => { results := [.lit (.bool false)], args := [d] }
  | _ => none }
def TgaheadBackWrongFalsely : Prop := tgaheadBackRow.holds Try.pinned (OpenSpec.ofChange tgaheadBackWrong)

/-- 'tintypelaw24.IcodirReads': WHATEVER THE INPUT: true; the input reads as it did. -/
def icodirReadsSpec : ChangeSpec := { name := "icodirReads", fn := fun _ => fun
  | [d1, d2] => { results := [.lit (.bool true)], args := [d1, d2] }
  | _ => none }
def icodirReadsRow : OpenClaim := { program := "ytomikbecbbjhoaa", sum := "1004da4663a835df6f3cf718ee890fdcfc0463237aab64675c23abb17805fb12", func := "tintype/tintypelaw24.IcodirReads", spec := "icodirReads", inPlace := ["sync/atomic.LoadUint32", "sync/atomic.LoadInt64", "sync/atomic.StoreUint32", "(*internal/sync.Mutex).Lock", "internal/race.Disable", "sync/atomic.CompareAndSwapInt32", "internal/race.Enable", "internal/race.Acquire", "(*internal/sync.Mutex).lockSlow", "internal/sync.runtime_canSpin", "internal/sync.runtime_doSpin", "internal/sync.throw", "internal/sync.runtime_nanotime", "internal/sync.runtime_SemacquireMutex", "sync/atomic.AddInt32", "(*internal/sync.Mutex).Unlock", "internal/race.ReleaseMerge", "(*internal/sync.Mutex).unlockSlow", "internal/sync.fatal", "internal/sync.runtime_Semrelease", "sync/atomic.CompareAndSwapInt64"], unfollowed := true, recurses := true, apart := false }
def IcodirReadsSaid : Prop := icodirReadsRow.holds Try.pinned (OpenSpec.ofChange icodirReadsSpec)

/-- ITS FALSE NEIGHBOUR: 'it returns false'. Refute it at one input. -/
def icodirReadsWrong : ChangeSpec := { name := "icodirReads", fn := fun _ => fun
  | [d1, d2] => { results := [.lit (.bool false)], args := [d1, d2] }
  | _ => none }
def IcodirReadsWrongFalsely : Prop := icodirReadsRow.holds Try.pinned (OpenSpec.ofChange icodirReadsWrong)

/-- 'tintypelaw24.IcodirGets': WHATEVER THE INPUT: true; the input reads as it did. -/
def icodirGetsSpec : ChangeSpec := { name := "icodirGets", fn := fun _ => fun
  | [d1, d2] => { results := [.lit (.bool true)], args := [d1, d2] }
  | _ => none }
def icodirGetsRow : OpenClaim := { program := "ytomikbecbbjhoaa", sum := "1004da4663a835df6f3cf718ee890fdcfc0463237aab64675c23abb17805fb12", func := "tintype/tintypelaw24.IcodirGets", spec := "icodirGets", inPlace := ["sync/atomic.LoadUint32", "sync/atomic.LoadInt64", "sync/atomic.StoreUint32", "(*internal/sync.Mutex).Lock", "internal/race.Disable", "sync/atomic.CompareAndSwapInt32", "internal/race.Enable", "internal/race.Acquire", "(*internal/sync.Mutex).lockSlow", "internal/sync.runtime_canSpin", "internal/sync.runtime_doSpin", "internal/sync.throw", "internal/sync.runtime_nanotime", "internal/sync.runtime_SemacquireMutex", "sync/atomic.AddInt32", "(*internal/sync.Mutex).Unlock", "internal/race.ReleaseMerge", "(*internal/sync.Mutex).unlockSlow", "internal/sync.fatal", "internal/sync.runtime_Semrelease", "sync/atomic.CompareAndSwapInt64"], unfollowed := true, recurses := true, apart := false }
def IcodirGetsSaid : Prop := icodirGetsRow.holds Try.pinned (OpenSpec.ofChange icodirGetsSpec)

/-- ITS FALSE NEIGHBOUR: 'it returns false'. Refute it at one input. -/
def icodirGetsWrong : ChangeSpec := { name := "icodirGets", fn := fun _ => fun
  | [d1, d2] => { results := [.lit (.bool false)], args := [d1, d2] }
  | _ => none }
def IcodirGetsWrongFalsely : Prop := icodirGetsRow.holds Try.pinned (OpenSpec.ofChange icodirGetsWrong)

/-- 'tintypelaw24.IcodirBytes': WHATEVER THE INPUT: true; the input reads as it did. -/
def icodirBytesSpec : ChangeSpec := { name := "icodirBytes", fn := fun _ => fun
  | [d1, d2] => { results := [.lit (.bool true)], args := [d1, d2] }
  | _ => none }
def icodirBytesRow : OpenClaim := { program := "ytomikbecbbjhoaa", sum := "1004da4663a835df6f3cf718ee890fdcfc0463237aab64675c23abb17805fb12", func := "tintype/tintypelaw24.IcodirBytes", spec := "icodirBytes", inPlace := ["sync/atomic.LoadUint32", "sync/atomic.LoadInt64", "sync/atomic.StoreUint32", "(*internal/sync.Mutex).Lock", "internal/race.Disable", "sync/atomic.CompareAndSwapInt32", "internal/race.Enable", "internal/race.Acquire", "(*internal/sync.Mutex).lockSlow", "internal/sync.runtime_canSpin", "internal/sync.runtime_doSpin", "internal/sync.throw", "internal/sync.runtime_nanotime", "internal/sync.runtime_SemacquireMutex", "sync/atomic.AddInt32", "(*internal/sync.Mutex).Unlock", "internal/race.ReleaseMerge", "(*internal/sync.Mutex).unlockSlow", "internal/sync.fatal", "internal/sync.runtime_Semrelease", "sync/atomic.CompareAndSwapInt64"], unfollowed := true, recurses := true, apart := false }
def IcodirBytesSaid : Prop := icodirBytesRow.holds Try.pinned (OpenSpec.ofChange icodirBytesSpec)

/-- ITS FALSE NEIGHBOUR: 'it returns false'. Refute it at one input. -/
def icodirBytesWrong : ChangeSpec := { name := "icodirBytes", fn := fun _ => fun
  | [d1, d2] => { results := [.lit (.bool false)], args := [d1, d2] }
  | _ => none }
def IcodirBytesWrongFalsely : Prop := icodirBytesRow.holds Try.pinned (OpenSpec.ofChange icodirBytesWrong)

/-- 'tintypelaw20.DibheadKnown': WHATEVER THE INPUT: true; the input reads as it did. -/
def dibheadKnownSpec : ChangeSpec := { name := "dibheadKnown", fn := fun _ => fun
  | [d] => { results := [.lit (.bool true)], args := [d] }
  | _ => none }
def dibheadKnownRow : OpenClaim := { program := "ytomikbecbbjhoaa", sum := "1004da4663a835df6f3cf718ee890fdcfc0463237aab64675c23abb17805fb12", func := "tintype/tintypelaw20.DibheadKnown", spec := "dibheadKnown", inPlace := ["sync/atomic.LoadUint32", "sync/atomic.LoadInt64", "sync/atomic.StoreUint32", "(*internal/sync.Mutex).Lock", "internal/race.Disable", "sync/atomic.CompareAndSwapInt32", "internal/race.Enable", "internal/race.Acquire", "(*internal/sync.Mutex).lockSlow", "internal/sync.runtime_canSpin", "internal/sync.runtime_doSpin", "internal/sync.throw", "internal/sync.runtime_nanotime", "internal/sync.runtime_SemacquireMutex", "sync/atomic.AddInt32", "(*internal/sync.Mutex).Unlock", "internal/race.ReleaseMerge", "(*internal/sync.Mutex).unlockSlow", "internal/sync.fatal", "internal/sync.runtime_Semrelease", "sync/atomic.CompareAndSwapInt64"], unfollowed := true, recurses := true, apart := false }
def DibheadKnownSaid : Prop := dibheadKnownRow.holds Try.pinned (OpenSpec.ofChange dibheadKnownSpec)

/-- ITS FALSE NEIGHBOUR: 'it returns false'. Refute it at one input. -/
def dibheadKnownWrong : ChangeSpec := { name := "dibheadKnown", fn := fun _ => fun
  | [d] => { results := [.lit (.bool false)], args := [d] }
  | _ => none }
def DibheadKnownWrongFalsely : Prop := dibheadKnownRow.holds Try.pinned (OpenSpec.ofChange dibheadKnownWrong)

/-- 'tintypelaw20.DibheadReads': WHATEVER THE INPUT: true; the input reads as it did. -/
def dibheadReadsSpec : ChangeSpec := { name := "dibheadReads", fn := fun _ => fun
  | [d1, d2, d3] => { results := [.lit (.bool true)], args := [d1, d2, d3] }
  | _ => none }
def dibheadReadsRow : OpenClaim := { program := "ytomikbecbbjhoaa", sum := "1004da4663a835df6f3cf718ee890fdcfc0463237aab64675c23abb17805fb12", func := "tintype/tintypelaw20.DibheadReads", spec := "dibheadReads", inPlace := ["sync/atomic.LoadUint32", "sync/atomic.LoadInt64", "sync/atomic.StoreUint32", "(*internal/sync.Mutex).Lock", "internal/race.Disable", "sync/atomic.CompareAndSwapInt32", "internal/race.Enable", "internal/race.Acquire", "(*internal/sync.Mutex).lockSlow", "internal/sync.runtime_canSpin", "internal/sync.runtime_doSpin", "internal/sync.throw", "internal/sync.runtime_nanotime", "internal/sync.runtime_SemacquireMutex", "sync/atomic.AddInt32", "(*internal/sync.Mutex).Unlock", "internal/race.ReleaseMerge", "(*internal/sync.Mutex).unlockSlow", "internal/sync.fatal", "internal/sync.runtime_Semrelease", "sync/atomic.CompareAndSwapInt64"], unfollowed := true, recurses := true, apart := false }
def DibheadReadsSaid : Prop := dibheadReadsRow.holds Try.pinned (OpenSpec.ofChange dibheadReadsSpec)

/-- ITS FALSE NEIGHBOUR: 'it returns false'. Refute it at one input. -/
def dibheadReadsWrong : ChangeSpec := { name := "dibheadReads", fn := fun _ => fun
  | [d1, d2, d3] => { results := [.lit (.bool false)], args := [d1, d2, d3] }
  | _ => none }
def DibheadReadsWrongFalsely : Prop := dibheadReadsRow.holds Try.pinned (OpenSpec.ofChange dibheadReadsWrong)

/-- 'tintypelaw20.DibheadBytes': WHATEVER THE INPUT: true; the input reads as it did. -/
def dibheadBytesSpec : ChangeSpec := { name := "dibheadBytes", fn := fun _ => fun
  | [d] => { results := [.lit (.bool true)], args := [d] }
  | _ => none }
def dibheadBytesRow : OpenClaim := { program := "ytomikbecbbjhoaa", sum := "1004da4663a835df6f3cf718ee890fdcfc0463237aab64675c23abb17805fb12", func := "tintype/tintypelaw20.DibheadBytes", spec := "dibheadBytes", inPlace := ["sync/atomic.LoadUint32", "sync/atomic.LoadInt64", "sync/atomic.StoreUint32", "(*internal/sync.Mutex).Lock", "internal/race.Disable", "sync/atomic.CompareAndSwapInt32", "internal/race.Enable", "internal/race.Acquire", "(*internal/sync.Mutex).lockSlow", "internal/sync.runtime_canSpin", "internal/sync.runtime_doSpin", "internal/sync.throw", "internal/sync.runtime_nanotime", "internal/sync.runtime_SemacquireMutex", "sync/atomic.AddInt32", "(*internal/sync.Mutex).Unlock", "internal/race.ReleaseMerge", "(*internal/sync.Mutex).unlockSlow", "internal/sync.fatal", "internal/sync.runtime_Semrelease", "sync/atomic.CompareAndSwapInt64"], unfollowed := true, recurses := true, apart := false }
def DibheadBytesSaid : Prop := dibheadBytesRow.holds Try.pinned (OpenSpec.ofChange dibheadBytesSpec)

/-- ITS FALSE NEIGHBOUR: 'it returns false'. Refute it at one input. -/
def dibheadBytesWrong : ChangeSpec := { name := "dibheadBytes", fn := fun _ => fun
  | [d] => { results := [.lit (.bool false)], args := [d] }
  | _ => none }
def DibheadBytesWrongFalsely : Prop := dibheadBytesRow.holds Try.pinned (OpenSpec.ofChange dibheadBytesWrong)

/- THE SECOND FORM. 'bulk': how many values and letters a reading holds, each counted each time it is reached (what is shared counts as often as it is met; a slice's spare places count too). A statement '..UptoSaid' is the law's where the arguments, and the package variables that the reading takes, are together of bulk at most 1048576: NARROWER than '..Said'. Prove '..Said' where nothing that the law and all that it calls make is longer than what came in: it says more and counts as full. Else prove '..UptoSaid'. A law counts once. -/
mutual
def uptoBulk {H : Type} : DataW H → Nat
  | .lit (.string bytes) => bytes.length + 1
  | .lit _ => 1
  | .nil => 1
  | .ptr d => uptoBulk d + 1
  | .slice elems spare => uptoBulkAll elems + uptoBulkAll spare + 1
  | .agg parts => uptoBulkAll parts + 1
  | .iface _ d => uptoBulk d + 1
  | .map entries => uptoBulkEntries entries + 1
  | .held _ => 1
def uptoBulkAll {H : Type} : List (DataW H) → Nat
  | [] => 0
  | d :: r => uptoBulk d + uptoBulkAll r
def uptoBulkEntries {H : Type} : List (Lit × DataW H) → Nat
  | [] => 0
  | x :: r => uptoBulkEntry x + uptoBulkEntries r
def uptoBulkEntry {H : Type} : Lit × DataW H → Nat
  | (.string bytes, d) => bytes.length + uptoBulk d + 1
  | (_, d) => uptoBulk d + 1
 end
def uptoSmall : (H : Type) → List (DataW H) → Bool := fun _ ds => decide (uptoBulkAll ds ≤ 1048576)
def OpenSpec.upto (s : _root_.Go.ChangeSpec) : _root_.Go.OpenSpec := { _root_.Go.OpenSpec.ofChange s with cond := some uptoSmall }

/-- 'tintypelaw30.SniffFormats', WHERE WHAT IT READS IS OF BULK AT MOST 1048576: true; the input reads as it did. -/
def sniffFormatsUptoRow : OpenClaim := { program := "ytomikbecbbjhoaa", sum := "1004da4663a835df6f3cf718ee890fdcfc0463237aab64675c23abb17805fb12", func := "tintype/tintypelaw30.SniffFormats", spec := "sniffFormats", unfollowed := true, recurses := true, apart := false, narrowed := true }
def SniffFormatsUptoSaid : Prop := sniffFormatsUptoRow.holds Try.pinned (OpenSpec.upto sniffFormatsSpec)

/-- 'tintypelaw30.SniffNames', WHERE WHAT IT READS IS OF BULK AT MOST 1048576: true; the input reads as it did. -/
def sniffNamesUptoRow : OpenClaim := { program := "ytomikbecbbjhoaa", sum := "1004da4663a835df6f3cf718ee890fdcfc0463237aab64675c23abb17805fb12", func := "tintype/tintypelaw30.SniffNames", spec := "sniffNames", unfollowed := true, recurses := true, apart := false, narrowed := true }
def SniffNamesUptoSaid : Prop := sniffNamesUptoRow.holds Try.pinned (OpenSpec.upto sniffNamesSpec)

/-- 'tintypelaw30.SniffStops', WHERE WHAT IT READS IS OF BULK AT MOST 1048576: true; the input reads as it did. -/
def sniffStopsUptoRow : OpenClaim := { program := "ytomikbecbbjhoaa", sum := "1004da4663a835df6f3cf718ee890fdcfc0463237aab64675c23abb17805fb12", func := "tintype/tintypelaw30.SniffStops", spec := "sniffStops", unfollowed := true, recurses := true, apart := false, narrowed := true }
def SniffStopsUptoSaid : Prop := sniffStopsUptoRow.holds Try.pinned (OpenSpec.upto sniffStopsSpec)

/-- 'tintypelaw16.TgaheadReads', WHERE WHAT IT READS IS OF BULK AT MOST 1048576: true; the input reads as it did. -/
def tgaheadReadsUptoRow : OpenClaim := { program := "ytomikbecbbjhoaa", sum := "1004da4663a835df6f3cf718ee890fdcfc0463237aab64675c23abb17805fb12", func := "tintype/tintypelaw16.TgaheadReads", spec := "tgaheadReads", inPlace := ["sync/atomic.LoadUint32", "sync/atomic.LoadInt64", "sync/atomic.StoreUint32", "(*internal/sync.Mutex).Lock", "internal/race.Disable", "sync/atomic.CompareAndSwapInt32", "internal/race.Enable", "internal/race.Acquire", "(*internal/sync.Mutex).lockSlow", "internal/sync.runtime_canSpin", "internal/sync.runtime_doSpin", "internal/sync.throw", "internal/sync.runtime_nanotime", "internal/sync.runtime_SemacquireMutex", "sync/atomic.AddInt32", "(*internal/sync.Mutex).Unlock", "internal/race.ReleaseMerge", "(*internal/sync.Mutex).unlockSlow", "internal/sync.fatal", "internal/sync.runtime_Semrelease", "sync/atomic.CompareAndSwapInt64"], unfollowed := true, recurses := true, apart := false, narrowed := true }
def TgaheadReadsUptoSaid : Prop := tgaheadReadsUptoRow.holds Try.pinned (OpenSpec.upto tgaheadReadsSpec)

/-- 'tintypelaw16.TgaheadBytes', WHERE WHAT IT READS IS OF BULK AT MOST 1048576: true; the input reads as it did. -/
def tgaheadBytesUptoRow : OpenClaim := { program := "ytomikbecbbjhoaa", sum := "1004da4663a835df6f3cf718ee890fdcfc0463237aab64675c23abb17805fb12", func := "tintype/tintypelaw16.TgaheadBytes", spec := "tgaheadBytes", inPlace := ["sync/atomic.LoadUint32", "sync/atomic.LoadInt64", "sync/atomic.StoreUint32", "(*internal/sync.Mutex).Lock", "internal/race.Disable", "sync/atomic.CompareAndSwapInt32", "internal/race.Enable", "internal/race.Acquire", "(*internal/sync.Mutex).lockSlow", "internal/sync.runtime_canSpin", "internal/sync.runtime_doSpin", "internal/sync.throw", "internal/sync.runtime_nanotime", "internal/sync.runtime_SemacquireMutex", "sync/atomic.AddInt32", "(*internal/sync.Mutex).Unlock", "internal/race.ReleaseMerge", "(*internal/sync.Mutex).unlockSlow", "internal/sync.fatal", "internal/sync.runtime_Semrelease", "sync/atomic.CompareAndSwapInt64"], unfollowed := true, recurses := true, apart := false, narrowed := true }
def TgaheadBytesUptoSaid : Prop := tgaheadBytesUptoRow.holds Try.pinned (OpenSpec.upto tgaheadBytesSpec)

/-- 'tintypelaw16.TgaheadBack', WHERE WHAT IT READS IS OF BULK AT MOST 1048576: true; the input reads as it did. -/
def tgaheadBackUptoRow : OpenClaim := { program := "ytomikbecbbjhoaa", sum := "1004da4663a835df6f3cf718ee890fdcfc0463237aab64675c23abb17805fb12", func := "tintype/tintypelaw16.TgaheadBack", spec := "tgaheadBack", inPlace := ["sync/atomic.LoadUint32", "sync/atomic.LoadInt64", "sync/atomic.StoreUint32", "(*internal/sync.Mutex).Lock", "internal/race.Disable", "sync/atomic.CompareAndSwapInt32", "internal/race.Enable", "internal/race.Acquire", "(*internal/sync.Mutex).lockSlow", "internal/sync.runtime_canSpin", "internal/sync.runtime_doSpin", "internal/sync.throw", "internal/sync.runtime_nanotime", "internal/sync.runtime_SemacquireMutex", "sync/atomic.AddInt32", "(*internal/sync.Mutex).Unlock", "internal/race.ReleaseMerge", "(*internal/sync.Mutex).unlockSlow", "internal/sync.fatal", "internal/sync.runtime_Semrelease", "sync/atomic.CompareAndSwapInt64"], unfollowed := true, recurses := true, apart := false, narrowed := true }
def TgaheadBackUptoSaid : Prop := tgaheadBackUptoRow.holds Try.pinned (OpenSpec.upto tgaheadBackSpec)

/-- 'tintypelaw24.IcodirReads', WHERE WHAT IT READS IS OF BULK AT MOST 1048576: true; the input reads as it did. -/
def icodirReadsUptoRow : OpenClaim := { program := "ytomikbecbbjhoaa", sum := "1004da4663a835df6f3cf718ee890fdcfc0463237aab64675c23abb17805fb12", func := "tintype/tintypelaw24.IcodirReads", spec := "icodirReads", inPlace := ["sync/atomic.LoadUint32", "sync/atomic.LoadInt64", "sync/atomic.StoreUint32", "(*internal/sync.Mutex).Lock", "internal/race.Disable", "sync/atomic.CompareAndSwapInt32", "internal/race.Enable", "internal/race.Acquire", "(*internal/sync.Mutex).lockSlow", "internal/sync.runtime_canSpin", "internal/sync.runtime_doSpin", "internal/sync.throw", "internal/sync.runtime_nanotime", "internal/sync.runtime_SemacquireMutex", "sync/atomic.AddInt32", "(*internal/sync.Mutex).Unlock", "internal/race.ReleaseMerge", "(*internal/sync.Mutex).unlockSlow", "internal/sync.fatal", "internal/sync.runtime_Semrelease", "sync/atomic.CompareAndSwapInt64"], unfollowed := true, recurses := true, apart := false, narrowed := true }
def IcodirReadsUptoSaid : Prop := icodirReadsUptoRow.holds Try.pinned (OpenSpec.upto icodirReadsSpec)

/-- 'tintypelaw24.IcodirGets', WHERE WHAT IT READS IS OF BULK AT MOST 1048576: true; the input reads as it did. -/
def icodirGetsUptoRow : OpenClaim := { program := "ytomikbecbbjhoaa", sum := "1004da4663a835df6f3cf718ee890fdcfc0463237aab64675c23abb17805fb12", func := "tintype/tintypelaw24.IcodirGets", spec := "icodirGets", inPlace := ["sync/atomic.LoadUint32", "sync/atomic.LoadInt64", "sync/atomic.StoreUint32", "(*internal/sync.Mutex).Lock", "internal/race.Disable", "sync/atomic.CompareAndSwapInt32", "internal/race.Enable", "internal/race.Acquire", "(*internal/sync.Mutex).lockSlow", "internal/sync.runtime_canSpin", "internal/sync.runtime_doSpin", "internal/sync.throw", "internal/sync.runtime_nanotime", "internal/sync.runtime_SemacquireMutex", "sync/atomic.AddInt32", "(*internal/sync.Mutex).Unlock", "internal/race.ReleaseMerge", "(*internal/sync.Mutex).unlockSlow", "internal/sync.fatal", "internal/sync.runtime_Semrelease", "sync/atomic.CompareAndSwapInt64"], unfollowed := true, recurses := true, apart := false, narrowed := true }
def IcodirGetsUptoSaid : Prop := icodirGetsUptoRow.holds Try.pinned (OpenSpec.upto icodirGetsSpec)

/-- 'tintypelaw24.IcodirBytes', WHERE WHAT IT READS IS OF BULK AT MOST 1048576: true; the input reads as it did. -/
def icodirBytesUptoRow : OpenClaim := { program := "ytomikbecbbjhoaa", sum := "1004da4663a835df6f3cf718ee890fdcfc0463237aab64675c23abb17805fb12", func := "tintype/tintypelaw24.IcodirBytes", spec := "icodirBytes", inPlace := ["sync/atomic.LoadUint32", "sync/atomic.LoadInt64", "sync/atomic.StoreUint32", "(*internal/sync.Mutex).Lock", "internal/race.Disable", "sync/atomic.CompareAndSwapInt32", "internal/race.Enable", "internal/race.Acquire", "(*internal/sync.Mutex).lockSlow", "internal/sync.runtime_canSpin", "internal/sync.runtime_doSpin", "internal/sync.throw", "internal/sync.runtime_nanotime", "internal/sync.runtime_SemacquireMutex", "sync/atomic.AddInt32", "(*internal/sync.Mutex).Unlock", "internal/race.ReleaseMerge", "(*internal/sync.Mutex).unlockSlow", "internal/sync.fatal", "internal/sync.runtime_Semrelease", "sync/atomic.CompareAndSwapInt64"], unfollowed := true, recurses := true, apart := false, narrowed := true }
def IcodirBytesUptoSaid : Prop := icodirBytesUptoRow.holds Try.pinned (OpenSpec.upto icodirBytesSpec)

/-- 'tintypelaw20.DibheadKnown', WHERE WHAT IT READS IS OF BULK AT MOST 1048576: true; the input reads as it did. -/
def dibheadKnownUptoRow : OpenClaim := { program := "ytomikbecbbjhoaa", sum := "1004da4663a835df6f3cf718ee890fdcfc0463237aab64675c23abb17805fb12", func := "tintype/tintypelaw20.DibheadKnown", spec := "dibheadKnown", inPlace := ["sync/atomic.LoadUint32", "sync/atomic.LoadInt64", "sync/atomic.StoreUint32", "(*internal/sync.Mutex).Lock", "internal/race.Disable", "sync/atomic.CompareAndSwapInt32", "internal/race.Enable", "internal/race.Acquire", "(*internal/sync.Mutex).lockSlow", "internal/sync.runtime_canSpin", "internal/sync.runtime_doSpin", "internal/sync.throw", "internal/sync.runtime_nanotime", "internal/sync.runtime_SemacquireMutex", "sync/atomic.AddInt32", "(*internal/sync.Mutex).Unlock", "internal/race.ReleaseMerge", "(*internal/sync.Mutex).unlockSlow", "internal/sync.fatal", "internal/sync.runtime_Semrelease", "sync/atomic.CompareAndSwapInt64"], unfollowed := true, recurses := true, apart := false, narrowed := true }
def DibheadKnownUptoSaid : Prop := dibheadKnownUptoRow.holds Try.pinned (OpenSpec.upto dibheadKnownSpec)

/-- 'tintypelaw20.DibheadReads', WHERE WHAT IT READS IS OF BULK AT MOST 1048576: true; the input reads as it did. -/
def dibheadReadsUptoRow : OpenClaim := { program := "ytomikbecbbjhoaa", sum := "1004da4663a835df6f3cf718ee890fdcfc0463237aab64675c23abb17805fb12", func := "tintype/tintypelaw20.DibheadReads", spec := "dibheadReads", inPlace := ["sync/atomic.LoadUint32", "sync/atomic.LoadInt64", "sync/atomic.StoreUint32", "(*internal/sync.Mutex).Lock", "internal/race.Disable", "sync/atomic.CompareAndSwapInt32", "internal/race.Enable", "internal/race.Acquire", "(*internal/sync.Mutex).lockSlow", "internal/sync.runtime_canSpin", "internal/sync.runtime_doSpin", "internal/sync.throw", "internal/sync.runtime_nanotime", "internal/sync.runtime_SemacquireMutex", "sync/atomic.AddInt32", "(*internal/sync.Mutex).Unlock", "internal/race.ReleaseMerge", "(*internal/sync.Mutex).unlockSlow", "internal/sync.fatal", "internal/sync.runtime_Semrelease", "sync/atomic.CompareAndSwapInt64"], unfollowed := true, recurses := true, apart := false, narrowed := true }
def DibheadReadsUptoSaid : Prop := dibheadReadsUptoRow.holds Try.pinned (OpenSpec.upto dibheadReadsSpec)

/-- 'tintypelaw20.DibheadBytes', WHERE WHAT IT READS IS OF BULK AT MOST 1048576: true; the input reads as it did. -/
def dibheadBytesUptoRow : OpenClaim := { program := "ytomikbecbbjhoaa", sum := "1004da4663a835df6f3cf718ee890fdcfc0463237aab64675c23abb17805fb12", func := "tintype/tintypelaw20.DibheadBytes", spec := "dibheadBytes", inPlace := ["sync/atomic.LoadUint32", "sync/atomic.LoadInt64", "sync/atomic.StoreUint32", "(*internal/sync.Mutex).Lock", "internal/race.Disable", "sync/atomic.CompareAndSwapInt32", "internal/race.Enable", "internal/race.Acquire", "(*internal/sync.Mutex).lockSlow", "internal/sync.runtime_canSpin", "internal/sync.runtime_doSpin", "internal/sync.throw", "internal/sync.runtime_nanotime", "internal/sync.runtime_SemacquireMutex", "sync/atomic.AddInt32", "(*internal/sync.Mutex).Unlock", "internal/race.ReleaseMerge", "(*internal/sync.Mutex).unlockSlow", "internal/sync.fatal", "internal/sync.runtime_Semrelease", "sync/atomic.CompareAndSwapInt64"], unfollowed := true, recurses := true, apart := false, narrowed := true }
def DibheadBytesUptoSaid : Prop := dibheadBytesUptoRow.holds Try.pinned (OpenSpec.upto dibheadBytesSpec)

end Rows
end Go.Proofs.Ytomikbecbbjhoaa

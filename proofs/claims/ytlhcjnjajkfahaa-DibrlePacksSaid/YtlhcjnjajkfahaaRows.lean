/-
  No cell of these rows narrows 'for every input' (looked for: loops, veiled, ifaces, maps, wideKeys, modest, calm, conditions, laid).
  DERIVED. THE GIVEN ROWS OF THIS SEAT. 8 by the template 'for every input the law returns true; each argument reads behind the call as it read before'; 0 by the template 'total and deterministic' (their statements: YtlhcjnjajkfahaaTotals.lean).
  GIVEN WITH THE SEED: the statements are not yours to turn. If you find one false, say at which input.
  Laid BY PROGRAM, IN A SANDBOX (cutbox-rows.mjs): the forced cells as the released guide's own fill.sh prints them over the translation 66e7245003a2758c… (all of the seat's roots in one cut). By AI agents, Wed Nov 11 2026. No macro, syntax, notation, axiom, sorry.
-/
import Derived.Test.YtlhcjnjajkfahaaChecked
import GoSem.Claim
import GoSem.ClaimJoined
import GoSem.ClaimMapViews
import Derived.JoinedTies
import Derived.KernelRfl
namespace Go.Proofs.Ytlhcjnjajkfahaa
/- THE CELL 'sum', in the pinned program and in every row, IS THE sha256 OF THE DUMP (.gsa) THAT YtlhcjnjajkfahaaProg.lean LOADS. Nothing in Lean hashes anything: it is a label: what it is worth is what the hold of that sum in a sandbox is worth. -/
noncomputable def Try.pinned : Pinned := { name := "ytlhcjnjajkfahaa", sum := "66e7245003a2758cf408427b7738696f880c0f62ab12e75ae59efb46c4d5acfd", checked := Try.checked }
namespace Rows
def none {H : Type} : Left H := { results := [], args := [] }

/-- 'tintypelaw22.DibrlePacks': WHATEVER THE INPUT: true; the input reads as it did. -/
def dibrlePacksSpec : ChangeSpec := { name := "dibrlePacks", fn := fun _ => fun
  | [d1, d2, d3] => { results := [.lit (.bool true)], args := [d1, d2, d3] }
  | _ => none }
def dibrlePacksRow : OpenClaim := { program := "ytlhcjnjajkfahaa", sum := "66e7245003a2758cf408427b7738696f880c0f62ab12e75ae59efb46c4d5acfd", func := "tintype/tintypelaw22.DibrlePacks", spec := "dibrlePacks", apart := false }
def DibrlePacksSaid : Prop := dibrlePacksRow.holds Try.pinned (OpenSpec.ofChange dibrlePacksSpec)

/-- ITS FALSE NEIGHBOUR: 'it returns false'. Refute it at one input. -/
def dibrlePacksWrong : ChangeSpec := { name := "dibrlePacks", fn := fun _ => fun
  | [d1, d2, d3] => { results := [.lit (.bool false)], args := [d1, d2, d3] }
  | _ => none }
def DibrlePacksWrongFalsely : Prop := dibrlePacksRow.holds Try.pinned (OpenSpec.ofChange dibrlePacksWrong)

/-- 'tintypelaw30.SniffFormats': WHATEVER THE INPUT: true; the input reads as it did. -/
def sniffFormatsSpec : ChangeSpec := { name := "sniffFormats", fn := fun _ => fun
  | [d1, d2] => { results := [.lit (.bool true)], args := [d1, d2] }
  | _ => none }
def sniffFormatsRow : OpenClaim := { program := "ytlhcjnjajkfahaa", sum := "66e7245003a2758cf408427b7738696f880c0f62ab12e75ae59efb46c4d5acfd", func := "tintype/tintypelaw30.SniffFormats", spec := "sniffFormats", unfollowed := true, recurses := true, apart := false }
def SniffFormatsSaid : Prop := sniffFormatsRow.holds Try.pinned (OpenSpec.ofChange sniffFormatsSpec)

/-- ITS FALSE NEIGHBOUR: 'it returns false'. Refute it at one input. -/
def sniffFormatsWrong : ChangeSpec := { name := "sniffFormats", fn := fun _ => fun
  | [d1, d2] => { results := [.lit (.bool false)], args := [d1, d2] }
  | _ => none }
def SniffFormatsWrongFalsely : Prop := sniffFormatsRow.holds Try.pinned (OpenSpec.ofChange sniffFormatsWrong)

/-- 'tintypelaw30.SniffNames': WHATEVER THE INPUT: true; the input reads as it did. -/
def sniffNamesSpec : ChangeSpec := { name := "sniffNames", fn := fun _ => fun
  | [d1, d2] => { results := [.lit (.bool true)], args := [d1, d2] }
  | _ => none }
def sniffNamesRow : OpenClaim := { program := "ytlhcjnjajkfahaa", sum := "66e7245003a2758cf408427b7738696f880c0f62ab12e75ae59efb46c4d5acfd", func := "tintype/tintypelaw30.SniffNames", spec := "sniffNames", unfollowed := true, recurses := true, apart := false }
def SniffNamesSaid : Prop := sniffNamesRow.holds Try.pinned (OpenSpec.ofChange sniffNamesSpec)

/-- ITS FALSE NEIGHBOUR: 'it returns false'. Refute it at one input. -/
def sniffNamesWrong : ChangeSpec := { name := "sniffNames", fn := fun _ => fun
  | [d1, d2] => { results := [.lit (.bool false)], args := [d1, d2] }
  | _ => none }
def SniffNamesWrongFalsely : Prop := sniffNamesRow.holds Try.pinned (OpenSpec.ofChange sniffNamesWrong)

/-- 'tintypelaw30.SniffStops': WHATEVER THE INPUT: true; the input reads as it did. -/
def sniffStopsSpec : ChangeSpec := { name := "sniffStops", fn := fun _ => fun
  | [d] => { results := [.lit (.bool true)], args := [d] }
  | _ => none }
def sniffStopsRow : OpenClaim := { program := "ytlhcjnjajkfahaa", sum := "66e7245003a2758cf408427b7738696f880c0f62ab12e75ae59efb46c4d5acfd", func := "tintype/tintypelaw30.SniffStops", spec := "sniffStops", unfollowed := true, recurses := true, apart := false }
def SniffStopsSaid : Prop := sniffStopsRow.holds Try.pinned (OpenSpec.ofChange sniffStopsSpec)

/-- ITS FALSE NEIGHBOUR: 'it returns false'. Refute it at one input. -/
def sniffStopsWrong : ChangeSpec := { name := "sniffStops", fn := fun _ => fun
  | [d] => { results := [.lit (.bool false)], args := [d] }
  | _ => none }
def SniffStopsWrongFalsely : Prop := sniffStopsRow.holds Try.pinned (OpenSpec.ofChange sniffStopsWrong)

/-- 'tintypelaw20.DibheadKnown': WHATEVER THE INPUT: true; the input reads as it did. -/
def dibheadKnownSpec : ChangeSpec := { name := "dibheadKnown", fn := fun _ => fun
  | [d] => { results := [.lit (.bool true)], args := [d] }
  | _ => none }
def dibheadKnownRow : OpenClaim := { program := "ytlhcjnjajkfahaa", sum := "66e7245003a2758cf408427b7738696f880c0f62ab12e75ae59efb46c4d5acfd", func := "tintype/tintypelaw20.DibheadKnown", spec := "dibheadKnown", inPlace := ["sync/atomic.LoadUint32", "sync/atomic.LoadInt64", "sync/atomic.StoreUint32", "(*internal/sync.Mutex).Lock", "internal/race.Disable", "sync/atomic.CompareAndSwapInt32", "internal/race.Enable", "internal/race.Acquire", "(*internal/sync.Mutex).lockSlow", "internal/sync.runtime_canSpin", "internal/sync.runtime_doSpin", "internal/sync.throw", "internal/sync.runtime_nanotime", "internal/sync.runtime_SemacquireMutex", "sync/atomic.AddInt32", "(*internal/sync.Mutex).Unlock", "internal/race.ReleaseMerge", "(*internal/sync.Mutex).unlockSlow", "internal/sync.fatal", "internal/sync.runtime_Semrelease", "sync/atomic.CompareAndSwapInt64"], unfollowed := true, recurses := true, apart := false }
def DibheadKnownSaid : Prop := dibheadKnownRow.holds Try.pinned (OpenSpec.ofChange dibheadKnownSpec)

/-- ITS FALSE NEIGHBOUR: 'it returns false'. Refute it at one input. -/
def dibheadKnownWrong : ChangeSpec := { name := "dibheadKnown", fn := fun _ => fun
  | [d] => { results := [.lit (.bool false)], args := [d] }
  | _ => none }
def DibheadKnownWrongFalsely : Prop := dibheadKnownRow.holds Try.pinned (OpenSpec.ofChange dibheadKnownWrong)

/-- 'tintypelaw20.DibheadReads': WHATEVER THE INPUT: true; the input reads as it did. -/
def dibheadReadsSpec : ChangeSpec := { name := "dibheadReads", fn := fun _ => fun
  | [d1, d2, d3] => { results := [.lit (.bool true)], args := [d1, d2, d3] }
  | _ => none }
def dibheadReadsRow : OpenClaim := { program := "ytlhcjnjajkfahaa", sum := "66e7245003a2758cf408427b7738696f880c0f62ab12e75ae59efb46c4d5acfd", func := "tintype/tintypelaw20.DibheadReads", spec := "dibheadReads", inPlace := ["sync/atomic.LoadUint32", "sync/atomic.LoadInt64", "sync/atomic.StoreUint32", "(*internal/sync.Mutex).Lock", "internal/race.Disable", "sync/atomic.CompareAndSwapInt32", "internal/race.Enable", "internal/race.Acquire", "(*internal/sync.Mutex).lockSlow", "internal/sync.runtime_canSpin", "internal/sync.runtime_doSpin", "internal/sync.throw", "internal/sync.runtime_nanotime", "internal/sync.runtime_SemacquireMutex", "sync/atomic.AddInt32", "(*internal/sync.Mutex).Unlock", "internal/race.ReleaseMerge", "(*internal/sync.Mutex).unlockSlow", "internal/sync.fatal", "internal/sync.runtime_Semrelease", "sync/atomic.CompareAndSwapInt64"], unfollowed := true, recurses := true, apart := false }
def DibheadReadsSaid : Prop := dibheadReadsRow.holds Try.pinned (OpenSpec.ofChange dibheadReadsSpec)

/-- ITS FALSE NEIGHBOUR: 'it returns false'. Refute it at one input. -/
def dibheadReadsWrong : ChangeSpec := { name := "dibheadReads", fn := fun _ => fun
  | [d1, d2, d3] => { results := [.lit (.bool false)], args := [d1, d2, d3] }
  | _ => none }
def DibheadReadsWrongFalsely : Prop := dibheadReadsRow.holds Try.pinned (OpenSpec.ofChange dibheadReadsWrong)

/-- 'tintypelaw20.DibheadBytes': WHATEVER THE INPUT: true; the input reads as it did. -/
def dibheadBytesSpec : ChangeSpec := { name := "dibheadBytes", fn := fun _ => fun
  | [d] => { results := [.lit (.bool true)], args := [d] }
  | _ => none }
def dibheadBytesRow : OpenClaim := { program := "ytlhcjnjajkfahaa", sum := "66e7245003a2758cf408427b7738696f880c0f62ab12e75ae59efb46c4d5acfd", func := "tintype/tintypelaw20.DibheadBytes", spec := "dibheadBytes", inPlace := ["sync/atomic.LoadUint32", "sync/atomic.LoadInt64", "sync/atomic.StoreUint32", "(*internal/sync.Mutex).Lock", "internal/race.Disable", "sync/atomic.CompareAndSwapInt32", "internal/race.Enable", "internal/race.Acquire", "(*internal/sync.Mutex).lockSlow", "internal/sync.runtime_canSpin", "internal/sync.runtime_doSpin", "internal/sync.throw", "internal/sync.runtime_nanotime", "internal/sync.runtime_SemacquireMutex", "sync/atomic.AddInt32", "(*internal/sync.Mutex).Unlock", "internal/race.ReleaseMerge", "(*internal/sync.Mutex).unlockSlow", "internal/sync.fatal", "internal/sync.runtime_Semrelease", "sync/atomic.CompareAndSwapInt64"], unfollowed := true, recurses := true, apart := false }
def DibheadBytesSaid : Prop := dibheadBytesRow.holds Try.pinned (OpenSpec.ofChange dibheadBytesSpec)

/-- ITS FALSE NEIGHBOUR: 'it returns false'. Refute it at one input. -/
def dibheadBytesWrong : ChangeSpec := { name := "dibheadBytes", fn := fun _ => fun
  | [d] => { results := [.lit (.bool false)], args := [d] }
  | _ => none }
def DibheadBytesWrongFalsely : Prop := dibheadBytesRow.holds Try.pinned (OpenSpec.ofChange dibheadBytesWrong)

/-- 'tintypelaw20.DibheadBack': WHATEVER THE INPUT: true; the input reads as it did. -/
def dibheadBackSpec : ChangeSpec := { name := "dibheadBack", fn := fun _ => fun
  | [d] => { results := [.lit (.bool true)], args := [d] }
  | _ => none }
def dibheadBackRow : OpenClaim := { program := "ytlhcjnjajkfahaa", sum := "66e7245003a2758cf408427b7738696f880c0f62ab12e75ae59efb46c4d5acfd", func := "tintype/tintypelaw20.DibheadBack", spec := "dibheadBack", inPlace := ["sync/atomic.LoadUint32", "sync/atomic.LoadInt64", "sync/atomic.StoreUint32", "(*internal/sync.Mutex).Lock", "internal/race.Disable", "sync/atomic.CompareAndSwapInt32", "internal/race.Enable", "internal/race.Acquire", "(*internal/sync.Mutex).lockSlow", "internal/sync.runtime_canSpin", "internal/sync.runtime_doSpin", "internal/sync.throw", "internal/sync.runtime_nanotime", "internal/sync.runtime_SemacquireMutex", "sync/atomic.AddInt32", "(*internal/sync.Mutex).Unlock", "internal/race.ReleaseMerge", "(*internal/sync.Mutex).unlockSlow", "internal/sync.fatal", "internal/sync.runtime_Semrelease", "sync/atomic.CompareAndSwapInt64"], unfollowed := true, recurses := true, apart := false }
def DibheadBackSaid : Prop := dibheadBackRow.holds Try.pinned (OpenSpec.ofChange dibheadBackSpec)

/-- ITS FALSE NEIGHBOUR: 'it returns false'. Refute it at one input. -/
def dibheadBackWrong : ChangeSpec := { name := "dibheadBack", fn := fun _ => fun
  | [d] => { results := [.lit (.bool false)], args := [d] }
  | _ => none }
def DibheadBackWrongFalsely : Prop := dibheadBackRow.holds Try.pinned (OpenSpec.ofChange dibheadBackWrong)

/- THE SECOND FORM. 'bulk': how many values and letters a reading holds, each counted each time it is reached (what is shared counts as often as it is met; a slice's spare places count too). A statement '..UptoSaid' is the law's where the arguments, and the package variables that the reading takes, are together of bulk at most 1048576: NARROWER than '..Said'. Prove '..Said' where nothing that the law and all that it calls make is longer than what came in: it says more and counts as full. Else prove '..UptoSaid'. A law counts once. -/
mutual
def uptoBulk {H : Type} : DataW H → Nat
  | .lit (.string bytes) => bytes.length + 1
  | .lit _ => 1
  | .nil => 1
  | .ptr d => uptoBulk d + 1
  | .slice elems spare => uptoBulkAll elems + uptoBulkAll spare + 1
  | .agg parts => uptoBulkAll parts + 1
  | .iface _ d => uptoBulk d + 1
  | .map entries => uptoBulkEntries entries + 1
  | .held _ => 1
def uptoBulkAll {H : Type} : List (DataW H) → Nat
  | [] => 0
  | d :: r => uptoBulk d + uptoBulkAll r
def uptoBulkEntries {H : Type} : List (Lit × DataW H) → Nat
  | [] => 0
  | x :: r => uptoBulkEntry x + uptoBulkEntries r
def uptoBulkEntry {H : Type} : Lit × DataW H → Nat
  | (.string bytes, d) => bytes.length + uptoBulk d + 1
  | (_, d) => uptoBulk d + 1
 end
def uptoSmall : (H : Type) → List (DataW H) → Bool := fun _ ds => decide (uptoBulkAll ds ≤ 1048576)
def OpenSpec.upto (s : _root_.Go.ChangeSpec) : _root_.Go.OpenSpec := { _root_.Go.OpenSpec.ofChange s with cond := some uptoSmall }

/-- 'tintypelaw22.DibrlePacks', WHERE WHAT IT READS IS OF BULK AT MOST 1048576: true; the input reads as it did. -/
def dibrlePacksUptoRow : OpenClaim := { program := "ytlhcjnjajkfahaa", sum := "66e7245003a2758cf408427b7738696f880c0f62ab12e75ae59efb46c4d5acfd", func := "tintype/tintypelaw22.DibrlePacks", spec := "dibrlePacks", apart := false, narrowed := true }
def DibrlePacksUptoSaid : Prop := dibrlePacksUptoRow.holds Try.pinned (OpenSpec.upto dibrlePacksSpec)

/-- 'tintypelaw30.SniffFormats', WHERE WHAT IT READS IS OF BULK AT MOST 1048576: true; the input reads as it did. -/
def sniffFormatsUptoRow : OpenClaim := { program := "ytlhcjnjajkfahaa", sum := "66e7245003a2758cf408427b7738696f880c0f62ab12e75ae59efb46c4d5acfd", func := "tintype/tintypelaw30.SniffFormats", spec := "sniffFormats", unfollowed := true, recurses := true, apart := false, narrowed := true }
def SniffFormatsUptoSaid : Prop := sniffFormatsUptoRow.holds Try.pinned (OpenSpec.upto sniffFormatsSpec)

/-- 'tintypelaw30.SniffNames', WHERE WHAT IT READS IS OF BULK AT MOST 1048576: true; the input reads as it did. -/
def sniffNamesUptoRow : OpenClaim := { program := "ytlhcjnjajkfahaa", sum := "66e7245003a2758cf408427b7738696f880c0f62ab12e75ae59efb46c4d5acfd", func := "tintype/tintypelaw30.SniffNames", spec := "sniffNames", unfollowed := true, recurses := true, apart := false, narrowed := true }
def SniffNamesUptoSaid : Prop := sniffNamesUptoRow.holds Try.pinned (OpenSpec.upto sniffNamesSpec)

/-- 'tintypelaw30.SniffStops', WHERE WHAT IT READS IS OF BULK AT MOST 1048576: true; the input reads as it did. -/
def sniffStopsUptoRow : OpenClaim := { program := "ytlhcjnjajkfahaa", sum := "66e7245003a2758cf408427b7738696f880c0f62ab12e75ae59efb46c4d5acfd", func := "tintype/tintypelaw30.SniffStops", spec := "sniffStops", unfollowed := true, recurses := true, apart := false, narrowed := true }
def SniffStopsUptoSaid : Prop := sniffStopsUptoRow.holds Try.pinned (OpenSpec.upto sniffStopsSpec)

/-- 'tintypelaw20.DibheadKnown', WHERE WHAT IT READS IS OF BULK AT MOST 1048576: true; the input reads as it did. -/
def dibheadKnownUptoRow : OpenClaim := { program := "ytlhcjnjajkfahaa", sum := "66e7245003a2758cf408427b7738696f880c0f62ab12e75ae59efb46c4d5acfd", func := "tintype/tintypelaw20.DibheadKnown", spec := "dibheadKnown", inPlace := ["sync/atomic.LoadUint32", "sync/atomic.LoadInt64", "sync/atomic.StoreUint32", "(*internal/sync.Mutex).Lock", "internal/race.Disable", "sync/atomic.CompareAndSwapInt32", "internal/race.Enable", "internal/race.Acquire", "(*internal/sync.Mutex).lockSlow", "internal/sync.runtime_canSpin", "internal/sync.runtime_doSpin", "internal/sync.throw", "internal/sync.runtime_nanotime", "internal/sync.runtime_SemacquireMutex", "sync/atomic.AddInt32", "(*internal/sync.Mutex).Unlock", "internal/race.ReleaseMerge", "(*internal/sync.Mutex).unlockSlow", "internal/sync.fatal", "internal/sync.runtime_Semrelease", "sync/atomic.CompareAndSwapInt64"], unfollowed := true, recurses := true, apart := false, narrowed := true }
def DibheadKnownUptoSaid : Prop := dibheadKnownUptoRow.holds Try.pinned (OpenSpec.upto dibheadKnownSpec)

/-- 'tintypelaw20.DibheadReads', WHERE WHAT IT READS IS OF BULK AT MOST 1048576: true; the input reads as it did. -/
def dibheadReadsUptoRow : OpenClaim := { program := "ytlhcjnjajkfahaa", sum := "66e7245003a2758cf408427b7738696f880c0f62ab12e75ae59efb46c4d5acfd", func := "tintype/tintypelaw20.DibheadReads", spec := "dibheadReads", inPlace := ["sync/atomic.LoadUint32", "sync/atomic.LoadInt64", "sync/atomic.StoreUint32", "(*internal/sync.Mutex).Lock", "internal/race.Disable", "sync/atomic.CompareAndSwapInt32", "internal/race.Enable", "internal/race.Acquire", "(*internal/sync.Mutex).lockSlow", "internal/sync.runtime_canSpin", "internal/sync.runtime_doSpin", "internal/sync.throw", "internal/sync.runtime_nanotime", "internal/sync.runtime_SemacquireMutex", "sync/atomic.AddInt32", "(*internal/sync.Mutex).Unlock", "internal/race.ReleaseMerge", "(*internal/sync.Mutex).unlockSlow", "internal/sync.fatal", "internal/sync.runtime_Semrelease", "sync/atomic.CompareAndSwapInt64"], unfollowed := true, recurses := true, apart := false, narrowed := true }
def DibheadReadsUptoSaid : Prop := dibheadReadsUptoRow.holds Try.pinned (OpenSpec.upto dibheadReadsSpec)

/-- 'tintypelaw20.DibheadBytes', WHERE WHAT IT READS IS OF BULK AT MOST 1048576: true; the input reads as it did. -/
def dibheadBytesUptoRow : OpenClaim := { program := "ytlhcjnjajkfahaa", sum := "66e7245003a2758cf408427b7738696f880c0f62ab12e75ae59efb46c4d5acfd", func := "tintype/tintypelaw20.DibheadBytes", spec := "dibheadBytes", inPlace := ["sync/atomic.LoadUint32", "sync/atomic.LoadInt64", "sync/atomic.StoreUint32", "(*internal/sync.Mutex).Lock", "internal/race.Disable", "sync/atomic.CompareAndSwapInt32", "internal/race.Enable", "internal/race.Acquire", "(*internal/sync.Mutex).lockSlow", "internal/sync.runtime_canSpin", "internal/sync.runtime_doSpin", "internal/sync.throw", "internal/sync.runtime_nanotime", "internal/sync.runtime_SemacquireMutex", "sync/atomic.AddInt32", "(*internal/sync.Mutex).Unlock", "internal/race.ReleaseMerge", "(*internal/sync.Mutex).unlockSlow", "internal/sync.fatal", "internal/sync.runtime_Semrelease", "sync/atomic.CompareAndSwapInt64"], unfollowed := true, recurses := true, apart := false, narrowed := true }
def DibheadBytesUptoSaid : Prop := dibheadBytesUptoRow.holds Try.pinned (OpenSpec.upto dibheadBytesSpec)

/-- 'tintypelaw20.DibheadBack', WHERE WHAT IT READS IS OF BULK AT MOST 1048576: true; the input reads as it did. -/
def dibheadBackUptoRow : OpenClaim := { program := "ytlhcjnjajkfahaa", sum := "66e7245003a2758cf408427b7738696f880c0f62ab12e75ae59efb46c4d5acfd", func := "tintype/tintypelaw20.DibheadBack", spec := "dibheadBack", inPlace := ["sync/atomic.LoadUint32", "sync/atomic.LoadInt64", "sync/atomic.StoreUint32", "(*internal/sync.Mutex).Lock", "internal/race.Disable", "sync/atomic.CompareAndSwapInt32", "internal/race.Enable", "internal/race.Acquire", "(*internal/sync.Mutex).lockSlow", "internal/sync.runtime_canSpin", "internal/sync.runtime_doSpin", "internal/sync.throw", "internal/sync.runtime_nanotime", "internal/sync.runtime_SemacquireMutex", "sync/atomic.AddInt32", "(*internal/sync.Mutex).Unlock", "internal/race.ReleaseMerge", "(*internal/sync.Mutex).unlockSlow", "internal/sync.fatal", "internal/sync.runtime_Semrelease", "sync/atomic.CompareAndSwapInt64"], unfollowed := true, recurses := true, apart := false, narrowed := true }
def DibheadBackUptoSaid : Prop := dibheadBackUptoRow.holds Try.pinned (OpenSpec.upto dibheadBackSpec)

end Rows
end Go.Proofs.Ytlhcjnjajkfahaa

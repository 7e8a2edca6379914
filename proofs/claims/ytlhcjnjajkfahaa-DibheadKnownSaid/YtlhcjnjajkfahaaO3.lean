/- Results of which two are structs in memory. No program in sight. -/
import Derived.Test.YtlhcjnjajkfahaaO2
namespace Go.Proofs.Ytlhcjnjajkfahaa
open Go.RowKit
theorem results_cc {P : Program} {fn : Func} {p q : Tmp} {ty ty2 : TypeId} (h : fn.results = #[.cell p ty, .cell q ty2]) (tmps : Array Value) (w : World) (b b2 : Nat) (cs cs2 : List Value) (d d2 : TypeDesc)
    (hp : tmps.getD p undef = .pointer (some ⟨b, 0, none⟩)) (R : w.rangeAt b 0 cs) (hu : P.underlying ty = some d) (hd : d.isRow = true) (hi : (P.info? ty).map (·.size) = some cs.length)
    (hq : tmps.getD q undef = .pointer (some ⟨b2, 0, none⟩)) (R2 : w.rangeAt b2 0 cs2) (hu2 : P.underlying ty2 = some d2) (hd2 : d2.isRow = true) (hi2 : (P.info? ty2).map (·.size) = some cs2.length) :
    (results fn tmps).run P w = .ok (.tuple #[.agg cs.toArray, .agg cs2.toArray]) w := by
  have hp' : tmps[p]?.getD undef = .pointer (some ⟨b, 0, none⟩) := by simpa using hp
  have hq' : tmps[q]?.getD undef = .pointer (some ⟨b2, 0, none⟩) := by simpa using hq
  simp [results, h, hp', hq', asAddr, run_loadVar_mid w b 0 ty cs d R hu hd hi, run_loadVar_mid w b2 0 ty2 cs2 d2 R2 hu2 hd2 hi2]
end Go.Proofs.Ytlhcjnjajkfahaa

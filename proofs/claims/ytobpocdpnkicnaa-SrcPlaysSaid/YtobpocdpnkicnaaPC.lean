/- The law SrcPlays, joined. -/
import Derived.Test.YtobpocdpnkicnaaPB
import Derived.Test.YtobpocdpnkicnaaO1
namespace Go.Proofs.Ytobpocdpnkicnaa
open Go.RowKit
theorem opsB_of {w : World} {a : Option Addr} {n : Nat} (h : Rows64 w a n 3) : ∃ f, OpsB w a n f := by
  rcases h with h | ⟨B, o, ha, hB, hc⟩
  · exact ⟨fun _ => (0, 0, 0), Or.inl h⟩
  · refine ⟨fun i => (intAt w ⟨B, o + i * 3 + 0, none⟩, intAt w ⟨B, o + i * 3 + 1, none⟩, intAt w ⟨B, o + i * 3 + 2, none⟩), Or.inr ⟨B, o, ha, hB, fun i hi => ⟨(hc i hi 0 (by omega)).1, (hc i hi 1 (by omega)).1, (hc i hi 2 (by omega)).1⟩⟩⟩
theorem splays_law (s : ByteArray) (work : Int) (a : Option Addr) (n cap : Nat) (format : Int) {w : World} (hs : s.size ≤ maxLen) (hw : (Lit.int .i64 work).wf = true) (hr : Rows64 w a n 3 ∧ n ≤ maxLen) (_ : (Lit.int .i64 format).wf = true) (_ : World) :
    Calls Try.prog 14 #[.string s, .int .i64 work, .slice a n cap, .int .i64 format] w fun e w' => e = .returned (.bool true) ∧ Below w.heap.size w w' := by
  obtain ⟨h1, h2⟩ := hr
  unfold maxLen at hs h2
  have hw2 : work ≤ 9223372036854775807 := by
    have := (Bool.and_eq_true _ _ |>.mp hw).2
    have hb := of_decide_eq_true this
    exact hb
  obtain ⟨f, hf⟩ := opsB_of h1
  by_cases h : 300 < s.size
  · exact splays_long s work _ format w h (by omega)
  · exact splays_main s work a n cap f format w (by omega) hf (by omega) hw2
end Go.Proofs.Ytobpocdpnkicnaa

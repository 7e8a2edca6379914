/- dibrow.Pack, whole: of any slice of at most a thousand numbers, of any depth. -/
import Derived.Test.YtobpocdpnkicnaaD2
import Derived.Test.YtobpocdpnkicnaaD3
import Derived.Test.YtobpocdpnkicnaaD4
namespace Go.Proofs.Ytobpocdpnkicnaa
open Go.RowKit
set_option linter.unusedVariables false
def depthOk (d : Int) : Prop := d = 1 ∨ d = 4 ∨ d = 8 ∨ d = 16 ∨ d = 24 ∨ d = 32
theorem strOf_nil : strOf [] = ByteArray.empty := rfl
theorem packI_nil (d : Nat) : packI [] d = (ByteArray.empty, 0) := by
  rw [packI_good [] d (fun k hk => by simp at hk)]; simp [packF, padF, strOf]
set_option maxHeartbeats 1000000 in
theorem dpack_nil (a : Option Addr) (cap : Nat) (d : Int) (hd : depthOk d) (w : World) : Calls Try.prog 24 #[.slice a 0 cap, .int .i64 d] w (Packs w (ByteArray.empty, 0)) := by
  have hcv := fun W => run_convert_bytes_string (P := Try.prog) W 86 9 5 none 0 0 Try.underlying86 Try.underlying5 Try.underlying9
  have hcw : ∀ W, (convert 86 9 (.slice none 0 0)).run Try.prog W = .ok (.string ByteArray.empty) W := fun W => (hcv W).trans rfl
  clear hcv
  rcases hd with rfl | rfl | rfl | rfl | rfl | rfl
  all_goals
    go_enter Try.func24, Try.ntmps24
    go_wp2
    go_rounds 1
    go_rounds 1
    go_ret2
    exact ⟨rfl, Below.refl _ _⟩
set_option maxHeartbeats 1000000 in
theorem dpack_arg (d : Int) (hd : ¬ depthOk d) (a : Option Addr) (n cap : Nat) (w : World) : Calls Try.prog 24 #[.slice a n cap, .int .i64 d] w (Packs w (ByteArray.empty, 1)) := by
  unfold depthOk at hd
  have h1 : (d == 1) = false := by rw [beq_eq_false_iff_ne]; omega
  have h2 : (d == 4) = false := by rw [beq_eq_false_iff_ne]; omega
  have h3 : (d == 8) = false := by rw [beq_eq_false_iff_ne]; omega
  have h4 : (d == 16) = false := by rw [beq_eq_false_iff_ne]; omega
  have h5 : (d == 24) = false := by rw [beq_eq_false_iff_ne]; omega
  have h6 : (d == 32) = false := by rw [beq_eq_false_iff_ne]; omega
  clear hd
  go_enter Try.func24, Try.ntmps24
  go_wp2
  go_ret2
  exact ⟨rfl, Below.refl _ _⟩
/-- A slice of ints that came in, as the walks want it: nil, or a row. -/
def Ints (w : World) (s : Value) (l : List Int) : Prop := (∃ a cap, s = .slice a 0 cap ∧ l = []) ∨ ∃ B o cap, s = .slice (some ⟨B, o, none⟩) l.length cap ∧ B < w.heap.size ∧ ∀ i, i < l.length → w.cell? ⟨B, o + i, none⟩ = some (.int .i64 (l.getD i 0))
theorem dpack_any (l : List Int) (s : Value) (d : Nat) (w : World) (hs : Ints w s l) (hn : l.length ≤ 1000) (hd : depthOk d) : Calls Try.prog 24 #[s, .int .i64 d] w (Packs w (packI l d)) := by
  rcases hs with ⟨a, cap, rfl, rfl⟩ | ⟨B, o, cap, rfl, hB, hc⟩
  · rw [packI_nil]; exact dpack_nil a cap d hd w
  · rcases (show d = 1 ∨ d = 4 ∨ d = 8 ∨ d = 16 ∨ d = 24 ∨ d = 32 by unfold depthOk at hd; omega) with rfl | rfl | rfl | rfl | rfl | rfl
    · exact dpack_1 l B o cap w hB hn hc
    · exact dpack_4 l B o cap w hB hn hc
    · exact dpack_8 l B o cap w hB hn hc
    · exact dpack_16 l B o cap w hB hn hc
    · exact dpack_24 l B o cap w hB hn hc
    · exact dpack_32 l B o cap w hB hn hc
end Go.Proofs.Ytobpocdpnkicnaa

/- The chapter's example of layer 16, walked. -/
import Derived.Test.YtlhcjnjajkfahaaT6
import Derived.Test.YtlhcjnjajkfahaaS9
import Derived.Deep.CutRange
namespace Go.Proofs.Ytlhcjnjajkfahaa
open Go.RowKit
set_option linter.unusedVariables false
set_option linter.unusedSimpArgs false
theorem conv_str (w : World) (B n c : Nat) (l : List Int) (hn : l.length = n) (hc : w.rangeAt B 0 (l.map (Value.int .u8))) (src dst e' : TypeId) (hs : Try.prog.underlying src = some (.slice e')) (he : Try.prog.underlying e' = some (.int .u8)) (hd : Try.prog.underlying dst = some .string) :
    (convert src dst (.slice (some ⟨B, 0, none⟩) n c)).run Try.prog w = .ok (.string (strOf l)) w := by
  subst hn
  rw [run_convert_bytes_string _ src dst e' _ l.length c hs he hd]
  refine run_bytesToString _ _ l.length c l ?_
  have := run_loadCells_list (P := Try.prog) w ⟨B, 0, none⟩ (l.map (Value.int .u8)) (fun j v hv => by
    rw [Addr.add_mid]; exact hc j v hv)
  simpa using this
def z18 : ByteArray := strOf (List.replicate 18 0)
theorem z18_size : z18.size = 18 := rfl
theorem mk18 (w : World) : (Instr.makeSlice 72 (.int .i64 18) (.int .i64 18)).run Try.prog w = .ok (.slice (some ⟨w.heap.size, 0, none⟩) 18 18) (w.alloc (.cells #[.int .u8 0, .int .u8 0, .int .u8 0, .int .u8 0, .int .u8 0, .int .u8 0, .int .u8 0, .int .u8 0, .int .u8 0, .int .u8 0, .int .u8 0, .int .u8 0, .int .u8 0, .int .u8 0, .int .u8 0, .int .u8 0, .int .u8 0, .int .u8 0] 5)) := by kernel_rfl
theorem snew_c7 (L : Nat) (s : ByteArray) (l : Led) (w : World) (hs : s.size ≤ 9223372036854775807) (hL : LedAt w L l) : Calls Try.prog 68 #[.pointer (some ⟨L, 0, none⟩), .string s] w fun e w' =>
      ∃ X, e = .returned (.tuple #[.pointer (some ⟨X, 0, none⟩), .int .i64 0]) ∧ Pair w' X ⟨L, s, 0, s.size, 0⟩ l ∧ w.heap.size ≤ X ∧ Below w.heap.size w w' :=
  (snew_at L s l w hs hL).mono fun e w' ⟨X, h1, h2, h3, h4⟩ => ⟨X, h1, h2, h3, chg_none h4⟩
theorem conv18 (w : World) (B : Nat) {T : TypeId} (h : Obj1 w B #[.int .u8 0, .int .u8 0, .int .u8 0, .int .u8 0, .int .u8 0, .int .u8 0, .int .u8 0, .int .u8 0, .int .u8 0, .int .u8 0, .int .u8 0, .int .u8 0, .int .u8 0, .int .u8 0, .int .u8 0, .int .u8 0, .int .u8 0, .int .u8 0] T) : (convert 72 9 (.slice (some ⟨B, 0, none⟩) 18 18)).run Try.prog w = .ok (.string z18) w :=
  conv_str w B 18 18 (List.replicate 18 0) rfl (Obj1.range0 (cs := (List.replicate 18 0).map (Value.int .u8)) h) _ _ _ Try.underlying72 Try.underlying5 Try.underlying9
theorem tr18 (L : Nat) : tRead ⟨L, z18, 0, 18, 0⟩ (Led.new 0 0 0 9) = (zero12, [.int .i64 3, .int .i64 2, .int .i64 2]) := by kernel_rfl
end Go.Proofs.Ytlhcjnjajkfahaa

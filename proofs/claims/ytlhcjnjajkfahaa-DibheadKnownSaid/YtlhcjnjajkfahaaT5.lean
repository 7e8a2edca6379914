/- tgahead.head, walked. -/
import Derived.Test.YtlhcjnjajkfahaaT3
import Derived.Test.YtlhcjnjajkfahaaO3
import Derived.Deep.CutRange
import Derived.Deep.RegionHeld3
import Derived.Test.YtlhcjnjajkfahaaLT
namespace Go.Proofs.Ytlhcjnjajkfahaa
open Go.RowKit
set_option linter.unusedVariables false
set_option linter.unusedSimpArgs false
def RA (w : World) (L : List Value) (e : Ending) (w' : World) : Prop := e = .returned (.agg L.toArray) ∧ Below w.heap.size w w'
theorem bit16 (f : Int) (h0 : 0 ≤ f) (h1 : f < 256) : (bits .and .u8 f 16 != 0) = (f / 16 % 2 == 1) := by
  obtain ⟨k, rfl⟩ := Int.eq_ofNat_of_zero_le h0
  exact (by decide +kernel : ∀ k : Fin 256, (bits .and .u8 ((k.val : Nat) : Int) 16 != 0) = (((k.val : Nat) : Int) / 16 % 2 == 1)) ⟨k, by omega⟩
theorem bit32 (f : Int) (h0 : 0 ≤ f) (h1 : f < 256) : (bits .and .u8 f 32 != 0) = (f / 32 % 2 == 1) := by
  obtain ⟨k, rfl⟩ := Int.eq_ofNat_of_zero_le h0
  exact (by decide +kernel : ∀ k : Fin 256, (bits .and .u8 ((k.val : Nat) : Int) 32 != 0) = (((k.val : Nat) : Int) / 32 % 2 == 1)) ⟨k, by omega⟩
def headL (s : ByteArray) : List Value :=
  [.int .i64 (byN s 0), .bool (byN s 1 == 1), .int .i64 (byN s 2), .int .i64 (if (byN s 1 == 1) = true then wordN s 3 else 0), .int .i64 (if (byN s 1 == 1) = true then wordN s 5 else 0), .int .i64 (if (byN s 1 == 1) = true then byN s 7 else 0),
    .int .i64 (wordN s 12), .int .i64 (wordN s 14), .int .i64 (byN s 16), .int .i64 (byN s 17 % 16), .bool (byN s 17 / 16 % 2 == 1), .bool (byN s 17 / 32 % 2 == 1)]
end Go.Proofs.Ytlhcjnjajkfahaa

/- The reference of layer 16: Read, walked. -/
import Derived.Test.YtlhcjnjajkfahaaT3
import Derived.Deep.RegionHeld3
import Derived.Test.YtlhcjnjajkfahaaLT
namespace Go.Proofs.Ytlhcjnjajkfahaa
open Go.RowKit
set_option linter.unusedVariables false
set_option linter.unusedSimpArgs false
def rBad16 (k a : Int) : List Value := [.int .i64 0, .int .i64 0, .int .i64 0, .int .i64 0, .int .i64 0, .int .i64 0, .int .i64 0, .int .i64 0, .int .i64 0, .int .i64 0, .bool false, .bool false, .int .i64 k, .int .i64 a]
def R16 (w : World) (L : List Value) (e : Ending) (w' : World) : Prop := e = .returned (.agg L.toArray) ∧ Below w.heap.size w w'
def rHead16 (s : ByteArray) : List Value :=
  [.int .i64 (byN s 0), .int .i64 (byN s 1), .int .i64 (byN s 2), .int .i64 (if (byN s 1 == 1) = true then wordN s 3 else 0), .int .i64 (if (byN s 1 == 1) = true then wordN s 5 else 0), .int .i64 (if (byN s 1 == 1) = true then byN s 7 else 0),
    .int .i64 (wordN s 12), .int .i64 (wordN s 14), .int .i64 (byN s 16), .int .i64 (byN s 17 % 16), .bool (byN s 17 / 16 % 2 == 1), .bool (byN s 17 / 32 % 2 == 1), .int .i64 0, .int .i64 0]
def rRes16 (s : ByteArray) : List Value := if s.size < 18 then rBad16 1 s.size else match (chkS s).first with | some p => rBad16 p.1 p.2 | none => rHead16 s
theorem lo_word (s : ByteArray) (a : Nat) (h : a + 2 ≤ s.size) : loK (s.extract a (a + 2)) 2 = wordN s a := by
  unfold wordN loK loK loK
  rw [byN_ext s a (a + 2) 0 (by omega) h, byN_ext s a (a + 2) 1 (by omega) h]
  simp
theorem le_word (s : ByteArray) (a : Nat) (V : Int) (w : World) (h : a + 2 ≤ s.size) (hV : wordN s a = V) : Calls Try.prog 41 #[.string (s.extract a (a + 2))] w fun e w' => e = .returned (.int .i64 V) ∧ w' = w := by
  have hz : (s.extract a (a + 2)).size = 2 := by rw [ByteArray.size_extract]; omega
  refine (rle_any (s.extract a (a + 2)) w (by omega)).mono ?_
  rintro e w' ⟨rfl, rfl⟩
  exact ⟨ret_i (by rw [hz, lo_word s a h, hV]), rfl⟩
def resOf (o : Option (Int × Int)) (H : List Value) : List Value := match o with | some p => rBad16 p.1 p.2 | none => H
theorem resOf_if (b : Bool) (p : Int × Int) (o : Option (Int × Int)) (H : List Value) : resOf (if b = true then some p else o) H = bif b then rBad16 p.1 p.2 else resOf o H := by cases b <;> rfl
theorem rRes16_eq (s : ByteArray) (h : ¬ s.size < 18) : rRes16 s = (bif decide (1 < byN s 1) then rBad16 2 1 else bif !knownB (byN s 2) then rBad16 3 2 else bif (plainI (byN s 2) == 1) && !(byN s 1 == 1) then rBad16 2 1 else
    bif (byN s 1 == 1) && !colB (byN s 7) then rBad16 3 7 else bif (byN s 1 == 1) && wordN s 5 == 0 then rBad16 2 5 else bif wordN s 12 == 0 then rBad16 2 12 else bif decide (16384 < wordN s 12) then rBad16 3 12 else
    bif wordN s 14 == 0 then rBad16 2 14 else bif decide (16384 < wordN s 14) then rBad16 3 14 else bif !depB (byN s 2) (byN s 16) then rBad16 3 16 else bif byN s 17 / 64 != 0 then rBad16 3 17 else bif !alpB (byN s 16) (bits .and .i64 (byN s 17) 15) then rBad16 2 17 else rHead16 s) := by
  have : rRes16 s = resOf (chkS s).first (rHead16 s) := by unfold rRes16 resOf; rw [if_neg h]
  rw [this]
  simp only [Chk.first, Chk.from, resOf_if]
  rfl
theorem le_word' (s : ByteArray) (a b : Nat) (V : Int) (w : World) (hb : b = a + 2) (h : a + 2 ≤ s.size) (hV : wordN s a = V) : Calls Try.prog 41 #[.string (s.extract a b)] w fun e w' => e = .returned (.int .i64 V) ∧ w' = w := by
  subst hb; exact le_word s a V w h hV
end Go.Proofs.Ytlhcjnjajkfahaa

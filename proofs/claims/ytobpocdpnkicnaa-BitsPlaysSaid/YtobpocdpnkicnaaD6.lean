/- The plain law of dibrow.Pack: the bytes of a row are the numbers of its bits. No program in sight. -/
import Derived.Test.YtobpocdpnkicnaaB0
namespace Go.Proofs.Ytobpocdpnkicnaa
open Go.RowKit
set_option linter.unusedVariables false
/-- The first j of a number's d bits, the highest first. -/
def msbF (v : Int) (d : Nat) : Nat → List Int
  | 0 => []
  | j + 1 => msbF v d j ++ [v / 2 ^ (d - 1 - j) % 2]
theorem msbF_succ (v : Int) (d j : Nat) : msbF v d (j + 1) = msbF v d j ++ [v / 2 ^ (d - 1 - j) % 2] := rfl
theorem msbF_len (v : Int) (d j : Nat) : (msbF v d j).length = j := by induction j with | zero => rfl | succ j ih => rw [msbF_succ, List.length_append, ih]; rfl
/-- The bits of the first m bytes of a number. -/
def wideF (v : Int) : Nat → List Int
  | 0 => []
  | m + 1 => wideF v m ++ msbF (byteAt v m) 8 8
theorem wideF_succ (v : Int) (m : Nat) : wideF v (m + 1) = wideF v m ++ msbF (byteAt v m) 8 8 := rfl
def rowBits (v : Int) (d : Nat) : List Int := if 8 ≤ d then wideF v (d / 8) else msbF v d d
def bitsAcc (l : List Int) (d : Nat) : Nat → List Int
  | 0 => []
  | k + 1 => bitsAcc l d k ++ rowBits (l.getD k 0) d
theorem bitsAcc_succ (l : List Int) (d k : Nat) : bitsAcc l d (k + 1) = bitsAcc l d k ++ rowBits (l.getD k 0) d := rfl
def padBits (xs : List Int) : List Int := xs ++ List.replicate ((32 - xs.length % 32) % 32) 0
/-- The numbers of the first i groups of eight bits. -/
def outF (bs : List Int) : Nat → List Int
  | 0 => []
  | i + 1 => outF bs i ++ [numI ((bs.drop (8 * i)).take 8) false]
theorem outF_succ (bs : List Int) (i : Nat) : outF bs (i + 1) = outF bs i ++ [numI ((bs.drop (8 * i)).take 8) false] := rfl
/-- The bits of bytes. -/
def bytesBits : List Int → List Int
  | [] => []
  | b :: r => msbF b 8 8 ++ bytesBits r
theorem bytesBits_append (a b : List Int) : bytesBits (a ++ b) = bytesBits a ++ bytesBits b := by
  induction a with
  | nil => rfl
  | cons x r ih => simp [bytesBits, ih]
theorem bytesBits_len (a : List Int) : (bytesBits a).length = 8 * a.length := by
  induction a with
  | nil => rfl
  | cons x r ih => simp [bytesBits, ih, msbF_len]; omega
theorem num_list8 (a b c d e f g h : Int) : numI [a, b, c, d, e, f, g, h] false = 128 * a + 64 * b + 32 * c + 16 * d + 8 * e + 4 * f + 2 * g + h := by
  have e8 : numI [a, b, c, d, e, f, g, h] false = 2 * (2 * (2 * (2 * (2 * (2 * (2 * (2 * 0 + a) + b) + c) + d) + e) + f) + g) + h := rfl
  rw [e8]; omega
theorem msb8 (b : Int) : msbF b 8 8 = [b / 128 % 2, b / 64 % 2, b / 32 % 2, b / 16 % 2, b / 8 % 2, b / 4 % 2, b / 2 % 2, b / 1 % 2] := rfl
theorem num8 (b : Int) (h0 : 0 ≤ b) (h1 : b < 256) : numI (msbF b 8 8) false = b := by
  rw [msb8, num_list8]; omega
theorem outF_bytes (a r : List Int) (h : ∀ x ∈ a, 0 ≤ x ∧ x < 256) : ∀ i, i ≤ a.length → outF (bytesBits (a ++ r)) i = a.take i := by
  intro i
  induction i with
  | zero => intro _; simp [outF]
  | succ i ih =>
    intro hi
    rw [outF_succ, ih (by omega)]
    have e : a = a.take i ++ (a[i] :: a.drop (i + 1)) := by rw [List.getElem_cons_drop, List.take_append_drop]
    have e2 : bytesBits (a ++ r) = bytesBits (a.take i) ++ (msbF a[i] 8 8 ++ bytesBits (a.drop (i + 1) ++ r)) := by
      conv => lhs; rw [e]
      rw [List.append_assoc, bytesBits_append]; rfl
    have hl : (bytesBits (a.take i)).length = 8 * i := by rw [bytesBits_len, List.length_take, Nat.min_eq_left (by omega)]
    rw [e2, List.drop_append_of_le_length (by omega), ← hl, List.drop_length, List.nil_append, List.take_append_of_le_length (by rw [msbF_len]; omega), show (msbF a[i] 8 8).take 8 = msbF a[i] 8 8 from List.take_of_length_le (by rw [msbF_len]; omega)]
    rw [num8 _ (h _ (List.getElem_mem _)).1 (h _ (List.getElem_mem _)).2, List.take_succ_eq_append_getElem (by omega)]
end Go.Proofs.Ytobpocdpnkicnaa

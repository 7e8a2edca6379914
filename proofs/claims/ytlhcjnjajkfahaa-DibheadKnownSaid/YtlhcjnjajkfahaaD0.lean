/- Rows of numbers as bytes: what dibrow.Pack computes. No program in sight. -/
import Derived.Test.YtlhcjnjajkfahaaA2
namespace Go.Proofs.Ytlhcjnjajkfahaa
open Go.RowKit
/-- A byte of a number. -/
def byteAt (v : Int) (j : Nat) : Int := v / 2 ^ (8 * j) % 256
def bytesF (v : Int) : Nat → List Int
  | 0 => []
  | n + 1 => bytesF v n ++ [byteAt v n]
theorem bytesF_len (v : Int) (n : Nat) : (bytesF v n).length = n := by induction n with | zero => rfl | succ n ih => simp [bytesF, ih]
/-- The last byte, together with another one. -/
def orLast (xs : List Int) (y : Int) : List Int := xs.set (xs.length - 1) (bits .or .u8 (xs.getD (xs.length - 1) 0) y)
def packF (l : List Int) (d : Nat) : Nat → List Int
  | 0 => []
  | k + 1 => if 8 ≤ d then packF l d k ++ bytesF (l.getD k 0) (d / 8)
    else if k * d % 8 = 0 then packF l d k ++ [l.getD k 0 * 2 ^ (8 - d) % 256] else orLast (packF l d k) (l.getD k 0 * 2 ^ (8 - d - k * d % 8) % 256)
theorem packF_wide (l : List Int) (d k : Nat) (h : 8 ≤ d) : packF l d (k + 1) = packF l d k ++ bytesF (l.getD k 0) (d / 8) := by rw [packF, if_pos h]
theorem packF_new (l : List Int) (d k : Nat) (h : d < 8) (h2 : k * d % 8 = 0) : packF l d (k + 1) = packF l d k ++ [l.getD k 0 * 2 ^ (8 - d) % 256] := by rw [packF, if_neg (by omega), if_pos h2]
theorem packF_old (l : List Int) (d k : Nat) (h : d < 8) (h2 : k * d % 8 ≠ 0) : packF l d (k + 1) = orLast (packF l d k) (l.getD k 0 * 2 ^ (8 - d - k * d % 8) % 256) := by rw [packF, if_neg (by omega), if_neg h2]
theorem packF_len (l : List Int) (d k : Nat) (hd : d = 1 ∨ d = 4 ∨ d = 8 ∨ d = 16 ∨ d = 24 ∨ d = 32) : (packF l d k).length = (k * d + 7) / 8 := by
  induction k with
  | zero => simp [packF]
  | succ k ih =>
    by_cases h : 8 ≤ d
    · rw [packF_wide l d k h, List.length_append, bytesF_len, ih]
      rcases hd with rfl | rfl | rfl | rfl | rfl | rfl <;> omega
    · by_cases h2 : k * d % 8 = 0
      · rw [packF_new l d k (by omega) h2, List.length_append, ih, Nat.add_mul]; simp
        rcases hd with rfl | rfl | rfl | rfl | rfl | rfl <;> omega
      · rw [packF_old l d k (by omega) h2, orLast, List.length_set, ih, Nat.add_mul]
        rcases hd with rfl | rfl | rfl | rfl | rfl | rfl <;> omega
/-- Filled up with zeros to a multiple of four. -/
def padF (xs : List Int) : List Int := xs ++ List.replicate ((4 - xs.length % 4) % 4) 0
def slLen : Value → Nat
  | .slice _ n _ => n
  | _ => 0
theorem owns_shape {w : World} {base e n : Nat} {v : Value} {xs : List Value} (h : w.ownsRow base e 1 v n xs) : ∃ a cap, v = .slice a n cap := by
  obtain ⟨hl, h2⟩ := h
  rcases h2 with ⟨rfl, rfl⟩ | ⟨g', cap', cur, hv', hg, hh, hn, hc, hs, ht⟩
  · exact ⟨none, 0, rfl⟩
  · exact ⟨_, _, hv'⟩
theorem owns_eq {w : World} {base e n n' : Nat} {v : Value} {xs xs' : List Value} (h : w.ownsRow base e 1 v n xs) (hn : n = n') (hx : xs = xs') : w.ownsRow base e 1 v n' xs' := by subst hn hx; exact h
theorem bytesF_succ (v : Int) (n : Nat) : bytesF v (n + 1) = bytesF v n ++ [byteAt v n] := rfl
theorem pad_done (xs : List Int) (j : Nat) (hj : j ≤ (4 - xs.length % 4) % 4) (h : (xs.length + j) % 4 = 0) : xs ++ List.replicate j 0 = padF xs := by
  unfold padF
  rw [show j = (4 - xs.length % 4) % 4 by omega]
end Go.Proofs.Ytlhcjnjajkfahaa

/- The plain law of dibrow.Pack, further: a row's bytes have its bits. No program in sight. -/
import Derived.Test.YtobpocdpnkicnaaD6
namespace Go.Proofs.Ytobpocdpnkicnaa
open Go.RowKit
set_option linter.unusedVariables false
theorem wide_bytes (v : Int) (m : Nat) : wideF v m = bytesBits (bytesF v m) := by
  induction m with
  | zero => rfl
  | succ m ih => rw [wideF_succ, bytesF_succ, bytesBits_append, ih]; simp [bytesBits]
theorem bits_wide (l : List Int) (d : Nat) (h : 8 ≤ d) (k : Nat) : bitsAcc l d k = bytesBits (packF l d k) := by
  induction k with
  | zero => rfl
  | succ k ih => rw [bitsAcc_succ, packF_wide l d k h, bytesBits_append, ih, rowBits, if_pos h, wide_bytes]
theorem bytesF_mem (v : Int) (m : Nat) : ∀ x ∈ bytesF v m, 0 ≤ x ∧ x < 256 := by
  induction m with
  | zero => intro x hx; simp [bytesF] at hx
  | succ m ih =>
    intro x hx
    rw [bytesF_succ, List.mem_append] at hx
    rcases hx with hx | hx
    · exact ih x hx
    · simp at hx; subst hx; unfold byteAt; omega
theorem wide_mem (l : List Int) (d : Nat) (h : 8 ≤ d) (k : Nat) : ∀ x ∈ packF l d k, 0 ≤ x ∧ x < 256 := by
  induction k with
  | zero => intro x hx; simp [packF] at hx
  | succ k ih =>
    intro x hx
    rw [packF_wide l d k h, List.mem_append] at hx
    rcases hx with hx | hx
    · exact ih x hx
    · exact bytesF_mem _ _ x hx
/-- A byte of several numbers of d bits, as far as r of them. -/
def pv (l : List Int) (d base : Nat) : Nat → Int
  | 0 => 0
  | r + 1 => pv l d base r + l.getD (base + r) 0 * 2 ^ (8 - d * (r + 1))
theorem pv_succ (l : List Int) (d base r : Nat) : pv l d base (r + 1) = pv l d base r + l.getD (base + r) 0 * 2 ^ (8 - d * (r + 1)) := rfl
theorem orLast_one (P : List Int) (y z : Int) : orLast (P ++ [y]) z = P ++ [bits .or .u8 y z] := by
  unfold orLast
  simp
theorem u8_join (i : Nat) (x y : Int) (hx0 : 0 ≤ x) (hx : x % 2 ^ i = 0) (hx1 : x < 256) (hy0 : 0 ≤ y) (hy : y < 2 ^ i) (hi : i ≤ 8) : bits .or .u8 x y = x + y :=
  bits_join .u8 8 (by decide) (fun n h₀ h₁ => by rw [IntKind.wrap_u8]; omega) i x y hx0 hx (by omega) hy0 hy (by have := pow_le' hi; omega)
/-- Numbers of four bits. -/
theorem pack4 (l : List Int) (hg : ∀ i, 0 ≤ l.getD i 0 ∧ l.getD i 0 < 16) (q : Nat) : packF l 4 (2 * q + 1) = packF l 4 (2 * q) ++ [l.getD (2 * q) 0 * 16] ∧ packF l 4 (2 * q + 2) = packF l 4 (2 * q) ++ [l.getD (2 * q) 0 * 16 + l.getD (2 * q + 1) 0] := by
  have g0 := hg (2 * q)
  have g1 := hg (2 * q + 1)
  have e1 : packF l 4 (2 * q + 1) = packF l 4 (2 * q) ++ [l.getD (2 * q) 0 * 16] := by
    rw [packF_new l 4 (2 * q) (by decide) (by omega)]
    rw [show l.getD (2 * q) 0 * 2 ^ (8 - 4) % 256 = l.getD (2 * q) 0 * 16 by rw [show (2 : Int) ^ (8 - 4) = 16 by decide]; omega]
  refine ⟨e1, ?_⟩
  rw [packF_old l 4 (2 * q + 1) (by decide) (by omega), e1, orLast_one, show (2 * q + 1) * 4 % 8 = 4 by omega]
  rw [show l.getD (2 * q + 1) 0 * 2 ^ (8 - 4 - 4) % 256 = l.getD (2 * q + 1) 0 by rw [show (2 : Int) ^ (8 - 4 - 4) = 1 by decide]; omega]
  rw [u8_join 4 _ _ (by omega) (by omega) (by omega) (by omega) (by omega) (by decide)]
theorem bits4 (l : List Int) (hg : ∀ i, 0 ≤ l.getD i 0 ∧ l.getD i 0 < 16) (q : Nat) : bitsAcc l 4 (2 * q) = bytesBits (packF l 4 (2 * q)) ∧ ∀ x ∈ packF l 4 (2 * q), 0 ≤ x ∧ x < 256 := by
  induction q with
  | zero => exact ⟨rfl, fun x hx => by simp [packF] at hx⟩
  | succ q ih =>
    have g0 := hg (2 * q)
    have g1 := hg (2 * q + 1)
    rw [show 2 * (q + 1) = 2 * q + 2 by omega, (pack4 l hg q).2, bytesBits_append, show 2 * q + 2 = (2 * q + 1) + 1 by omega, bitsAcc_succ, bitsAcc_succ, ih.1, List.append_assoc]
    refine ⟨?_, ?_⟩
    · congr 1
      simp only [bytesBits, List.append_nil, msb8, rowBits, show ¬ (8 ≤ 4) by decide, if_false]
      show [l.getD (2 * q) 0 / 8 % 2, l.getD (2 * q) 0 / 4 % 2, l.getD (2 * q) 0 / 2 % 2, l.getD (2 * q) 0 / 1 % 2] ++ [l.getD (2 * q + 1) 0 / 8 % 2, l.getD (2 * q + 1) 0 / 4 % 2, l.getD (2 * q + 1) 0 / 2 % 2, l.getD (2 * q + 1) 0 / 1 % 2] = _
      generalize l.getD (2 * q) 0 = a at *
      generalize l.getD (2 * q + 1) 0 = b at *
      simp only [List.cons_append, List.nil_append, List.cons.injEq, and_true]
      refine ⟨by omega, by omega, by omega, by omega, by omega, by omega, by omega, by omega⟩
    · intro x hx
      rw [List.mem_append] at hx
      rcases hx with hx | hx
      · exact ih.2 x hx
      · simp only [List.mem_singleton] at hx; omega
end Go.Proofs.Ytobpocdpnkicnaa

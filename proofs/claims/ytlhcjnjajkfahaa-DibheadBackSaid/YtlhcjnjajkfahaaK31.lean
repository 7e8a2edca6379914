/- What stands in a head's bytes that were laid. Plain. -/
import Derived.Test.YtlhcjnjajkfahaaK30
namespace Go.Proofs.Ytlhcjnjajkfahaa
open Go.RowKit
set_option linter.unusedVariables false
set_option linter.unusedSimpArgs false
theorem setB_out (L : List Int) (p : Nat) (v : Int) (k i : Nat) (h : ¬ (p ≤ i ∧ i < p + k)) : (setB L p v k)[i]? = L[i]? := by
  induction k with
  | zero => rfl
  | succ k ih => rw [setB, List.getElem?_set_ne (by omega), ih (by omega)]
theorem setB_in (L : List Int) (p : Nat) (v : Int) (k j : Nat) (h : j < k) (hl : p + k ≤ L.length) : (setB L p v k)[p + j]? = some (byteAt v j) := by
  induction k with
  | zero => omega
  | succ k ih =>
    rw [setB]
    by_cases hj : j = k
    · subst hj; rw [List.getElem?_set_self (by rw [setB_len]; omega)]
    · rw [List.getElem?_set_ne (by omega), ih (by omega) (by omega)]
theorem emod_mul' (x A : Int) (hA : 0 < A) : x % (A * 256) = x % A + A * (x / A % 256) := by
  have h1 := Int.mul_ediv_add_emod x A
  have h2 := Int.mul_ediv_add_emod (x / A) 256
  have h3 := Int.mul_ediv_add_emod x (A * 256)
  rw [Int.ediv_ediv_of_nonneg (Int.le_of_lt hA)] at h2
  have e : A * (x / A) = A * 256 * (x / (A * 256)) + A * (x / A % 256) := by
    conv => lhs; rw [← h2]
    rw [Int.mul_add, Int.mul_assoc]
  omega
theorem byteAt_bd (v : Int) (j : Nat) : 0 ≤ byteAt v j ∧ byteAt v j < 256 := by unfold byteAt; omega
theorem lowK_put (L : List Int) (a : Nat) (v : Int) (k : Nat) (h : ∀ j, j < k → L[a + j]? = some (byteAt v j)) : lowK (strOf L) a k = v % 2 ^ (8 * k) := by
  induction k with
  | zero => simp [lowK]
  | succ k ih =>
    have hb := byteAt_bd v k
    rw [lowK, ih (fun j hj => h j (by omega)), byN_strOf3 L (a + k) (byteAt v k) (h k (by omega)) hb.1 hb.2]
    have hp : (2 : Int) ^ (8 * (k + 1)) = 2 ^ (8 * k) * 256 := by rw [show 8 * (k + 1) = 8 * k + 8 by omega, Int.pow_add]; rfl
    rw [hp, emod_mul' v _ (Int.pow_pos (by decide))]
    unfold byteAt
    rw [Int.mul_comm]
theorem outA_len (n : Nat) (W h dp mt co : Int) : (outA n W h dp mt co).length = n := by
  unfold outA; simp only [setB_len, List.length_set, List.length_replicate]
theorem outM_len (L : List Int) (r g b : Int) : (outM L r g b).length = L.length := by unfold outM; simp only [setB_len]
theorem outM_low (L : List Int) (r g b : Int) (i : Nat) (hi : i < 40) : (outM L r g b)[i]? = L[i]? := by
  unfold outM; rw [setB_out _ _ _ _ _ (by omega), setB_out _ _ _ _ _ (by omega), setB_out _ _ _ _ _ (by omega)]
section
variable (n : Nat) (W h dp mt co : Int) (hn : 40 ≤ n)
theorem outA_0 (hn : 40 ≤ n) (j : Nat) (hj : j < 4) : (outA n W h dp mt co)[0 + j]? = some (byteAt 40 j) := by
  unfold outA
  rw [setB_out _ _ _ _ _ (by omega), setB_out _ _ _ _ _ (by omega), List.getElem?_set_ne (by omega), setB_out _ _ _ _ _ (by omega), setB_out _ _ _ _ _ (by omega), setB_out _ _ _ _ _ (by omega), setB_in _ _ _ _ _ hj (by simp; omega)]
theorem outA_4 (hn : 40 ≤ n) (j : Nat) (hj : j < 4) : (outA n W h dp mt co)[4 + j]? = some (byteAt W j) := by
  unfold outA
  rw [setB_out _ _ _ _ _ (by omega), setB_out _ _ _ _ _ (by omega), List.getElem?_set_ne (by omega), setB_out _ _ _ _ _ (by omega), setB_out _ _ _ _ _ (by omega), setB_in _ _ _ _ _ hj (by simp [setB_len]; omega)]
theorem outA_8 (hn : 40 ≤ n) (j : Nat) (hj : j < 4) : (outA n W h dp mt co)[8 + j]? = some (byteAt h j) := by
  unfold outA
  rw [setB_out _ _ _ _ _ (by omega), setB_out _ _ _ _ _ (by omega), List.getElem?_set_ne (by omega), setB_out _ _ _ _ _ (by omega), setB_in _ _ _ _ _ hj (by simp [setB_len]; omega)]
theorem outA_12 (hn : 40 ≤ n) (j : Nat) (hj : j < 2) : (outA n W h dp mt co)[12 + j]? = some (byteAt 1 j) := by
  unfold outA
  rw [setB_out _ _ _ _ _ (by omega), setB_out _ _ _ _ _ (by omega)]
  rcases (show j = 0 ∨ j = 1 by omega) with rfl | rfl
  · rw [List.getElem?_set_self (by simp [setB_len]; omega)]; rfl
  · rw [List.getElem?_set_ne (by omega), setB_out _ _ _ _ _ (by omega), setB_out _ _ _ _ _ (by omega), setB_out _ _ _ _ _ (by omega), setB_out _ _ _ _ _ (by omega), List.getElem?_replicate, if_pos (by omega)]; rfl
theorem outA_14 (hn : 40 ≤ n) (j : Nat) (hj : j < 2) : (outA n W h dp mt co)[14 + j]? = some (byteAt dp j) := by
  unfold outA
  rw [setB_out _ _ _ _ _ (by omega), setB_out _ _ _ _ _ (by omega), List.getElem?_set_ne (by omega), setB_in _ _ _ _ _ (by omega) (by simp [setB_len]; omega)]
theorem outA_16 (hn : 40 ≤ n) (j : Nat) (hj : j < 4) : (outA n W h dp mt co)[16 + j]? = some (byteAt mt j) := by
  unfold outA
  rw [setB_out _ _ _ _ _ (by omega), setB_in _ _ _ _ _ hj (by simp [setB_len]; omega)]
theorem outA_32 (hn : 40 ≤ n) (j : Nat) (hj : j < 4) : (outA n W h dp mt co)[32 + j]? = some (byteAt co j) := by
  unfold outA
  rw [setB_in _ _ _ _ _ hj (by simp [setB_len]; omega)]
end
/-- What is read of a head's bytes. -/
structure OutIs (S : ByteArray) (W h dp mt co : Int) : Prop where
  z : S.size = if mt = 3 then 52 else 40
  f0 : lowK S 0 4 = 40
  f4 : lowK S 4 4 = W % 4294967296
  f8 : lowK S 8 4 = h % 4294967296
  f12 : lowK S 12 2 = 1
  f14 : lowK S 14 2 = dp % 65536
  f16 : lowK S 16 4 = mt % 4294967296
  f32 : lowK S 32 4 = co % 4294967296
theorem out_of (L : List Int) (n : Nat) (W h dp mt co : Int) (hn : 40 ≤ n) (hl : L.length = n) (hz : n = if mt = 3 then 52 else 40) (hL : ∀ i, i < 40 → L[i]? = (outA n W h dp mt co)[i]?) : OutIs (strOf L) W h dp mt co where
  z := by rw [strOf_size3, hl, hz]
  f0 := by rw [lowK_put L 0 40 4 (fun j hj => by rw [hL _ (by omega), outA_0 n W h dp mt co hn j hj])]; rfl
  f4 := by rw [lowK_put L 4 W 4 (fun j hj => by rw [hL _ (by omega), outA_4 n W h dp mt co hn j hj])]; rfl
  f8 := by rw [lowK_put L 8 h 4 (fun j hj => by rw [hL _ (by omega), outA_8 n W h dp mt co hn j hj])]; rfl
  f12 := by rw [lowK_put L 12 1 2 (fun j hj => by rw [hL _ (by omega), outA_12 n W h dp mt co hn j hj])]; rfl
  f14 := by rw [lowK_put L 14 dp 2 (fun j hj => by rw [hL _ (by omega), outA_14 n W h dp mt co hn j hj])]; rfl
  f16 := by rw [lowK_put L 16 mt 4 (fun j hj => by rw [hL _ (by omega), outA_16 n W h dp mt co hn j hj])]; rfl
  f32 := by rw [lowK_put L 32 co 4 (fun j hj => by rw [hL _ (by omega), outA_32 n W h dp mt co hn j hj])]; rfl
theorem outS_is (W H : Int) (top : Bool) (dp mt co k0 k1 k2 k3 k4 k5 : Int) : OutIs (outS W H top dp mt co k0 k1 k2 k3 k4 k5) W (topH top H) dp mt (co20 dp co) := by
  unfold outS
  by_cases h3 : mt = 3
  · rw [if_pos h3]
    exact out_of _ 52 _ _ _ _ _ (by decide) (by rw [outM_len, outA_len]) (by rw [if_pos h3]) (fun i hi => outM_low _ _ _ _ i hi)
  · rw [if_neg h3]
    exact out_of _ 40 _ _ _ _ _ (by decide) (outA_len _ _ _ _ _ _) (by rw [if_neg h3]) (fun i hi => rfl)
theorem outS_masks (W H : Int) (top : Bool) (dp mt co k0 k1 k2 k3 k4 k5 : Int) (h3 : mt = 3) :
    lowK (outS W H top dp mt co k0 k1 k2 k3 k4 k5) 40 4 = wordI k0 k1 % 4294967296 ∧ lowK (outS W H top dp mt co k0 k1 k2 k3 k4 k5) 44 4 = wordI k2 k3 % 4294967296 ∧ lowK (outS W H top dp mt co k0 k1 k2 k3 k4 k5) 48 4 = wordI k4 k5 % 4294967296 := by
  unfold outS
  rw [if_pos h3]
  unfold outM
  have hl := outA_len 52 W (topH top H) dp mt (co20 dp co)
  refine ⟨?_, ?_, ?_⟩
  · rw [lowK_put _ 40 (wordI k0 k1) 4 (fun j hj => by rw [setB_out _ _ _ _ _ (by omega), setB_out _ _ _ _ _ (by omega), setB_in _ _ _ _ _ hj (by omega)])]; rfl
  · rw [lowK_put _ 44 (wordI k2 k3) 4 (fun j hj => by rw [setB_out _ _ _ _ _ (by omega), setB_in _ _ _ _ _ hj (by rw [setB_len]; omega)])]; rfl
  · rw [lowK_put _ 48 (wordI k4 k5) 4 (fun j hj => by rw [setB_in _ _ _ _ _ hj (by rw [setB_len, setB_len]; omega)])]; rfl
end Go.Proofs.Ytlhcjnjajkfahaa

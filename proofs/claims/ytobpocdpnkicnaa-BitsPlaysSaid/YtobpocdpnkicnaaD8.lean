/- The plain law of dibrow.Pack, whole: the document's bits, eight by eight, are the bytes that Pack makes. No program in sight. -/
import Derived.Test.YtobpocdpnkicnaaD7
namespace Go.Proofs.Ytobpocdpnkicnaa
open Go.RowKit
set_option linter.unusedVariables false
theorem msb_pad (y : Int) (s : Nat) (hs : s ≤ 8) (hy : y % 2 ^ (8 - s) = 0) : (msbF y 8 8).take s ++ List.replicate (8 - s) 0 = msbF y 8 8 := by
  rw [msb8]
  rcases (show s = 0 ∨ s = 1 ∨ s = 2 ∨ s = 3 ∨ s = 4 ∨ s = 5 ∨ s = 6 ∨ s = 7 ∨ s = 8 by omega) with rfl | rfl | rfl | rfl | rfl | rfl | rfl | rfl | rfl <;> simp [List.replicate] at hy ⊢ <;> omega
theorem msb_more (y x : Int) (s : Nat) (hs : s ≤ 7) (hy : y % 2 ^ (8 - s) = 0) (hx : x = 0 ∨ x = 1) : (msbF (y + x * 2 ^ (7 - s)) 8 8).take (s + 1) = (msbF y 8 8).take s ++ [x] ∧ (y + x * 2 ^ (7 - s)) % 2 ^ (8 - (s + 1)) = 0 := by
  rw [msb8, msb8]
  rcases (show s = 0 ∨ s = 1 ∨ s = 2 ∨ s = 3 ∨ s = 4 ∨ s = 5 ∨ s = 6 ∨ s = 7 by omega) with rfl | rfl | rfl | rfl | rfl | rfl | rfl | rfl <;> rcases hx with rfl | rfl <;> simp at hy ⊢ <;> omega
/-- What the bits of a row are, however many they are, to the bytes. -/
structure FitsB (bits B : List Int) : Prop where
  pad : bits ++ List.replicate (8 * B.length - bits.length) 0 = bytesBits B
  le : bits.length ≤ 8 * B.length
  lt : 8 * B.length < bits.length + 8
  mem : ∀ x ∈ B, 0 ≤ x ∧ x < 256
theorem zeros_bits (j : Nat) : List.replicate (8 * j) (0 : Int) = bytesBits (List.replicate j 0) := by
  induction j with
  | zero => rfl
  | succ j ih =>
    rw [List.replicate_succ, bytesBits, ← ih, show 8 * (j + 1) = 8 + 8 * j by omega, ← List.replicate_append_replicate, msb8]; rfl
theorem fits_out {bits B : List Int} (h : FitsB bits B) : outF (padBits bits) ((padBits bits).length / 8) = padF B := by
  have e : padBits bits = bytesBits (padF B) := by
    unfold padBits padF
    rw [bytesBits_append, ← zeros_bits, ← h.pad, List.append_assoc, List.replicate_append_replicate]
    congr 2
    have h1 := h.le
    have h2 := h.lt
    omega
  have hm : ∀ x ∈ padF B, 0 ≤ x ∧ x < 256 := by
    intro x hx
    unfold padF at hx
    rw [List.mem_append] at hx
    rcases hx with hx | hx
    · exact h.mem x hx
    · have := (List.mem_replicate.1 hx).2; omega
  have := outF_bytes (padF B) [] hm (padF B).length (Nat.le_refl _)
  rw [List.append_nil, List.take_length] at this
  rw [e, bytesBits_len, show 8 * (padF B).length / 8 = (padF B).length by omega]
  exact this
theorem fits_exact {bits B : List Int} (h : bits = bytesBits B) (hm : ∀ x ∈ B, 0 ≤ x ∧ x < 256) : FitsB bits B := by
  subst h
  have := bytesBits_len B
  exact ⟨by rw [this]; simp, by omega, by omega, hm⟩
theorem fits_part {bits P : List Int} {y : Int} {s : Nat} (h : bits = bytesBits P ++ (msbF y 8 8).take s) (hs : 1 ≤ s) (hs8 : s ≤ 8) (hy : y % 2 ^ (8 - s) = 0) (hm : ∀ x ∈ P ++ [y], 0 ≤ x ∧ x < 256) : FitsB bits (P ++ [y]) := by
  have hl : bits.length = 8 * P.length + s := by rw [h, List.length_append, bytesBits_len, List.length_take, msbF_len]; omega
  refine ⟨?_, by rw [hl]; simp; omega, by rw [hl]; simp; omega, hm⟩
  rw [hl, h, List.append_assoc, bytesBits_append]
  congr 1
  rw [show 8 * (P ++ [y]).length - (8 * P.length + s) = 8 - s by simp; omega, msb_pad y s hs8 hy]
  simp [bytesBits]
/-- Numbers of one bit: how far the last byte is filled. -/
def Inv1 (l : List Int) (k s : Nat) : Prop := (∀ x ∈ packF l 1 k, 0 ≤ x ∧ x < 256) ∧
  ((s = 0 ∧ bitsAcc l 1 k = bytesBits (packF l 1 k)) ∨ (1 ≤ s ∧ ∃ P y, packF l 1 k = P ++ [y] ∧ y % 2 ^ (8 - s) = 0 ∧ bitsAcc l 1 k = bytesBits P ++ (msbF y 8 8).take s))
theorem rowBits1 (x : Int) (h : x = 0 ∨ x = 1) : rowBits x 1 = [x] := by rcases h with rfl | rfl <;> rfl
theorem inv1_full {l : List Int} {k : Nat} {P : List Int} {y : Int} (hp : packF l 1 k = P ++ [y]) (hm : ∀ x ∈ packF l 1 k, 0 ≤ x ∧ x < 256) (hb : bitsAcc l 1 k = bytesBits P ++ (msbF y 8 8).take 8) : Inv1 l k 0 := by
  refine ⟨hm, Or.inl ⟨rfl, ?_⟩⟩
  rw [hb, hp, bytesBits_append]
  congr 1
theorem inv1 (l : List Int) (hg : ∀ i, l.getD i 0 = 0 ∨ l.getD i 0 = 1) (k : Nat) : Inv1 l k (k % 8) := by
  induction k with
  | zero => exact ⟨fun x hx => by simp [packF] at hx, Or.inl ⟨rfl, rfl⟩⟩
  | succ k ih =>
    obtain ⟨hm, h⟩ := ih
    have hx := hg k
    rcases h with ⟨h0, hb⟩ | ⟨h1, P, y, hp, hy, hb⟩
    · have e : packF l 1 (k + 1) = packF l 1 k ++ [l.getD k 0 * 128] := by
        rw [packF_new l 1 k (by decide) (by omega), show (2 : Int) ^ (8 - 1) = 128 by decide]
        congr 2
        rcases hx with hx | hx <;> rw [hx] <;> decide
      rw [show (k + 1) % 8 = 1 by omega]
      refine ⟨?_, Or.inr ⟨by decide, packF l 1 k, l.getD k 0 * 128, e, ?_, ?_⟩⟩
      · intro x hx'
        rw [e, List.mem_append] at hx'
        rcases hx' with hx' | hx'
        · exact hm x hx'
        · simp at hx'; rcases hx with hx | hx <;> rw [← List.getD_eq_getElem?_getD, hx] at hx' <;> omega
      · rcases hx with hx | hx <;> rw [hx] <;> decide
      · rw [bitsAcc_succ, hb, rowBits1 _ hx]
        rcases hx with hx | hx <;> rw [hx] <;> rfl
    · have hs : k % 8 ≤ 7 := by omega
      obtain ⟨m1, m2⟩ := msb_more y (l.getD k 0) (k % 8) hs hy hx
      have hyb := hm y (by rw [hp]; simp)
      have e : packF l 1 (k + 1) = P ++ [y + l.getD k 0 * 2 ^ (7 - k % 8)] := by
        rw [packF_old l 1 k (by decide) (by omega), hp, orLast_one]
        have e2 : l.getD k 0 * 2 ^ (8 - 1 - k * 1 % 8) % 256 = l.getD k 0 * 2 ^ (7 - k % 8) := by
          rw [show 8 - 1 - k * 1 % 8 = 7 - k % 8 by omega]
          have h7 : (2 : Int) ^ (7 - k % 8) ≤ 2 ^ 7 := pow_le' (by omega)
          have h8 := pow_pos' (7 - k % 8)
          have h9 : (2 : Int) ^ 7 = 128 := by decide
          rcases hx with hx | hx <;> rw [hx] <;> omega
        rw [e2, u8_join (8 - k % 8) y _ hyb.1 hy hyb.2 ?_ ?_ (by omega)]
        · have h8 := pow_pos' (7 - k % 8)
          rcases hx with hx | hx <;> rw [hx] <;> omega
        · have h8 := pow_pos' (7 - k % 8)
          rw [show 8 - k % 8 = (7 - k % 8) + 1 by omega, pow_succ']
          rcases hx with hx | hx <;> rw [hx] <;> omega
      have hm' : ∀ x ∈ packF l 1 (k + 1), 0 ≤ x ∧ x < 256 := by
        intro x hx'
        rw [e, List.mem_append] at hx'
        rcases hx' with hx' | hx'
        · exact hm x (by rw [hp]; simp [hx'])
        · simp only [List.mem_singleton] at hx'
          have h7 : (2 : Int) ^ (7 - k % 8) ≤ 2 ^ (7 - k % 8) := Int.le_refl _
          have h8 := pow_pos' (7 - k % 8)
          have hy' := hy
          rw [show 8 - k % 8 = (7 - k % 8) + 1 by omega, pow_succ'] at hy'
          rcases (show k % 8 = 1 ∨ k % 8 = 2 ∨ k % 8 = 3 ∨ k % 8 = 4 ∨ k % 8 = 5 ∨ k % 8 = 6 ∨ k % 8 = 7 by omega) with q | q | q | q | q | q | q <;> rw [q] at hx' hy' <;> simp at hx' hy' <;> rcases hx with hx | hx <;> rw [← List.getD_eq_getElem?_getD, hx] at hx' <;> omega
      have hb' : bitsAcc l 1 (k + 1) = bytesBits P ++ (msbF (y + l.getD k 0 * 2 ^ (7 - k % 8)) 8 8).take (k % 8 + 1) := by
        rw [bitsAcc_succ, hb, rowBits1 _ hx, m1, List.append_assoc]
      by_cases h8 : k % 8 = 7
      · rw [show (k + 1) % 8 = 0 by omega]
        rw [h8] at hb' e
        exact inv1_full e hm' hb'
      · rw [show (k + 1) % 8 = k % 8 + 1 by omega]
        exact ⟨hm', Or.inr ⟨by omega, P, _, e, m2, hb'⟩⟩
theorem fits1 (l : List Int) (hg : ∀ i, l.getD i 0 = 0 ∨ l.getD i 0 = 1) (k : Nat) : FitsB (bitsAcc l 1 k) (packF l 1 k) := by
  obtain ⟨hm, h⟩ := inv1 l hg k
  rcases h with ⟨h0, hb⟩ | ⟨h1, P, y, hp, hy, hb⟩
  · exact fits_exact hb hm
  · rw [hp] at hm ⊢; exact fits_part hb h1 (by omega) hy hm
theorem fits4 (l : List Int) (hg : ∀ i, 0 ≤ l.getD i 0 ∧ l.getD i 0 < 16) (k : Nat) : FitsB (bitsAcc l 4 k) (packF l 4 k) := by
  by_cases h : k % 2 = 0
  · rw [show k = 2 * (k / 2) by omega]
    obtain ⟨a, b⟩ := bits4 l hg (k / 2)
    exact fits_exact a b
  · rw [show k = 2 * (k / 2) + 1 by omega]
    obtain ⟨a, b⟩ := bits4 l hg (k / 2)
    have g0 := hg (2 * (k / 2))
    rw [(pack4 l hg (k / 2)).1]
    refine fits_part (s := 4) ?_ (by decide) (by decide) (by rw [show (2 : Int) ^ (8 - 4) = 16 by decide]; omega) ?_
    · rw [bitsAcc_succ, a]
      congr 1
      show [l.getD (2 * (k / 2)) 0 / 8 % 2, l.getD (2 * (k / 2)) 0 / 4 % 2, l.getD (2 * (k / 2)) 0 / 2 % 2, l.getD (2 * (k / 2)) 0 / 1 % 2] = _
      rw [msb8]
      generalize l.getD (2 * (k / 2)) 0 = z at *
      simp only [List.take, List.cons.injEq, and_true]
      omega
    · intro x hx
      rw [List.mem_append] at hx
      rcases hx with hx | hx
      · exact b x hx
      · simp only [List.mem_singleton] at hx; omega
theorem fits_wide (l : List Int) (d : Nat) (h : 8 ≤ d) (k : Nat) : FitsB (bitsAcc l d k) (packF l d k) := fits_exact (bits_wide l d h k) (wide_mem l d h k)
/-- What the document's Pack gives. -/
def rpackI (l : List Int) (d : Nat) : ByteArray := strOf (outF (padBits (bitsAcc l d l.length)) ((padBits (bitsAcc l d l.length)).length / 8))
theorem pack_same (l : List Int) (d : Nat) (hd : d = 1 ∨ d = 4 ∨ d = 8 ∨ d = 16 ∨ d = 24 ∨ d = 32) (hg : ∀ i, 0 ≤ l.getD i 0 ∧ l.getD i 0 < 2 ^ d) : rpackI l d = strOf (padF (packF l d l.length)) := by
  unfold rpackI
  rw [fits_out]
  rcases hd with rfl | rfl | rfl | rfl | rfl | rfl
  · exact fits1 l (fun i => by have := hg i; omega) _
  · exact fits4 l (fun i => by have := hg i; omega) _
  all_goals exact fits_wide l _ (by decide) _
end Go.Proofs.Ytobpocdpnkicnaa

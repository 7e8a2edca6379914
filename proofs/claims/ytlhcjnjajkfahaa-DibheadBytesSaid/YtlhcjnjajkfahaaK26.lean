/- The plain law of layer 9, further: the two Fours say the same; words of colours. -/
import Derived.Test.YtlhcjnjajkfahaaK25
namespace Go.Proofs.Ytlhcjnjajkfahaa
open Go.RowKit
theorem bitB_nat (n i : Nat) : bitB n i = n.testBit i := by
  rw [Nat.testBit_eq_decide_div_mod_eq]
  unfold bitB
  have : ((n : Int) / 2 ^ i % 2 = 1) ↔ n / 2 ^ i % 2 = 1 := by
    have e : ((n : Int) / 2 ^ i % 2) = ((n / 2 ^ i % 2 : Nat) : Int) := by rw [Int.natCast_emod, Int.natCast_ediv, Int.natCast_pow]; rfl
    rw [e]; omega
  simp [this]
theorem bothF_iff (a b : Nat) (k : Nat) : bothF a b k = true ↔ ∃ i, i < k ∧ a.testBit i = true ∧ b.testBit i = true := by
  induction k with
  | zero => simp [bothF]
  | succ k ih =>
    rw [bothF_succ, Bool.or_eq_true, ih, Bool.and_eq_true, bitB_nat, bitB_nat]
    constructor
    · rintro (⟨i, h1, h2⟩ | h)
      · exact ⟨i, by omega, h2⟩
      · exact ⟨k, by omega, h⟩
    · rintro ⟨i, h1, h2⟩
      by_cases e : i = k
      · subst e; exact Or.inr h2
      · exact Or.inl ⟨i, by omega, h2⟩
theorem and_ne_zero (a b : Nat) : a &&& b ≠ 0 ↔ ∃ i, a.testBit i = true ∧ b.testBit i = true := by
  constructor
  · intro h
    obtain ⟨i, hi⟩ := Nat.exists_testBit_of_ne_zero h
    rw [Nat.testBit_and, Bool.and_eq_true] at hi
    exact ⟨i, hi⟩
  · rintro ⟨i, h1, h2⟩ h0
    have : (a &&& b).testBit i = true := by rw [Nat.testBit_and, h1, h2]; rfl
    rw [h0] at this; simp at this
theorem anyBoth_iff (l : Nat → Int) (n : Nat) (k : Nat) (hk : l k = (n : Int)) (hn : n < 2 ^ 32) : ∀ j, (∀ i, i < j → 0 ≤ l i) → (anyBoth l k j = true ↔ n &&& seenN l j ≠ 0) := by
  intro j
  induction j with
  | zero => intro _; simp [anyBoth, seenN]
  | succ j ih =>
    intro h
    obtain ⟨m, hm⟩ := Int.eq_ofNat_of_zero_le (h j (by omega))
    rw [anyBoth_succ, Bool.or_eq_true, ih (fun i hi => h i (by omega)), seenN_succ, hk, hm, bothF_iff, and_ne_zero, and_ne_zero]
    constructor
    · rintro (⟨i, h1, h2⟩ | ⟨i, _, h1, h2⟩)
      · exact ⟨i, h1, by rw [Nat.testBit_or, h2]; rfl⟩
      · exact ⟨i, h1, by rw [Nat.testBit_or]; simp [h2]⟩
    · rintro ⟨i, h1, h2⟩
      rw [Nat.testBit_or, Bool.or_eq_true] at h2
      rcases h2 with h2 | h2
      · exact Or.inl ⟨i, h1, h2⟩
      · refine Or.inr ⟨i, ?_, h1, by simpa using h2⟩
        rcases Nat.lt_or_ge i 32 with h3 | h3
        · exact h3
        · rw [Nat.testBit_lt_two_pow (Nat.lt_of_lt_of_le hn (Nat.pow_le_pow_right (by decide) h3))] at h1; simp at h1
theorem step_same (l : Nat → Int) (width : Int) (k : Nat) (h : ∀ j, j < k → pstep l width j = 0) : pstep l width k = rstep l width k := by
  unfold pstep rstep
  rw [(find_same (l k) width).1]
  by_cases he : (rfindI (l k) width).2.2 = 0
  · have hf : (findI (l k) width).2.2 = 0 := by rw [(find_same (l k) width).1]; exact he
    have hr := findI_ok _ _ hf
    obtain ⟨n, hn⟩ := Int.eq_ofNat_of_zero_le hr.1
    have hpos : ∀ i, i < k → 0 ≤ l i := by
      intro i hi
      have hk := h i hi
      have he' : (findI (l i) width).2.2 = 0 := by
        unfold pstep at hk; split at hk
        · exact hk
        · rename_i h'; simpa using h'
      exact (findI_ok _ _ he').1
    have ha := anyBoth_iff l n k hn (by omega) k hpos
    have hn' : (l k).toNat = n := by omega
    rw [hn', he]
    by_cases hb : anyBoth l k k = true
    · have := ha.1 hb
      simp [hb, this]
    · have hc : n &&& seenN l k = 0 := Decidable.not_not.1 (fun hc => hb (ha.2 hc))
      simp [hb, hc]
  · simp [he]
theorem scan_congr (f g : Nat → Int) (h0 : f 0 = g 0) (h1 : f 0 = 0 → f 1 = g 1) (h2 : f 0 = 0 → f 1 = 0 → f 2 = g 2) (h3 : f 0 = 0 → f 1 = 0 → f 2 = 0 → f 3 = g 3) : scan4 f = scan4 g := by
  unfold scan4
  by_cases e0 : f 0 = 0
  · have g0 := h0 ▸ e0; have h1 := h1 e0
    by_cases e1 : f 1 = 0
    · have g1 := h1 ▸ e1; have h2 := h2 e0 e1
      by_cases e2 : f 2 = 0
      · have g2 := h2 ▸ e2; have h3 := h3 e0 e1 e2
        simp [e0, g0, e1, g1, e2, g2, h3]
      · have g2 : ¬ g 2 = 0 := h2 ▸ e2
        simp [e0, g0, e1, g1, g2, h2]
    · have g1 : ¬ g 1 = 0 := h1 ▸ e1
      simp [e0, g0, g1, h1]
  · have g0 : ¬ g 0 = 0 := h0 ▸ e0
    simp [g0, h0]
theorem scan_same (l : Nat → Int) (width : Int) : scan4 (pstep l width) = scan4 (rstep l width) :=
  scan_congr _ _ (step_same l width 0 (fun j hj => by omega))
    (fun e0 => step_same l width 1 (fun j hj => by obtain rfl : j = 0 := by omega
                                                   exact e0))
    (fun e0 e1 => step_same l width 2 (fun j hj => by rcases (show j = 0 ∨ j = 1 by omega) with rfl | rfl
                                                      · exact e0
                                                      · exact e1))
    (fun e0 e1 e2 => step_same l width 3 (fun j hj => by rcases (show j = 0 ∨ j = 1 ∨ j = 2 by omega) with rfl | rfl | rfl
                                                         · exact e0
                                                         · exact e1
                                                         · exact e2))
theorem scan_ok (f : Nat → Int) (h : (scan4 f).2 = 0) : f 0 = 0 ∧ f 1 = 0 ∧ f 2 = 0 ∧ f 3 = 0 := by
  unfold scan4 at h
  by_cases h0 : f 0 = 0
  · rw [if_neg (by simp [h0])] at h
    by_cases h1 : f 1 = 0
    · rw [if_neg (by simp [h1])] at h
      by_cases h2 : f 2 = 0
      · rw [if_neg (by simp [h2])] at h
        by_cases h3 : f 3 = 0
        · exact ⟨h0, h1, h2, h3⟩
        · rw [if_pos h3] at h; exact absurd h h3
      · rw [if_pos h2] at h; exact absurd h h2
    · rw [if_pos h1] at h; exact absurd h h1
  · rw [if_pos h0] at h; exact absurd h h0
theorem pstep_ok (l : Nat → Int) (width : Int) (k : Nat) (h : pstep l width k = 0) : (findI (l k) width).2.2 = 0 := by
  unfold pstep at h; split at h
  · exact h
  · rename_i h'; simpa using h'
end Go.Proofs.Ytlhcjnjajkfahaa

/- Signs of formats: of two one is the other's. Plain. -/
import Derived.Test.YtlhcjnjajkfahaaND
namespace Go.Proofs.Ytlhcjnjajkfahaa
open Go.RowKit
set_option linter.unusedVariables false
set_option linter.unusedSimpArgs false
theorem pref_at {s : ByteArray} {p : Array UInt8} (h : prefB s ⟨p⟩ = true) (k : Nat) (hk : k < p.size) : byN s k = byN ⟨p⟩ k := by
  unfold prefB at h
  rw [Bool.and_eq_true, decide_eq_true_iff, beq_iff_eq, ByteArray.toList_eq, ByteArray.toList_eq] at h
  obtain ⟨h1, h2⟩ := h
  have e : s.extract 0 (⟨p⟩ : ByteArray).size = ⟨p⟩ := ByteArray.ext (Array.ext' h2)
  have hk' : k < (⟨p⟩ : ByteArray).size := hk
  have := byN_ext s 0 (⟨p⟩ : ByteArray).size k (by omega) h1
  rw [e, Nat.zero_add] at this
  exact this.symm
theorem all_eight (b1 b3 b5 b6 b8 b7 b4 b2 : Bool) : (b1 = true → b3 = false ∧ b5 = false ∧ b6 = false ∧ b8 = false ∧ b7 = false ∧ b4 = false ∧ b2 = false) → (b3 = true → b5 = false ∧ b6 = false ∧ b8 = false ∧ b7 = false ∧ b4 = false ∧ b2 = false) → (b5 = true → b6 = false ∧ b8 = false ∧ b7 = false ∧ b4 = false ∧ b2 = false) →
    (b6 = true → b8 = false ∧ b7 = false ∧ b4 = false ∧ b2 = false) → (b8 = true → b7 = false ∧ b4 = false ∧ b2 = false) → (b7 = true → b4 = false ∧ b2 = false) →
    (b1 = b1 ∧ (let L0 : List Int := []
      let L1 := bif b1 then L0 ++ [1] else L0
      let L2 := bif b3 then L1 ++ [3] else L1
      let L3 := bif b5 then L2 ++ [5] else L2
      let L4 := bif b6 then L3 ++ [6] else L3
      let L5 := bif b8 then L4 ++ [8] else L4
      let L6 := bif b7 then L5 ++ [7] else L5
      let L7 := bif b4 then L6 ++ [4] else L6
      let L8 := bif b2 then L7 ++ [2] else L7
      L8 = [] ∨ (∃ f, L8 = [f]) ∨ L8 = [4, 2])) := by
  intro h1 h3 h5 h6 h8 h7
  refine ⟨rfl, ?_⟩
  cases b1
  rotate_left
  · obtain ⟨rfl, rfl, rfl, rfl, rfl, rfl, rfl⟩ := h1 rfl; exact Or.inr (Or.inl ⟨_, rfl⟩)
  cases b3
  rotate_left
  · obtain ⟨rfl, rfl, rfl, rfl, rfl, rfl⟩ := h3 rfl; exact Or.inr (Or.inl ⟨_, rfl⟩)
  cases b5
  rotate_left
  · obtain ⟨rfl, rfl, rfl, rfl, rfl⟩ := h5 rfl; exact Or.inr (Or.inl ⟨_, rfl⟩)
  cases b6
  rotate_left
  · obtain ⟨rfl, rfl, rfl, rfl⟩ := h6 rfl; exact Or.inr (Or.inl ⟨_, rfl⟩)
  cases b8
  rotate_left
  · obtain ⟨rfl, rfl, rfl⟩ := h8 rfl; exact Or.inr (Or.inl ⟨_, rfl⟩)
  cases b7
  rotate_left
  · obtain ⟨rfl, rfl⟩ := h7 rfl; exact Or.inr (Or.inl ⟨_, rfl⟩)
  cases b4 <;> cases b2
  · exact Or.inl rfl
  · exact Or.inr (Or.inl ⟨_, rfl⟩)
  · exact Or.inr (Or.inl ⟨_, rfl⟩)
  · exact Or.inr (Or.inr rfl)
theorem and_l {a b : Bool} (h : (a && b) = true) : a = true ∧ b = true := by simpa using h
theorem bool_f {b : Bool} (h : b = true → False) : b = false := by cases b <;> simp_all
theorem tga_one {s : ByteArray} (h : isTga s = true) : byN s 1 ≤ 1 ∧ (byN s 2 = 1 → byN s 1 = 1) := by
  by_cases h18 : 18 ≤ s.size
  rotate_left
  · unfold isTga at h; rw [decide_eq_false h18] at h; cases h
  rw [show isTga s = (!decide (1 < byN s 1) && (knownB (byN s 2) && (!((plainI (byN s 2) == 1) && !(byN s 1 == 1)) && (!((byN s 1 == 1) && !colB (byN s 7)) && (!(wordN s 12 == 0) && (!(wordN s 14 == 0) && depB (byN s 2) (byN s 16))))))) by
    unfold isTga; rw [decide_eq_true h18, Chk.is_eq]; rfl] at h
  obtain ⟨a, h⟩ := and_l h
  obtain ⟨_, h⟩ := and_l h
  obtain ⟨c, _⟩ := and_l h
  refine ⟨by simpa using a, ?_⟩
  intro e
  rw [e] at c
  by_cases x : byN s 1 = 1
  · exact x
  · rw [show (byN s 1 == 1) = false by simpa using x] at c; exact absurd c (by decide)
set_option maxRecDepth 100000 in
theorem two_law (s : ByteArray) : allTo s 8 = [] ∨ (∃ f, allTo s 8 = [f]) ∨ allTo s 8 = [4, 2] := by
  have q1 : hasB s 1 = true → byN s 0 = 66 ∧ byN s 1 = 77 := fun h => ⟨pref_at (p := #[66, 77]) h 0 (by decide), pref_at (p := #[66, 77]) h 1 (by decide)⟩
  have q3 : hasB s 3 = true → byN s 0 = 80 ∧ 49 ≤ byN s 1 := fun h => by
    have h : isPnm s = true := h
    unfold isPnm at h
    obtain ⟨_, h⟩ := and_l h; obtain ⟨a, h⟩ := and_l h; obtain ⟨b, _⟩ := and_l h
    exact ⟨by simpa using a, by simpa using b⟩
  have q5 : hasB s 5 = true → byN s 0 = 113 ∧ byN s 1 = 111 := fun h => ⟨pref_at (p := #[113, 111, 105, 102]) h 0 (by decide), pref_at (p := #[113, 111, 105, 102]) h 1 (by decide)⟩
  have q6 : hasB s 6 = true → byN s 0 = 102 ∧ byN s 1 = 97 := fun h => ⟨pref_at (p := #[102, 97, 114, 98, 102, 101, 108, 100]) h 0 (by decide), pref_at (p := #[102, 97, 114, 98, 102, 101, 108, 100]) h 1 (by decide)⟩
  have q8 : hasB s 8 = true → byN s 0 = 89 ∧ byN s 1 = 166 := fun h => ⟨pref_at (p := #[89, 166, 106, 149]) h 0 (by decide), pref_at (p := #[89, 166, 106, 149]) h 1 (by decide)⟩
  have q7 : hasB s 7 = true → byN s 0 = 10 ∧ byN s 1 ≠ 1 ∧ byN s 2 = 1 := fun h => by
    have h : isPcx s = true := h
    unfold isPcx at h
    obtain ⟨_, h⟩ := and_l h; obtain ⟨a, h⟩ := and_l h; obtain ⟨b, h⟩ := and_l h; obtain ⟨c, _⟩ := and_l h
    unfold verB at b
    obtain ⟨_, b⟩ := and_l b
    exact ⟨by simpa using a, by simpa using b, by simpa using c⟩
  have q4 : hasB s 4 = true → byN s 0 = 0 := fun h => by
    have h : isIco s = true := h
    by_cases h10 : 10 ≤ s.size
    · rw [isIco_eq s h10] at h; obtain ⟨a, _⟩ := and_l h; simpa using a
    · unfold isIco at h; rw [decide_eq_false h10] at h; cases h
  have q2 : hasB s 2 = true → byN s 1 ≤ 1 ∧ (byN s 2 = 1 → byN s 1 = 1) := fun h => tga_one h
  refine (all_eight (hasB s 1) (hasB s 3) (hasB s 5) (hasB s 6) (hasB s 8) (hasB s 7) (hasB s 4) (hasB s 2) ?_ ?_ ?_ ?_ ?_ ?_).2
  · intro h
    obtain ⟨a, b⟩ := q1 h
    exact ⟨bool_f fun g => (by have := q3 g; omega), bool_f fun g => (by have := q5 g; omega), bool_f fun g => (by have := q6 g; omega), bool_f fun g => (by have := q8 g; omega), bool_f fun g => (by have := q7 g; omega), bool_f fun g => (by have := q4 g; omega), bool_f fun g => (by have := q2 g; omega)⟩
  · intro h
    obtain ⟨a, b⟩ := q3 h
    exact ⟨bool_f fun g => (by have := q5 g; omega), bool_f fun g => (by have := q6 g; omega), bool_f fun g => (by have := q8 g; omega), bool_f fun g => (by have := q7 g; omega), bool_f fun g => (by have := q4 g; omega), bool_f fun g => (by have := q2 g; omega)⟩
  · intro h
    obtain ⟨a, b⟩ := q5 h
    exact ⟨bool_f fun g => (by have := q6 g; omega), bool_f fun g => (by have := q8 g; omega), bool_f fun g => (by have := q7 g; omega), bool_f fun g => (by have := q4 g; omega), bool_f fun g => (by have := q2 g; omega)⟩
  · intro h
    obtain ⟨a, b⟩ := q6 h
    exact ⟨bool_f fun g => (by have := q8 g; omega), bool_f fun g => (by have := q7 g; omega), bool_f fun g => (by have := q4 g; omega), bool_f fun g => (by have := q2 g; omega)⟩
  · intro h
    obtain ⟨a, b⟩ := q8 h
    exact ⟨bool_f fun g => (by have := q7 g; omega), bool_f fun g => (by have := q4 g; omega), bool_f fun g => (by have := q2 g; omega)⟩
  · intro h
    obtain ⟨a, b, c⟩ := q7 h
    exact ⟨bool_f fun g => (by have := q4 g; omega), bool_f fun g => (by have := q2 g; omega)⟩
end Go.Proofs.Ytlhcjnjajkfahaa

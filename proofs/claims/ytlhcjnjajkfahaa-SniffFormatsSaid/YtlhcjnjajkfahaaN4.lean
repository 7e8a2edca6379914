/- icodir's sign by its bytes; the document's prefixes. Plain. -/
import Derived.Test.YtlhcjnjajkfahaaN3
namespace Go.Proofs.Ytlhcjnjajkfahaa
open Go.RowKit
set_option linter.unusedVariables false
set_option linter.unusedSimpArgs false
theorem lowK_two (s : ByteArray) (a : Nat) : lowK s a 2 = byN s a + byN s (a + 1) * 256 := by
  unfold lowK lowK lowK; simp
theorem isIco_eq (s : ByteArray) (h : 10 ≤ s.size) : isIco s = (byN s 0 == 0 && (byN s 1 == 0 && ((byN s 2 == 1 || byN s 2 == 2) && (byN s 3 == 0 && ((byN s 4 != 0 || byN s 5 != 0) && byN s 9 == 0))))) := by
  have b0 := byN_bd s 0
  have b1 := byN_bd s 1
  have b2 := byN_bd s 2
  have b3 := byN_bd s 3
  have b4 := byN_bd s 4
  have b5 := byN_bd s 5
  unfold isIco
  rw [decide_eq_true h, lowK_two, lowK_two, lowK_two]
  simp only [Nat.zero_add, Nat.reduceAdd, Bool.true_and]
  obtain ⟨x0, hx0⟩ : ∃ x, byN s 0 = x := ⟨_, rfl⟩
  obtain ⟨x1, hx1⟩ : ∃ x, byN s 1 = x := ⟨_, rfl⟩
  obtain ⟨x2, hx2⟩ : ∃ x, byN s 2 = x := ⟨_, rfl⟩
  obtain ⟨x3, hx3⟩ : ∃ x, byN s 3 = x := ⟨_, rfl⟩
  obtain ⟨x4, hx4⟩ : ∃ x, byN s 4 = x := ⟨_, rfl⟩
  obtain ⟨x5, hx5⟩ : ∃ x, byN s 5 = x := ⟨_, rfl⟩
  obtain ⟨z9, hz9⟩ : ∃ b, (byN s 9 == 0) = b := ⟨_, rfl⟩
  rw [hx0] at b0; rw [hx1] at b1; rw [hx2] at b2; rw [hx3] at b3; rw [hx4] at b4; rw [hx5] at b5
  rw [hx0, hx1, hx2, hx3, hx4, hx5, hz9]
  clear hx0 hx1 hx2 hx3 hx4 hx5 hz9
  have e1 : (x0 + x1 * 256 == 0) = (x0 == 0 && x1 == 0) := by rw [Bool.eq_iff_iff]; simp; omega
  have e2 : ((x2 + x3 * 256 == 1) || (x2 + x3 * 256 == 2)) = ((x2 == 1 || x2 == 2) && x3 == 0) := by rw [Bool.eq_iff_iff]; simp; omega
  have e3 : decide (x4 + x5 * 256 > 0) = (x4 != 0 || x5 != 0) := by rw [Bool.eq_iff_iff]; simp; omega
  rw [e1, e2, e3]
  cases (x0 == 0) <;> cases (x1 == 0) <;> cases (x2 == 1 || x2 == 2) <;> cases (x3 == 0) <;> cases (x4 != 0 || x5 != 0) <;> cases z9 <;> rfl
end Go.Proofs.Ytlhcjnjajkfahaa

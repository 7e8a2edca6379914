/- icodir: the better one of two entries, walked. -/
import Derived.Test.YtomikbecbbjhoaaI4
namespace Go.Proofs.Ytomikbecbbjhoaa
open Go.RowKit
set_option linter.unusedVariables false
set_option linter.unusedSimpArgs false
def betterB (p q b c : Int) (cur : Bool) : Bool := bif (p != q) || cur then decide (p > q) else decide (b > c)
theorem mul_small (a b : Int) (h0 : 0 ≤ a) (h1 : a ≤ 256) (h2 : 0 ≤ b) (h3 : b ≤ 256) : 0 ≤ a * b ∧ a * b ≤ 65536 := by
  have := Int.mul_nonneg h0 h2
  have h4 : a * b ≤ 256 * b := Int.mul_le_mul_of_nonneg_right h1 h2
  omega
set_option maxRecDepth 100000 in
set_option maxHeartbeats 4000000 in
theorem better_any (a0 a1 a2 a3 a4 a5 b0 b1 b2 b3 b4 b5 : Int) (cur : Bool) (w : World) (h0 : 0 ≤ a0) (h1 : a0 ≤ 256) (h2 : 0 ≤ a1) (h3 : a1 ≤ 256) (h4 : 0 ≤ b0) (h5 : b0 ≤ 256) (h6 : 0 ≤ b1) (h7 : b1 ≤ 256) :
    Calls Try.prog 80 #[.agg #[.int .i64 a0, .int .i64 a1, .int .i64 a2, .int .i64 a3, .int .i64 a4, .int .i64 a5], .agg #[.int .i64 b0, .int .i64 b1, .int .i64 b2, .int .i64 b3, .int .i64 b4, .int .i64 b5], .bool cur] w fun e w' => e = .returned (.bool (betterB (a0 * a1) (b0 * b1) a3 b3 cur)) ∧ Below w.heap.size w w' := by
  obtain ⟨p0, p1⟩ := mul_small a0 a1 h0 h1 h2 h3
  obtain ⟨q0, q1⟩ := mul_small b0 b1 h4 h5 h6 h7
  obtain ⟨p, hp⟩ : ∃ p, a0 * a1 = p := ⟨_, rfl⟩
  obtain ⟨q, hq⟩ : ∃ q, b0 * b1 = q := ⟨_, rfl⟩
  rw [hp] at p0 p1 ⊢
  rw [hq] at q0 q1 ⊢
  have eW1 : IntKind.i64.wrap p = p := i64_wraps p (by omega) (by omega)
  have eW2 : IntKind.i64.wrap q = q := i64_wraps q (by omega) (by omega)
  obtain ⟨ne, hne⟩ : ∃ b, (p != q) = b := ⟨_, rfl⟩
  have E := Lib.hid (show betterB p q a3 b3 cur = bif ne || cur then decide (p > q) else decide (a3 > b3) by unfold betterB; rw [hne])
  clear p0 p1 q0 q1 h0 h1 h2 h3 h4 h5 h6 h7
  have B0 := Lib.hid (fun o1 o2 => ((Below.refl w.heap.size w).alloc (Nat.le_refl _) o1).alloc (show w.heap.size ≤ (w.alloc o1).heap.size by simp) o2)
  go_enter Try.func80, Try.ntmps80
  go_upto_region 1 with (fail)
  go_quiet (fail)
  cases ne
  · cases cur
    · go_wp2_with fail
      go_ret
      exact ⟨ret_b E.out.symm, bdrew (B0.out _ _) _⟩
    · go_wp2_with fail
      go_ret
      exact ⟨ret_b E.out.symm, bdrew (B0.out _ _) _⟩
  · go_wp2_with fail
    go_ret
    exact ⟨ret_b E.out.symm, bdrew (B0.out _ _) _⟩
end Go.Proofs.Ytomikbecbbjhoaa

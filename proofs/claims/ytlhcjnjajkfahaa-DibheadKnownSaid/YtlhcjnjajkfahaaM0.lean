/- The walks of the small functions of layers 8 and 9 (scale, mask), and of their references. -/
import Derived.Test.YtlhcjnjajkfahaaProg
import Derived.Test.YtlhcjnjajkfahaaA0
import Derived.Deep.RegionHeld3
namespace Go.Proofs.Ytlhcjnjajkfahaa
open Go.RowKit

def rightB (s b : Int) : Bool := decide (0 ≤ s ∧ 1 ≤ b ∧ s < 32 ∧ b ≤ 32 - s)
theorem wrap_ones (n : Nat) (h1 : n ≤ 32) : wrap64 (wrap64 (2 ^ n) - 1) = 2 ^ n - 1 := by
  have := pow_pos' n; have h := pow_le' h1
  rw [IntWalk.wrap64_in (2 ^ n) ⟨by omega, by omega⟩, IntWalk.wrap64_in (2 ^ n - 1) ⟨by omega, by omega⟩]
theorem ones_any (n : Int) (w : World) (h0 : 0 ≤ n) (h1 : n ≤ 32) :
    Calls Try.prog 105 #[.int .i64 n] w fun e w' => e = .returned (.int .i64 (2 ^ n.toNat - 1)) ∧ w = w' := by
  have E := Lib.hid (wrap_ones n.toNat (by omega))
  go_enter Try.func105, Try.ntmps105
  go_wp2
  go_ret
  exact ⟨ret_int E.out, rfl⟩
theorem right_any (s b : Int) (w : World) :
    Calls Try.prog 104 #[.agg #[.int .i64 s, .int .i64 b]] w fun e w' => e = .returned (.bool (rightB s b)) ∧ Below w.heap.size w w' := by
  go_enter Try.func104, Try.ntmps104
  go_wp2
  all_goals
    go_ret
    refine ⟨?_, by go_grown⟩
    simp [rightB, *]
    try omega
/-- A sample v of a greatest value m as eight bits. -/
def mxI (v m : Int) : Int := (2 * v * 255 + m) / (2 * m)
theorem mxI_bd (v m : Int) (h0 : 0 ≤ v) (h1 : v ≤ m) (h2 : 1 ≤ m) : 0 ≤ mxI v m ∧ mxI v m ≤ 255 := by
  unfold mxI
  refine ⟨Int.ediv_nonneg (by omega) (by omega), ?_⟩
  have : (2 * v * 255 + m) / (2 * m) < 256 := Int.ediv_lt_of_lt_mul (by omega) (by omega)
  omega
/-- A mask's place: none at all, or one that fits. -/
def okM (s b : Int) : Prop := (s = 0 ∧ b = 0) ∨ rightB s b = true
/-- A channel of a word, as eight bits. -/
def chI (s b word none : Int) : Int := if b = 0 then none else mxI (word / 2 ^ s.toNat % 2 ^ b.toNat) (2 ^ b.toNat - 1)
/-- Eight bits as a channel of a word. -/
def putI (s b v : Int) : Int := if rightB s b = true then (2 * v * (2 ^ b.toNat - 1) + 255) / 510 * 2 ^ s.toNat else 0
theorem put_lt (b : Nat) (v : Int) (h0 : 0 ≤ v) (h1 : v ≤ 255) : 0 ≤ (2 * v * (2 ^ b - 1) + 255) / 510 ∧ (2 * v * (2 ^ b - 1) + 255) / 510 < 2 ^ b := by
  have hp := pow_pos' b
  have hm : 0 ≤ 2 * v * (2 ^ b - 1) := Int.mul_nonneg (by omega) (by omega)
  have hm2 : 2 * v * (2 ^ b - 1) ≤ 510 * (2 ^ b - 1) := Int.mul_le_mul_of_nonneg_right (by omega) (by omega)
  constructor <;> omega
end Go.Proofs.Ytlhcjnjajkfahaa

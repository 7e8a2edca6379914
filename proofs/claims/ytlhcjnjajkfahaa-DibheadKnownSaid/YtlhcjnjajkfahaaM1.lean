/- The walks of mask.Mask.Word, mask.Set.Word, mask.Common, mask.Find, mask.Four. -/
import Derived.Test.YtlhcjnjajkfahaaM0
namespace Go.Proofs.Ytlhcjnjajkfahaa
open Go.RowKit

/-- The mask of a place. -/
def wordI (s b : Int) : Int := if rightB s b = true then (2 ^ b.toNat - 1) * 2 ^ s.toNat else 0
theorem mword_any (s b : Int) (w : World) :
    Calls Try.prog 78 #[.agg #[.int .i64 s, .int .i64 b]] w fun e w' => e = .returned (.int .i64 (wordI s b)) ∧ Below w.heap.size w w' := by
  by_cases hr : rightB s b = true
  · have hb1 : 0 ≤ s ∧ 1 ≤ b ∧ s < 32 ∧ b ≤ 32 - s := by simpa [rightB] using hr
    obtain ⟨b1, b2, b3, b4⟩ := hb1
    obtain ⟨n, rfl⟩ := Int.eq_ofNat_of_zero_le (show 0 ≤ b by omega)
    obtain ⟨k, rfl⟩ := Int.eq_ofNat_of_zero_le b1
    have hp := pow_pos' n
    have hk := pow_pos' k
    have hle2 := pow_le' (show n + k ≤ 32 by omega)
    rw [Int.pow_add] at hle2
    have hq0 : (0 : Int) ≤ (2 ^ n - 1) * 2 ^ k := Int.mul_nonneg (by omega) (by omega)
    have hq1 : ((2 : Int) ^ n - 1) * 2 ^ k ≤ 2 ^ n * 2 ^ k := Int.mul_le_mul_of_nonneg_right (by omega) (by omega)
    have hle3 : ((2 : Int) ^ n - 1) * 2 ^ k ≤ 4294967296 := by omega
    have E1 := Lib.hid (show wordI (↑k) (↑n) = (2 ^ n - 1) * 2 ^ k by unfold wordI; rw [if_pos hr]; simp)
    clear hle2 hp hk hq1
    go_enter Try.func78, Try.ntmps78
    go_wp2_with (go_at_call 104; (with_reducible refine (right_any _ _ _).mono ?_); rintro e w1 ⟨rfl, hb⟩; obtain ⟨hc, hf⟩ := bcell hb)
    go_quiet ((go_at_call 105; exact Calls.quiet_of_same ((ones_any _ _ (by omega) (by omega)).mono (fun e w' h => ⟨h.1, h.2.symm⟩))))
    go_wp2
    go_ret
    exact ⟨ret_int E1.out.symm, bdrew (bthen hb (by go_grown) (by simp)) _⟩
  · have E1 := Lib.hid (show wordI s b = 0 from if_neg hr)
    have hr' : rightB s b = false := by simpa using hr
    clear hr
    go_enter Try.func78, Try.ntmps78
    go_wp2_with (go_at_call 104; (with_reducible refine (right_any _ _ _).mono ?_); rintro e w1 ⟨rfl, hb⟩; obtain ⟨hc, hf⟩ := bcell hb)
    go_ret
    exact ⟨ret_int E1.out.symm, bthen hb (by go_grown) (by simp)⟩

theorem common16 (w : World) : Calls Try.prog 77 #[.int .i64 16] w fun e w' => e = .returned (.tuple #[.agg #[.int .i64 10, .int .i64 5, .int .i64 5, .int .i64 5, .int .i64 0, .int .i64 5, .int .i64 0, .int .i64 0], .bool true]) ∧ Below w.heap.size w w' := by
  go_enter Try.func77, Try.ntmps77
  go_wp2
  refine bodyPost_ret (v := .tuple #[.agg #[.int .i64 10, .int .i64 5, .int .i64 5, .int .i64 5, .int .i64 0, .int .i64 5, .int .i64 0, .int .i64 0], .bool true]) (by simp [results, Try.results77, go_sem]) rfl ⟨rfl, by go_grown⟩
theorem common32 (w : World) : Calls Try.prog 77 #[.int .i64 32] w fun e w' => e = .returned (.tuple #[.agg #[.int .i64 16, .int .i64 8, .int .i64 8, .int .i64 8, .int .i64 0, .int .i64 8, .int .i64 0, .int .i64 0], .bool true]) ∧ Below w.heap.size w w' := by
  go_enter Try.func77, Try.ntmps77
  go_wp2
  refine bodyPost_ret (v := .tuple #[.agg #[.int .i64 16, .int .i64 8, .int .i64 8, .int .i64 8, .int .i64 0, .int .i64 8, .int .i64 0, .int .i64 0], .bool true]) (by simp [results, Try.results77, go_sem]) rfl ⟨rfl, by go_grown⟩
theorem common_no (n : Int) (w : World) (h1 : (n == 16) = false) (h2 : (n == 32) = false) : Calls Try.prog 77 #[.int .i64 n] w fun e w' => e = .returned (.tuple #[.agg #[.int .i64 0, .int .i64 0, .int .i64 0, .int .i64 0, .int .i64 0, .int .i64 0, .int .i64 0, .int .i64 0], .bool false]) ∧ Below w.heap.size w w' := by
  go_enter Try.func77, Try.ntmps77
  go_wp2
  refine bodyPost_ret (v := .tuple #[.agg #[.int .i64 0, .int .i64 0, .int .i64 0, .int .i64 0, .int .i64 0, .int .i64 0, .int .i64 0, .int .i64 0], .bool false]) (by simp [results, Try.results77, go_sem]) rfl ⟨rfl, by go_grown⟩

/-! ### Find -/
/-- How many bits of a number are 0 before the first that is 1; how many are 1 before the first that is 0. -/
def tzF : Nat → Int → Nat
  | 0, _ => 0
  | f + 1, w => if w % 2 = 0 then tzF f (w / 2) + 1 else 0
def toF : Nat → Int → Nat
  | 0, _ => 0
  | f + 1, w => if w % 2 = 1 then toF f (w / 2) + 1 else 0
theorem tzF_spec (f : Nat) : ∀ w : Int, 0 < w → w < 2 ^ f → tzF f w < f ∧ w / 2 ^ tzF f w % 2 = 1 ∧ ∀ i, i < tzF f w → w / 2 ^ i % 2 = 0 := by
  induction f with
  | zero => intro w h0 h1; simp at h1; omega
  | succ f ih =>
    intro w h0 h1
    rw [pow_succ'] at h1
    unfold tzF
    by_cases hm : w % 2 = 0
    · rw [if_pos hm]
      obtain ⟨a, b, c⟩ := ih (w / 2) (by omega) (by omega)
      refine ⟨by omega, ?_, ?_⟩
      · rw [Int.pow_succ, Int.mul_comm, ← Int.ediv_ediv_of_nonneg (by decide)]; exact b
      · intro i hi
        cases i with
        | zero => simpa using hm
        | succ i => rw [Int.pow_succ, Int.mul_comm, ← Int.ediv_ediv_of_nonneg (by decide)]; exact c i (by omega)
    · rw [if_neg hm]
      exact ⟨by omega, by simp; omega, fun i hi => by omega⟩
theorem toF_spec (f : Nat) : ∀ w : Int, 0 ≤ w → w < 2 ^ f → toF f w ≤ f ∧ w / 2 ^ toF f w % 2 = 0 ∧ ∀ i, i < toF f w → w / 2 ^ i % 2 = 1 := by
  induction f with
  | zero => intro w h0 h1; simp at h1; exact ⟨by simp [toF], by simp [toF]; omega, fun i hi => by simp [toF] at hi⟩
  | succ f ih =>
    intro w h0 h1
    rw [pow_succ'] at h1
    unfold toF
    by_cases hm : w % 2 = 1
    · rw [if_pos hm]
      obtain ⟨a, b, c⟩ := ih (w / 2) (by omega) (by omega)
      refine ⟨by omega, ?_, ?_⟩
      · rw [Int.pow_succ, Int.mul_comm, ← Int.ediv_ediv_of_nonneg (by decide)]; exact b
      · intro i hi
        cases i with
        | zero => simpa using hm
        | succ i => rw [Int.pow_succ, Int.mul_comm, ← Int.ediv_ediv_of_nonneg (by decide)]; exact c i (by omega)
    · rw [if_neg hm]
      exact ⟨by omega, by simp; omega, fun i hi => by omega⟩
def fS (w : Int) : Nat := tzF 32 w
def fB (w : Int) : Nat := toF 32 (w / 2 ^ fS w)
/-- What Find says: the place, and the error's number. -/
def findI (w width : Int) : Int × Int × Int :=
  if ¬ width = 16 ∧ ¬ width = 32 then (0, 0, 1)
  else if w < 0 ∨ 2 ^ width.toNat - 1 < w then (0, 0, 2)
  else if w = 0 then (0, 0, 0)
  else if w / 2 ^ (fS w + fB w) = 0 then (fS w, fB w, 0) else (0, 0, 6)
def FindPost (w : World) (r : Int × Int × Int) (e : Ending) (w' : World) : Prop := e = .returned (.tuple #[.agg #[.int .i64 r.1, .int .i64 r.2.1], .int .i64 r.2.2]) ∧ Below w.heap.size w w'
set_option maxHeartbeats 400000 in
theorem find_arg (m width : Int) (w : World) (h1 : ¬ width = 16) (h2 : ¬ width = 32) : Calls Try.prog 121 #[.int .i64 m, .int .i64 width] w (FindPost w (0, 0, 1)) := by
  have g1 : (width != 16) = true := by simpa using h1
  have g2 : (width != 32) = true := by simpa using h2
  clear h1 h2
  go_enter Try.func121, Try.ntmps121
  go_wp2
  exact bodyPost_ret (v := .tuple #[.agg #[.int .i64 0, .int .i64 0], .int .i64 1]) (by simp [results, Try.results121, go_sem]) rfl (show FindPost _ _ _ _ from ⟨rfl, by go_grown⟩)
theorem ones16 : (2 : Int) ^ (16 : Int).toNat - 1 = 65535 := by decide
theorem ones32 : (2 : Int) ^ (32 : Int).toNat - 1 = 4294967295 := by decide
end Go.Proofs.Ytlhcjnjajkfahaa

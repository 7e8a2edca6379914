/- need.Within, walked. -/
import Derived.Test.YtcjjfnghgajefaaGreatK11
import Derived.Test.YtcjjfnghgajefaaGreatK0
namespace Go.Proofs.YtcjjfnghgajefaaGreat
open Go.RowKit
set_option linter.unusedVariables false
set_option linter.unusedSimpArgs false
def withinB (a0 a1 a2 a3 b0 b1 b2 b3 : Int) : Bool := leB a0 b0 && (leB a1 b1 && (leB a2 b2 && leB a3 b3))
def pk (x0 x1 x2 x3 : Int) : Nat → Int
  | 0 => x0
  | 1 => x1
  | 2 => x2
  | _ => x3
def wF (a0 a1 a2 a3 b0 b1 b2 b3 : Int) : Nat → Bool
  | 0 => leB a0 b0 && (leB a1 b1 && (leB a2 b2 && leB a3 b3))
  | 1 => leB a1 b1 && (leB a2 b2 && leB a3 b3)
  | 2 => leB a2 b2 && leB a3 b3
  | 3 => leB a3 b3
  | _ => true
theorem nidx (a0 a1 a2 a3 b0 b1 b2 b3 : Int) (k : Nat) (hk : k < 4) (w : World) : (Instr.index 40 (.agg #[.int .i64 a0, .int .i64 b0, .int .i64 a1, .int .i64 b1, .int .i64 a2, .int .i64 b2, .int .i64 a3, .int .i64 b3]) (.int .i64 k)).run Tryz.prog w = .ok (.agg #[.int .i64 (pk a0 a1 a2 a3 k), .int .i64 (pk b0 b1 b2 b3 k)]) w := by
  rcases (show k = 0 ∨ k = 1 ∨ k = 2 ∨ k = 3 by omega) with rfl | rfl | rfl | rfl <;> kernel_rfl
theorem wF_step (a0 a1 a2 a3 b0 b1 b2 b3 : Int) (k : Nat) (hk : k < 4) : wF a0 a1 a2 a3 b0 b1 b2 b3 k = (leB (pk a0 a1 a2 a3 k) (pk b0 b1 b2 b3 k) && wF a0 a1 a2 a3 b0 b1 b2 b3 (k + 1)) := by
  rcases (show k = 0 ∨ k = 1 ∨ k = 2 ∨ k = 3 by omega) with rfl | rfl | rfl | rfl
  · rfl
  · rfl
  · rfl
  · exact (Bool.and_true _).symm
set_option maxRecDepth 100000 in
set_option maxHeartbeats 4000000 in
theorem nwithin_any (a0 a1 a2 a3 b0 b1 b2 b3 : Int) (w : World) : Calls Tryz.prog 9 #[.agg #[.int .i64 a0, .int .i64 a1, .int .i64 a2, .int .i64 a3], .agg #[.int .i64 b0, .int .i64 b1, .int .i64 b2, .int .i64 b3]] w fun e w' => e = .returned (.bool (withinB a0 a1 a2 a3 b0 b1 b2 b3)) ∧ Below w.heap.size w w' := by
  obtain ⟨R, hR⟩ : ∃ R, withinB a0 a1 a2 a3 b0 b1 b2 b3 = R := ⟨_, rfl⟩
  have HR := Hi (show wF a0 a1 a2 a3 b0 b1 b2 b3 0 = R from hR)
  rw [hR]
  clear hR
  have HIX := Hi (nidx a0 a1 a2 a3 b0 b1 b2 b3)
  have HST := Hi (wF_step a0 a1 a2 a3 b0 b1 b2 b3)
  have H4 := Hi (show wF a0 a1 a2 a3 b0 b1 b2 b3 4 = true from rfl)
  obtain ⟨F, hF⟩ : ∃ F, wF a0 a1 a2 a3 b0 b1 b2 b3 = F := ⟨_, rfl⟩
  rw [hF] at HR HST H4
  clear hF
  obtain ⟨pa, hpa⟩ : ∃ F, pk a0 a1 a2 a3 = F := ⟨_, rfl⟩
  obtain ⟨pb, hpb⟩ : ∃ F, pk b0 b1 b2 b3 = F := ⟨_, rfl⟩
  rw [hpa, hpb] at HST HIX
  clear hpa hpb
  have BL0 := Hi (fun o1 o2 => ((Below.refl w.heap.size w).alloc (Nat.le_refl _) o1).alloc (by simp) o2)
  go_enter Tryz.func9, Tryz.ntmps9
  go_upto_region 2 with (fail)
  go_loopw [28] (fun cc wr => ∃ k : Nat, k ≤ 4 ∧ cc = .int .i64 k ∧ F k = R ∧ Below w.heap.size w wr) (fun cc _ => 4 - (intOf cc).toNat)
  case atStart => exact ⟨0, by omega, rfl, HR.out, BL0.out _ _⟩
  case round =>
    obtain ⟨k, hk, rfl, hf, hb⟩ := hrel
    have BL := Hi hb
    have HF := Hi hf
    clear hf hb
    by_cases hlt : k < 4
    rotate_left
    · have E := Hi (show true = R by rw [← HF.out, show k = 4 by omega]; exact H4.out.symm)
      clear hk
      go_wp2
      go_ret
      exact ⟨by rw [← E.out]; rfl, BL.out⟩
    · have HS := Hi (show (leB (pa k) (pb k) && F (k + 1)) = R by rw [← HF.out]; exact (HST.out k hlt).symm)
      have ix := fun w0 => HIX.out k hlt w0
      obtain ⟨x, hx⟩ : ∃ x, pa k = x := ⟨_, rfl⟩
      obtain ⟨y, hy⟩ : ∃ x, pb k = x := ⟨_, rfl⟩
      rw [hx, hy] at HS ix
      clear hx hy
      have BL2 := Hi (fun o1 => BL.out.alloc BL.out.size o1)
      by_cases hle : max x 0 ≤ max y 0
      · have E := Hi (show F (k + 1) = R by have := HS.out; rw [show leB x y = true from decide_eq_true (show x ≤ y ∨ x ≤ 0 by omega), Bool.true_and] at this; exact this)
        have D := Hi (show ¬ (max y 0 < max x 0) by omega)
        rcases (show (x ≤ 0 ∧ y ≤ 0) ∨ (x ≤ 0 ∧ 0 < y) ∨ (0 < x ∧ 0 < y ∧ x ≤ y) by omega) with ⟨s1, s2⟩ | ⟨s1, s2⟩ | ⟨s1, s2, s3⟩
        all_goals
          clear hle
          go_wp2
          all_goals
            go_roundw
            case rel => exact ⟨k + 1, by omega, by go_num, E.out, BL2.out _⟩
            case measure => simp [intOf]; omega
      · have E := Hi (show false = R by have := HS.out; rw [show leB x y = false from decide_eq_false (show ¬ (x ≤ y ∨ x ≤ 0) by omega), Bool.false_and] at this; exact this)
        rcases (show (0 < x ∧ y ≤ 0) ∨ (0 < x ∧ 0 < y ∧ y < x) by omega) with ⟨s1, s2⟩ | ⟨s1, s2, s3⟩
        all_goals
          clear hle
          go_wp2
          all_goals
            go_ret
            exact ⟨by rw [← E.out]; rfl, BL2.out _⟩
end Go.Proofs.YtcjjfnghgajefaaGreat

/- icodir: entries, walked. -/
import Derived.Test.YtomikbecbbjhoaaI0
import Derived.Test.YtomikbecbbjhoaaT5
namespace Go.Proofs.Ytomikbecbbjhoaa
open Go.RowKit
set_option linter.unusedVariables false
set_option linter.unusedSimpArgs false
/-- The entry that stands at a place. -/
def entL (s : ByteArray) (a : Nat) : List Value := [.int .i64 (sideI (byN s a)), .int .i64 (sideI (byN s (a + 1))), .int .i64 (lowK s (a + 4) 2), .int .i64 (lowK s (a + 6) 2), .int .i64 (lowK s (a + 8) 4), .int .i64 (lowK s (a + 12) 4)]
set_option maxRecDepth 100000 in
set_option maxHeartbeats 4000000 in
theorem entry_any (s : ByteArray) (w : World) (h : s.size = 16) : Calls Try.prog 78 #[.string s] w (RA w (entL s 0)) := by
  have b0 := byN_bd s 0
  have b1 := byN_bd s 1
  have i0 : 0 < s.size := by omega
  have i1 : 1 < s.size := by omega
  have E : entL s 0 = entL s 0 := rfl
  conv at E => rhs; unfold entL
  simp only [Nat.zero_add] at E
  obtain ⟨x0, hx0⟩ : ∃ x, byN s 0 = x := ⟨_, rfl⟩
  obtain ⟨x1, hx1⟩ : ∃ x, byN s 1 = x := ⟨_, rfl⟩
  obtain ⟨A, hA⟩ : ∃ x, lowK s 4 2 = x := ⟨_, rfl⟩
  obtain ⟨B, hB⟩ : ∃ x, lowK s 6 2 = x := ⟨_, rfl⟩
  obtain ⟨C, hC⟩ : ∃ x, lowK s 8 4 = x := ⟨_, rfl⟩
  obtain ⟨D, hD⟩ : ∃ x, lowK s 12 4 = x := ⟨_, rfl⟩
  have g0 : ((s[0]).toNat : Int) = x0 := by rw [← hx0]; exact byN_get s 0 i0
  have g1 : ((s[1]).toNat : Int) = x1 := by rw [← hx1]; exact byN_get s 1 i1
  rw [hx0] at b0
  rw [hx1] at b1
  rw [hx0, hx1, hA, hB, hC, hD] at E
  have HS0 := Lib.hid (fun w0 => side_any x0 w0 b0.1 b0.2)
  have HS1 := Lib.hid (fun w0 => side_any x1 w0 b1.1 b1.2)
  have HA := Lib.hid (fun w0 => low_at s 4 2 4 2 A w0 rfl rfl hA (by omega) (by omega) (by omega))
  have HBB := Lib.hid (fun w0 => low_at s 6 2 6 2 B w0 rfl rfl hB (by omega) (by omega) (by omega))
  have HC := Lib.hid (fun w0 => low_at s 8 4 8 4 C w0 rfl rfl hC (by omega) (by omega) (by omega))
  have HD := Lib.hid (fun w0 => low_at s 12 4 12 4 D w0 rfl rfl hD (by omega) (by omega) (by omega))
  obtain ⟨y0, hy0⟩ : ∃ y, sideI x0 = y := ⟨_, rfl⟩
  obtain ⟨y1, hy1⟩ : ∃ y, sideI x1 = y := ⟨_, rfl⟩
  rw [hy0] at E HS0
  rw [hy1] at E HS1
  have E := Lib.hid E
  clear hx0 hx1 hA hB hC hD hy0 hy1 b0 b1 h
  go_enter Try.func78, Try.ntmps78
  go_upto_region 1 with (fail)
  have OR := Lib.hid (obj1_new w #[.int .i64 0, .int .i64 0, .int .i64 0, .int .i64 0, .int .i64 0, .int .i64 0] 59)
  have BR := Lib.hid ((Below.refl w.heap.size w).alloc (Nat.le_refl _) (.cells #[.int .i64 0, .int .i64 0, .int .i64 0, .int .i64 0, .int .i64 0, .int .i64 0] 59))
  generalize World.alloc _ _ = w1 at OR BR ⊢
  refine wp_region_quiet_tail 15 (by kernel_rfl) (by kernel_rfl) ?_
  simp only [List.take_succ_cons, List.take_zero, List.drop_succ_cons, List.drop_zero]
  repeat go_big_quiet_step (first
    | (go_at_call 116; first | with_reducible exact Calls.quiet_of_same (HS0.out _) | with_reducible exact Calls.quiet_of_same (HS1.out _))
    | (go_at_call 82; first | with_reducible exact Calls.quiet_of_same (HA.out _) | with_reducible exact Calls.quiet_of_same (HBB.out _) | with_reducible exact Calls.quiet_of_same (HC.out _) | with_reducible exact Calls.quiet_of_same (HD.out _)))
  refine wpQuiet_nil ?_
  intro _ hw'
  obtain ⟨nq, hw''⟩ := hw'
  subst hw''
  have OR := Lib.hid (OR.out.drewN nq)
  have BR := Lib.hid (bdrew BR.out nq)
  generalize World.drewN _ _ = w2 at OR BR ⊢
  go_wp2_with (refine store_o rfl 59 6 _ _ rfl w.heap.size [.int .i64 y0, .int .i64 y1, .int .i64 A, .int .i64 B, .int .i64 C, .int .i64 D] rfl rfl (by kernel_rfl) (by kernel_rfl) (by kernel_rfl) OR.out (by first | rfl | simp) ?_; intro w3 hst hO; have HO := Lib.hid hO; have B9 := Lib.hid (hst.below BR.out (Nat.le_refl _)); clear hst hO; refine gen_frame 2 (.pointer (some ⟨w.heap.size, 0, none⟩)) (by kernel_rfl) (by kernel_rfl) ?_; intro F hF hFd)
  refine bodyPost_ret (v := .agg (List.toArray [.int .i64 y0, .int .i64 y1, .int .i64 A, .int .i64 B, .int .i64 C, .int .i64 D])) ?_ hFd ⟨by rw [E.out], B9.out⟩
  exact results_c Try.results78 _ _ _ _ _ hF HO.out.range0 Try.underlying59 rfl (by kernel_rfl)
end Go.Proofs.Ytomikbecbbjhoaa

/- icodir: entries by number, of the program and of the document, walked. -/
import Derived.Test.YtomikbecbbjhoaaI1
namespace Go.Proofs.Ytomikbecbbjhoaa
open Go.RowKit
set_option linter.unusedVariables false
set_option linter.unusedSimpArgs false
theorem lowK_ext (s : ByteArray) (a n c k : Nat) (h : a + c + k ≤ n) (hn : n ≤ s.size) : lowK (s.extract a n) c k = lowK s (a + c) k := by
  induction k with
  | zero => rfl
  | succ k ih => rw [lowK, lowK, ih (by omega), byN_ext s a n (c + k) (by omega) hn, Nat.add_assoc]
theorem entL_ext (s : ByteArray) (a n : Nat) (h : a + 16 ≤ n) (hn : n ≤ s.size) : entL (s.extract a n) 0 = entL s a := by
  unfold entL
  rw [byN_ext s a n 0 (by omega) hn, byN_ext s a n (0 + 1) (by omega) hn, lowK_ext s a n (0 + 4) 2 (by omega) hn, lowK_ext s a n (0 + 6) 2 (by omega) hn, lowK_ext s a n (0 + 8) 4 (by omega) hn, lowK_ext s a n (0 + 12) 4 (by omega) hn]
  simp only [Nat.zero_add, Nat.add_zero]
theorem le_low (s : ByteArray) (a b k : Nat) (V : Int) (w : World) (hb : b = a + k) (hk : k ≤ 4) (h : b ≤ s.size) (hV : lowK s a k = V) : Calls Try.prog 45 #[.string (s.extract a b)] w fun e w' => e = .returned (.int .i64 V) ∧ w' = w := by
  have hz : (s.extract a b).size = k := by rw [ByteArray.size_extract]; omega
  refine (rle_any (s.extract a b) w (by omega)).mono ?_
  rintro e w' ⟨rfl, rfl⟩
  exact ⟨ret_i (by rw [hz, lowK_lo s a b k (by omega) h, hV]), rfl⟩
set_option maxRecDepth 100000 in
set_option maxHeartbeats 4000000 in
theorem rget_any (s : ByteArray) (i : Nat) (w : World) (h : 22 + 16 * i ≤ s.size) (hs : s.size ≤ 100000) : Calls Try.prog 43 #[.string s, .int .i64 i] w (RA w (entL s (6 + 16 * i))) := by
  have E0 := entL_ext s (6 + 16 * i) s.size (by omega) (Nat.le_refl _)
  have bz : (s.extract (6 + 16 * i) s.size).size = s.size - (6 + 16 * i) := by rw [ByteArray.size_extract]; omega
  obtain ⟨b, hbb⟩ : ∃ b, s.extract (6 + 16 * i) s.size = b := ⟨_, rfl⟩
  rw [hbb] at E0 bz
  have b0 := byN_bd b 0
  have b1 := byN_bd b 1
  have i0 : 0 < b.size := by omega
  have i1 : 1 < b.size := by omega
  unfold entL at E0
  simp only [Nat.zero_add] at E0
  obtain ⟨x0, hx0⟩ : ∃ x, byN b 0 = x := ⟨_, rfl⟩
  obtain ⟨x1, hx1⟩ : ∃ x, byN b 1 = x := ⟨_, rfl⟩
  obtain ⟨A, hA⟩ : ∃ x, lowK b 4 2 = x := ⟨_, rfl⟩
  obtain ⟨B, hB⟩ : ∃ x, lowK b 6 2 = x := ⟨_, rfl⟩
  obtain ⟨C, hC⟩ : ∃ x, lowK b 8 4 = x := ⟨_, rfl⟩
  obtain ⟨D, hD⟩ : ∃ x, lowK b 12 4 = x := ⟨_, rfl⟩
  have g0 : ((b[0]).toNat : Int) = x0 := by rw [← hx0]; exact byN_get b 0 i0
  have g1 : ((b[1]).toNat : Int) = x1 := by rw [← hx1]; exact byN_get b 1 i1
  rw [hx0] at b0
  rw [hx1] at b1
  rw [hx0, hx1, hA, hB, hC, hD] at E0
  have HS0 := Lib.hid (fun w0 => rside24_any x0 w0 b0.1 b0.2)
  have HS1 := Lib.hid (fun w0 => rside24_any x1 w0 b1.1 b1.2)
  have HA := Lib.hid (fun w0 => le_low b 4 6 2 A w0 rfl (by omega) (by omega) hA)
  have HBB := Lib.hid (fun w0 => le_low b 6 8 2 B w0 rfl (by omega) (by omega) hB)
  have HC := Lib.hid (fun w0 => le_low b 8 12 4 C w0 rfl (by omega) (by omega) hC)
  have HD := Lib.hid (fun w0 => le_low b 12 16 4 D w0 rfl (by omega) (by omega) hD)
  obtain ⟨y0, hy0⟩ : ∃ y, sideI x0 = y := ⟨_, rfl⟩
  obtain ⟨y1, hy1⟩ : ∃ y, sideI x1 = y := ⟨_, rfl⟩
  rw [hy0] at E0 HS0
  rw [hy1] at E0 HS1
  have E := Lib.hid (show entL s (6 + 16 * i) = [.int .i64 y0, .int .i64 y1, .int .i64 A, .int .i64 B, .int .i64 C, .int .i64 D] from E0.symm)
  have q16 : (16 : Int) ≤ b.size := by omega
  have i3 : ((6 : Int) + 16 * (i : Int)).toNat = 6 + 16 * i := by omega
  have HBX := Lib.hid hbb
  clear hx0 hx1 hA hB hC hD hy0 hy1 b0 b1 E0 hbb
  go_enter Try.func43, Try.ntmps43
  go_upto_region 2 with (fail)
  rw [HBX.out]
  have OR := Lib.hid (obj1_new w #[.int .i64 0, .int .i64 0, .int .i64 0, .int .i64 0, .int .i64 0, .int .i64 0] 65)
  have BR := Lib.hid ((Below.refl w.heap.size w).alloc (Nat.le_refl _) (.cells #[.int .i64 0, .int .i64 0, .int .i64 0, .int .i64 0, .int .i64 0, .int .i64 0] 65))
  generalize World.alloc _ _ = w1 at OR BR ⊢
  refine wp_region_quiet_tail 19 (by kernel_rfl) (by kernel_rfl) ?_
  simp only [List.take_succ_cons, List.take_zero, List.drop_succ_cons, List.drop_zero]
  repeat go_big_quiet_step (first
    | (go_at_call 83; first | with_reducible exact Calls.quiet_of_same (HS0.out _) | with_reducible exact Calls.quiet_of_same (HS1.out _))
    | (go_at_call 45; first | with_reducible exact Calls.quiet_of_same (HA.out _) | with_reducible exact Calls.quiet_of_same (HBB.out _) | with_reducible exact Calls.quiet_of_same (HC.out _) | with_reducible exact Calls.quiet_of_same (HD.out _)))
  refine wpQuiet_nil ?_
  intro _ hw'
  obtain ⟨nq, hw''⟩ := hw'
  subst hw''
  have OR := Lib.hid (OR.out.drewN nq)
  have BR := Lib.hid (bdrew BR.out nq)
  generalize World.drewN _ _ = w2 at OR BR ⊢
  go_wp2_with (refine store_o rfl 65 6 _ _ rfl w.heap.size [.int .i64 y0, .int .i64 y1, .int .i64 A, .int .i64 B, .int .i64 C, .int .i64 D] rfl rfl (by kernel_rfl) (by kernel_rfl) (by kernel_rfl) OR.out (by first | rfl | simp) ?_; intro w3 hst hO; have HO := Lib.hid hO; have B9 := Lib.hid (hst.below BR.out (Nat.le_refl _)); clear hst hO; refine gen_frame 4 (.pointer (some ⟨w.heap.size, 0, none⟩)) (by kernel_rfl) (by kernel_rfl) ?_; intro F hF hFd)
  refine bodyPost_ret (v := .agg (List.toArray [.int .i64 y0, .int .i64 y1, .int .i64 A, .int .i64 B, .int .i64 C, .int .i64 D])) ?_ hFd ⟨by rw [E.out], B9.out⟩
  exact results_c Try.results43 _ _ _ _ _ hF HO.out.range0 Try.underlying65 rfl (by kernel_rfl)
end Go.Proofs.Ytomikbecbbjhoaa

/- The walks of the small functions of layers 8 and 9 (scale, mask), and of their references. -/
import Derived.Test.YtobpocdpnkicnaaProg
import Derived.Test.YtobpocdpnkicnaaA0
import Derived.Deep.RegionHeld3
namespace Go.Proofs.Ytobpocdpnkicnaa
open Go.RowKit

def rightB (s b : Int) : Bool := decide (0 ≤ s ∧ 1 ≤ b ∧ s < 32 ∧ b ≤ 32 - s)
theorem wrap_ones (n : Nat) (h1 : n ≤ 32) : wrap64 (wrap64 (2 ^ n) - 1) = 2 ^ n - 1 := by
  have := pow_pos' n; have h := pow_le' h1
  rw [IntWalk.wrap64_in (2 ^ n) ⟨by omega, by omega⟩, IntWalk.wrap64_in (2 ^ n - 1) ⟨by omega, by omega⟩]
theorem ones_any (n : Int) (w : World) (h0 : 0 ≤ n) (h1 : n ≤ 32) :
    Calls Try.prog 79 #[.int .i64 n] w fun e w' => e = .returned (.int .i64 (2 ^ n.toNat - 1)) ∧ w = w' := by
  have E := Lib.hid (wrap_ones n.toNat (by omega))
  go_enter Try.func79, Try.ntmps79
  go_wp2
  go_ret
  exact ⟨ret_int E.out, rfl⟩
theorem right_any (s b : Int) (w : World) :
    Calls Try.prog 81 #[.agg #[.int .i64 s, .int .i64 b]] w fun e w' => e = .returned (.bool (rightB s b)) ∧ Below w.heap.size w w' := by
  go_enter Try.func81, Try.ntmps81
  go_wp2
  all_goals
    go_ret
    refine ⟨?_, by go_grown⟩
    simp [rightB, *]
    try omega
theorem of_yes (s b word : Int) (w : World) (hr : rightB s b = true) :
    Calls Try.prog 33 #[.agg #[.int .i64 s, .int .i64 b], .int .i64 word] w fun e w' => e = .returned (.int .i64 (word / 2 ^ s.toNat % 2 ^ b.toNat)) ∧ Below w.heap.size w w' := by
  have hb1 : 0 ≤ s ∧ 1 ≤ b ∧ s < 32 ∧ b ≤ 32 - s := by simpa [rightB] using hr
  obtain ⟨b1, b2, b3, b4⟩ := hb1
  have E := Lib.hid (i64_and_mask (word / 2 ^ s.toNat) b.toNat (by omega))
  go_enter Try.func33, Try.ntmps33
  go_wp2_with (go_at_call 81; (with_reducible refine (right_any _ _ _).mono ?_); rintro e w1 ⟨rfl, hb⟩; obtain ⟨hc, hf⟩ := bcell hb)
  go_quiet ((go_at_call 79; exact Calls.quiet_of_same ((ones_any _ _ (by omega) (by omega)).mono (fun e w' h => ⟨h.1, h.2.symm⟩))))
  go_wp2
  go_ret
  exact ⟨ret_int E.out, bdrew (bthen hb (by go_grown) (by simp)) _⟩
theorem of_no (s b word : Int) (w : World) (hr : rightB s b = false) :
    Calls Try.prog 33 #[.agg #[.int .i64 s, .int .i64 b], .int .i64 word] w fun e w' => e = .returned (.int .i64 0) ∧ Below w.heap.size w w' := by
  go_enter Try.func33, Try.ntmps33
  go_wp2_with (go_at_call 81; (with_reducible refine (right_any _ _ _).mono ?_); rintro e w1 ⟨rfl, hb⟩; obtain ⟨hc, hf⟩ := bcell hb)
  go_ret
  exact ⟨rfl, bthen hb (by go_grown) (by simp)⟩
/-- A sample v of a greatest value m as eight bits. -/
def mxI (v m : Int) : Int := (2 * v * 255 + m) / (2 * m)
theorem mxI_bd (v m : Int) (h0 : 0 ≤ v) (h1 : v ≤ m) (h2 : 1 ≤ m) : 0 ≤ mxI v m ∧ mxI v m ≤ 255 := by
  unfold mxI
  refine ⟨Int.ediv_nonneg (by omega) (by omega), ?_⟩
  have : (2 * v * 255 + m) / (2 * m) < 256 := Int.ediv_lt_of_lt_mul (by omega) (by omega)
  omega
theorem max_yes (v m : Int) (w : World) (h0 : 0 ≤ v) (h1 : v ≤ m) (h2 : 1 ≤ m) (h3 : m ≤ 4294967295) :
    Calls Try.prog 112 #[.int .i64 v, .int .i64 m] w fun e w' => e = .returned (.tuple #[.int .u8 (mxI v m), .bool true]) ∧ w = w' := by
  have hb := mxI_bd v m h0 h1 h2
  have E := Lib.hid (show (2 * v * 255 + m) / (2 * m) % 256 = mxI v m by unfold mxI at *; omega)
  clear hb
  go_enter Try.func112, Try.ntmps112
  go_wp2
  go_ret2
  exact ⟨by rw [← E.out]; rfl, rfl⟩
theorem bits_yes (v n : Int) (w : World) (h0 : 0 ≤ v) (h1 : 1 ≤ n) (h2 : n ≤ 32) (h3 : v ≤ 2 ^ n.toNat - 1) :
    Calls Try.prog 103 #[.int .i64 v, .int .i64 n] w fun e w' => e = .returned (.tuple #[.int .u8 (mxI v (2 ^ n.toNat - 1)), .bool true]) ∧ w = w' := by
  have E := Lib.hid (wrap_ones n.toNat (by omega))
  have H3 := Lib.hid h3
  clear h3
  have P1 := Lib.hid (pow_le' (show 1 ≤ n.toNat by omega))
  have P2 := Lib.hid (pow_le' (show n.toNat ≤ 32 by omega))
  go_enter Try.func103, Try.ntmps103
  go_wp2_with (go_at_call 112; rw [E.out]; refine (max_yes _ _ _ h0 H3.out (by have := P1.out; omega) (by have := P2.out; omega)).mono ?_; rintro e w' ⟨rfl, rfl⟩)
  go_ret2
  exact ⟨rfl, rfl⟩
/-- A mask's place: none at all, or one that fits. -/
def okM (s b : Int) : Prop := (s = 0 ∧ b = 0) ∨ rightB s b = true
/-- A channel of a word, as eight bits. -/
def chI (s b word none : Int) : Int := if b = 0 then none else mxI (word / 2 ^ s.toNat % 2 ^ b.toNat) (2 ^ b.toNat - 1)
theorem chan_any (s b word none : Int) (w : World) (hk : okM s b) :
    Calls Try.prog 77 #[.agg #[.int .i64 s, .int .i64 b], .int .i64 word, .int .u8 none] w fun e w' => e = .returned (.int .u8 (chI s b word none)) ∧ Below w.heap.size w w' := by
  rcases hk with ⟨rfl, rfl⟩ | hr
  · go_enter Try.func77, Try.ntmps77
    go_wp2
    go_ret
    exact ⟨rfl, by go_grown⟩
  · have hb1 : 0 ≤ s ∧ 1 ≤ b ∧ s < 32 ∧ b ≤ 32 - s := by simpa [rightB] using hr
    obtain ⟨b1, b2, b3, b4⟩ := hb1
    have hb0 : (b == 0) = false := by simp; omega
    have E := Lib.hid (show chI s b word none = _ from if_neg (by omega))
    have hp := pow_pos' b.toNat
    have V0 := Lib.hid (Int.emod_nonneg (word / 2 ^ s.toNat) (Int.ne_of_gt hp))
    have V1 := Lib.hid (show word / 2 ^ s.toNat % 2 ^ b.toNat ≤ 2 ^ b.toNat - 1 by have := Int.emod_lt_of_pos (word / 2 ^ s.toNat) hp; omega)
    clear hp
    go_enter Try.func77, Try.ntmps77
    go_wp2
    go_region_held3 (fun w' => w'.cell? ⟨w.heap.size, 0, Option.none⟩ = some (.int .i64 s) ∧ w'.cell? ⟨w.heap.size, 1, Option.none⟩ = some (.int .i64 b)) (simp [go_sem, *])
      (first
        | (go_at_call 33; (with_reducible refine (of_yes _ _ _ _ hr).mono ?_); rintro e w1 ⟨rfl, hb⟩; obtain ⟨hc, hf⟩ := bcell hb)
        | (go_at_call 103; refine (bits_yes _ _ _ V0.out (by omega) (by omega) V1.out).mono ?_; rintro e w' ⟨rfl, rfl⟩))
    go_wp2
    go_ret
    exact ⟨ret_int E.out.symm, bthen hb (by go_grown) (by simp)⟩
/-- Eight bits as a channel of a word. -/
def putI (s b v : Int) : Int := if rightB s b = true then (2 * v * (2 ^ b.toNat - 1) + 255) / 510 * 2 ^ s.toNat else 0
theorem put_lt (b : Nat) (v : Int) (h0 : 0 ≤ v) (h1 : v ≤ 255) : 0 ≤ (2 * v * (2 ^ b - 1) + 255) / 510 ∧ (2 * v * (2 ^ b - 1) + 255) / 510 < 2 ^ b := by
  have hp := pow_pos' b
  have hm : 0 ≤ 2 * v * (2 ^ b - 1) := Int.mul_nonneg (by omega) (by omega)
  have hm2 : 2 * v * (2 ^ b - 1) ≤ 510 * (2 ^ b - 1) := Int.mul_le_mul_of_nonneg_right (by omega) (by omega)
  constructor <;> omega
theorem put_any (s b v : Int) (w : World) (h0 : 0 ≤ v) (h1 : v ≤ 255) :
    Calls Try.prog 82 #[.agg #[.int .i64 s, .int .i64 b], .int .u8 v] w fun e w' => e = .returned (.int .i64 (putI s b v)) ∧ Below w.heap.size w w' := by
  by_cases hr : rightB s b = true
  · have hb1 : 0 ≤ s ∧ 1 ≤ b ∧ s < 32 ∧ b ≤ 32 - s := by simpa [rightB] using hr
    obtain ⟨b1, b2, b3, b4⟩ := hb1
    obtain ⟨n, rfl⟩ := Int.eq_ofNat_of_zero_le (show 0 ≤ b by omega)
    obtain ⟨k, rfl⟩ := Int.eq_ofNat_of_zero_le b1
    have hp := pow_pos' n
    have hk := pow_pos' k
    have hle := pow_le' (show n ≤ 32 by omega)
    have hle2 := pow_le' (show n + k ≤ 32 by omega)
    rw [Int.pow_add] at hle2
    obtain ⟨q0, q1⟩ := put_lt n v h0 h1
    have hm : 0 ≤ 2 * v * (2 ^ n - 1) := Int.mul_nonneg (by omega) (by omega)
    have hm2 : 2 * v * (2 ^ n - 1) ≤ 510 * (2 ^ n - 1) := Int.mul_le_mul_of_nonneg_right (by omega) (by omega)
    have hq0 : 0 ≤ (2 * v * (2 ^ n - 1) + 255) / 510 * 2 ^ k := Int.mul_nonneg q0 (by omega)
    have hq1 : (2 * v * (2 ^ n - 1) + 255) / 510 * 2 ^ k ≤ 2 ^ n * 2 ^ k := Int.mul_le_mul_of_nonneg_right (by omega) (by omega)
    have E1 := Lib.hid (show putI (↑k) (↑n) v = (2 * v * (2 ^ n - 1) + 255) / 510 * 2 ^ k by unfold putI; rw [if_pos hr]; simp)
    have hle3 : (2 * v * (2 ^ n - 1) + 255) / 510 * 2 ^ k ≤ 4294967296 := by omega
    clear hle2 hp hk hq1
    go_enter Try.func82, Try.ntmps82
    go_wp2_with (go_at_call 81; (with_reducible refine (right_any _ _ _).mono ?_); rintro e w1 ⟨rfl, hb⟩; obtain ⟨hc, hf⟩ := bcell hb)
    go_quiet ((go_at_call 79; exact Calls.quiet_of_same ((ones_any _ _ (by omega) (by omega)).mono (fun e w' h => ⟨h.1, h.2.symm⟩))))
    go_wp2
    go_ret
    exact ⟨ret_int E1.out.symm, bdrew (bthen hb (by go_grown) (by simp)) _⟩
  · have E1 := Lib.hid (show putI s b v = 0 from if_neg hr)
    have hr' : rightB s b = false := by simpa using hr
    clear hr
    go_enter Try.func82, Try.ntmps82
    go_wp2_with (go_at_call 81; (with_reducible refine (right_any _ _ _).mono ?_); rintro e w1 ⟨rfl, hb⟩; obtain ⟨hc, hf⟩ := bcell hb)
    go_ret
    exact ⟨ret_int E1.out.symm, bthen hb (by go_grown) (by simp)⟩
set_option maxRecDepth 100000 in
set_option maxHeartbeats 1000000 in
theorem color_any (s0 b0 s1 b1 s2 b2 s3 b3 word : Int) (w : World) (k0 : okM s0 b0) (k1 : okM s1 b1) (k2 : okM s2 b2) (k3 : okM s3 b3) :
    Calls Try.prog 28 #[.agg #[.int .i64 s0, .int .i64 b0, .int .i64 s1, .int .i64 b1, .int .i64 s2, .int .i64 b2, .int .i64 s3, .int .i64 b3], .int .i64 word] w fun e w' =>
      e = .returned (.agg #[.int .u8 (chI s0 b0 word 0), .int .u8 (chI s1 b1 word 0), .int .u8 (chI s2 b2 word 0), .int .u8 (chI s3 b3 word 255)]) ∧ Below w.heap.size w w' := by
  go_enter Try.func28, Try.ntmps28
  go_wp2
  go_region_held3 (fun w' => KS (w.heap.size + 1) ((w.alloc (Obj.cells #[Value.int IntKind.i64 s0, Value.int IntKind.i64 b0, Value.int IntKind.i64 s1, Value.int IntKind.i64 b1, Value.int IntKind.i64 s2, Value.int IntKind.i64 b2, Value.int IntKind.i64 s3, Value.int IntKind.i64 b3] 50)).alloc (Obj.cells #[Value.int IntKind.u8 0, Value.int IntKind.u8 0, Value.int IntKind.u8 0, Value.int IntKind.u8 0] 41)) (w.heap.size + 1) 4 w')
    (first | exact ks_next (by assumption) hb | exact ks_drew ⟨kp_refl (by simp), slot_alloc' (by simp) rfl⟩ | ((repeat (refine ks_set ?_ _ _ (by simp))); assumption))
      (first
        | (go_at_call 77; (with_reducible refine (chan_any s0 b0 _ _ _ k0).mono ?_); rintro e w1 ⟨rfl, hb⟩)
        | (go_at_call 77; (with_reducible refine (chan_any s1 b1 _ _ _ k1).mono ?_); rintro e w2 ⟨rfl, hb⟩)
        | (go_at_call 77; (with_reducible refine (chan_any s2 b2 _ _ _ k2).mono ?_); rintro e w3 ⟨rfl, hb⟩)
        | (go_at_call 77; (with_reducible refine (chan_any s3 b3 _ _ _ k3).mono ?_); rintro e w4 ⟨rfl, hb⟩))
  rename_i hH
  obtain ⟨hH1, hH2⟩ := hH
  obtain ⟨q0, q1, q2, q3⟩ := slot4 hH2
  have H1 := Lib.hid hH1.1
  clear hH1 hH2
  go_wp2
  refine bodyPost_ret (v := .agg #[.int .u8 (chI s0 b0 word 0), .int .u8 (chI s1 b1 word 0), .int .u8 (chI s2 b2 word 0), .int .u8 (chI s3 b3 word 255)]) ?_ rfl ⟨rfl, ?_⟩
  · simp [results, Try.results28, go_sem, q0, q1, q2, q3]
  · exact bthen H1.out (by go_grown) (by simp)
end Go.Proofs.Ytobpocdpnkicnaa

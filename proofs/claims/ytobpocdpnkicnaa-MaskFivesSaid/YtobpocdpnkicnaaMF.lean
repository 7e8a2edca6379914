/- MaskFives: a word of fewer bits has the number that is nearest. -/
import Derived.Test.YtobpocdpnkicnaaMM
import Derived.OpenShut
namespace Go.Proofs.Ytobpocdpnkicnaa
open Go.RowKit
set_option linter.unusedVariables false
theorem put_zero (v : Int) : putI 0 0 v = 0 := by unfold putI; rw [if_neg (by decide)]
theorem or_zero (x : Int) (h0 : 0 ≤ x) (h1 : x < 2 ^ 40) : bits BinOp.or IntKind.i64 x 0 = x := by
  obtain ⟨n, rfl⟩ := Int.eq_ofNat_of_zero_le h0
  rw [show (0 : Int) = ((0 : Nat) : Int) from rfl, i64_orN n 0 (by omega) (by decide)]; simp
/-- The nearest number of n bits. -/
def nearI (c top : Int) : Int := (2 * c * top + 255) / 510
theorem near_bd (c top : Int) : -127 ≤ 255 * nearI c top - c * top ∧ 255 * nearI c top - c * top ≤ 127 := by
  unfold nearI
  have e : 2 * c * top = 2 * (c * top) := Int.mul_assoc _ _ _
  rw [e]; omega
theorem near_far (c top v : Int) (hv : v ≠ nearI c top) : (255 * nearI c top - c * top) * (255 * nearI c top - c * top) < (255 * v - c * top) * (255 * v - c * top) := by
  have h := near_bd c top
  have hA : 128 ≤ 255 * v - c * top ∨ 255 * v - c * top ≤ -128 := by omega
  generalize 255 * nearI c top - c * top = B at *
  generalize 255 * v - c * top = A at *
  have hB : B * B ≤ 127 * 127 := by
    have h1 : (127 - B) * (127 + B) ≥ 0 := Int.mul_nonneg (by omega) (by omega)
    have e : (127 - B) * (127 + B) = 127 * 127 - B * B := by rw [Int.sub_mul, Int.mul_add, Int.mul_add]; rw [Int.mul_comm B 127]; omega
    omega
  have hA2 : 128 * 128 ≤ A * A := by
    rcases hA with h1 | h1
    · exact Int.mul_le_mul h1 h1 (by decide) (by omega)
    · have : (-A) * (-A) = A * A := Int.neg_mul_neg A A
      rw [← this]; exact Int.mul_le_mul (by omega) (by omega) (by decide) (by omega)
  omega
theorem five_find (n : Nat) (h0 : 1 ≤ n) (h1 : n ≤ 8) : findI ((2 ^ n - 1) * 8) 16 = (3, (n : Int), 0) := by
  rcases (show n = 1 ∨ n = 2 ∨ n = 3 ∨ n = 4 ∨ n = 5 ∨ n = 6 ∨ n = 7 ∨ n = 8 by omega) with rfl | rfl | rfl | rfl | rfl | rfl | rfl | rfl <;> decide +kernel
theorem five_right (n : Nat) (h0 : 1 ≤ n) (h1 : n ≤ 8) : rightB 3 n = true := by simp [rightB]; omega
theorem five_word (n : Nat) (h0 : 1 ≤ n) (h1 : n ≤ 8) (c0 c1 c2 c3 : Int) (k0 : 0 ≤ c0) (j0 : c0 ≤ 255) :
    bits .or .i64 (bits .or .i64 (bits .or .i64 (putI 3 n c0) (putI 0 0 c1)) (putI 0 0 c2)) (putI 0 0 c3) = nearI c0 (2 ^ n - 1) * 8 ∧ nearI c0 (2 ^ n - 1) * 8 / 2 ^ (3 : Int).toNat % 2 ^ n = nearI c0 (2 ^ n - 1) ∧ 0 ≤ nearI c0 (2 ^ n - 1) ∧ nearI c0 (2 ^ n - 1) ≤ 255 := by
  have hl := put_lt n c0 k0 j0
  have hp := pow_le' (show n ≤ 8 by omega)
  have e : putI 3 n c0 = nearI c0 (2 ^ n - 1) * 8 := by
    unfold putI nearI; rw [if_pos (five_right n h0 h1)]; simp
  have hn : 0 ≤ nearI c0 (2 ^ n - 1) ∧ nearI c0 (2 ^ n - 1) < 2 ^ n := hl
  have o := or_zero (nearI c0 (2 ^ n - 1) * 8) (by omega) (by omega)
  rw [put_zero, put_zero, put_zero, e, o, o, o]
  refine ⟨rfl, ?_, hn.1, by omega⟩
  rw [show (2 : Int) ^ (3 : Int).toNat = 8 by decide, Int.mul_ediv_cancel _ (by decide), Int.emod_eq_of_lt hn.1 hn.2]
theorem sq_bd (x : Int) (h0 : -65025 ≤ x) (h1 : x ≤ 65025) : x * x ≤ 4228250625 ∧ 0 ≤ x * x := by
  have h : 0 ≤ (65025 - x) * (65025 + x) := Int.mul_nonneg (by omega) (by omega)
  have e : (65025 - x) * (65025 + x) = 65025 * 65025 - x * x := by rw [Int.sub_mul, Int.mul_add, Int.mul_add]; rw [Int.mul_comm x 65025]; omega
  refine ⟨by omega, ?_⟩
  rcases Int.le_total 0 x with h1 | h1
  · exact Int.mul_nonneg h1 h1
  · rw [← Int.neg_mul_neg]; exact Int.mul_nonneg (by omega) (by omega)
set_option maxHeartbeats 1000000 in
theorem fives_1 (c0 c1 c2 c3 bits' : Int) (k0 : 0 ≤ c0) (j0 : c0 ≤ 255) (k1 : 0 ≤ c1) (j1 : c1 ≤ 255) (k2 : 0 ≤ c2) (j2 : c2 ≤ 255) (k3 : 0 ≤ c3) (j3 : c3 ≤ 255) (l0 : 0 ≤ bits') (l1 : bits' ≤ 255) (hb : bits' % 8 = 0) (w : World) :
    Calls Try.prog 7 #[.agg #[.int .u8 c0, .int .u8 c1, .int .u8 c2, .int .u8 c3], .int .u8 bits'] w (True9 w) := by
  obtain ⟨f1, f2, f3, f4⟩ := five_word 1 (by decide) (by decide) c0 c1 c2 c3 k0 j0
  have et : (2 : Int) ^ 1 - 1 = 1 := by decide
  rw [et] at f1 f2 f3 f4
  obtain ⟨q, hq⟩ : ∃ q, nearI c0 1 = q := ⟨_, rfl⟩
  have nf := fun v hv => near_far c0 1 v hv
  rw [hq] at f1 f2 f3 f4
  simp only [hq] at nf
  simp only [Int.mul_one] at nf
  have NF := Lib.hid nf
  clear nf
  have HF := Lib.hid (fun w0 => (find_any 8 16 w0).mono (R' := fun e w' => e = .returned (.tuple #[.agg #[.int .i64 3, .int .i64 1], .int .i64 0]) ∧ Below w0.heap.size w0 w') fun e w' hh => by obtain ⟨g1, g2⟩ := hh; rw [show findI 8 16 = (3, 1, 0) by decide +kernel] at g1; exact ⟨g1, g2⟩)
  have HW := Lib.hid (fun w0 => (sword_any 3 1 0 0 0 0 0 0 c0 c1 c2 c3 w0 k0 j0 k1 j1 k2 j2 k3 j3).mono (R' := fun e w' => e = .returned (.int .i64 (q * 8)) ∧ Below w0.heap.size w0 w') fun e w' hh => by have hh2 := hh.1; rw [show (((1 : Nat) : Int)) = 1 from rfl] at f1; rw [f1] at hh2; exact ⟨hh2, hh.2⟩)
  have HO := Lib.hid (fun w0 => (of_yes 3 1 (q * 8) w0 (by decide)).mono (R' := fun e w' => e = .returned (.int .i64 q) ∧ Below w0.heap.size w0 w') fun e w' hh => ⟨hh.1.trans (ret_int f2), hh.2⟩)
  clear f1 f2 hq et
  go_enter Try.func7, Try.ntmps7
  go_wp2_with (go_at_call 31; (with_reducible refine (HF.out _).mono ?_); rintro e w1 ⟨rfl, hb1⟩; obtain ⟨hc1, hf1⟩ := bcell hb1; have hzhb1_0 : w.heap.size < w1.heap.size := (by have h_ := bsz hb1; (try simp at h_); omega))
  go_region_held3 (fun w' => KP (w1.heap.size + 1) (w1.alloc (Obj.cells #[Value.int IntKind.i64 3, Value.int IntKind.i64 1] 48)) w')
    (first | exact kp_next (by assumption) hb2 | exact kp_drew (kp_refl (by simp)))
    (first
      | (go_at_call 36; (with_reducible refine (HW.out _).mono ?_); rintro e w2 ⟨rfl, hb2⟩)
      | (go_at_call 33; (with_reducible refine (HO.out _).mono ?_); rintro e w3 ⟨rfl, hb2⟩))
  rename_i hH
  have B1 : Below w.heap.size w w1 := bthen hb1 (by go_grown) (by go_size)
  have H1 := Lib.hid (show Below w.heap.size w w3 from bthen hH.1 (by go_grown) (by go_size))
  have hC := hH.2.1 w.heap.size 0 (by omega)
  rw [show (w1.alloc (Obj.cells #[Value.int IntKind.i64 3, Value.int IntKind.i64 1] 48)).cell? ⟨w.heap.size, 0, none⟩ = some (.int .u8 c0) by simp [go_sem, *]] at hC
  clear hH hc1 hf1 hb1 hb2 B1
  go_wp2
  go_loopw [10] (fun v wr => ∃ k : Nat, k ≤ 2 ∧ v = .int .i64 k ∧ Below w.heap.size w wr ∧ wr.cell? ⟨w.heap.size, 0, none⟩ = some (.int .u8 c0)) (fun v _ => 2 - (intOf v).toNat)
  case atStart => exact ⟨0, by omega, rfl, H1.out, hC⟩
  case round =>
    obtain ⟨k, hk, rfl, hbr, hcr⟩ := hrel
    have hBr := Lib.hid hbr
    clear hbr hC
    by_cases hlt : k ≤ 1
    · have hA : ((255 : Int) * k - c0) * (255 * k - c0) ≤ 4228250625 ∧ 0 ≤ ((255 : Int) * k - c0) * (255 * k - c0) := sq_bd _ (by omega) (by omega)
      have hB : (255 * q - c0) * (255 * q - c0) ≤ 4228250625 ∧ 0 ≤ (255 * q - c0) * (255 * q - c0) := sq_bd _ (by omega) (by omega)
      obtain ⟨A1, A2⟩ := hA
      obtain ⟨B1, B2⟩ := hB
      by_cases he : (k : Int) = q
      · subst he
        go_wp2
        go_quiet (fail)
        go_wp2
        go_roundw
        case rel => exact ⟨k + 1, by omega, by go_num, bdrew hBr.out _, hcr⟩
        case measure => simp [intOf]; omega
      · have hn := NF.out k he
        have he' : (((255 : Int) * k - c0) * (255 * k - c0) == (255 * q - c0) * (255 * q - c0)) = false := by rw [beq_eq_false_iff_ne]; omega
        clear he
        go_wp2
        go_quiet (fail)
        go_wp2
        go_roundw
        case rel => exact ⟨k + 1, by omega, by go_num, bdrew hBr.out _, hcr⟩
        case measure => simp [intOf]; omega
    · have hge : 2 ≤ k := by omega
      go_wp2_with (go_at_call 30; (with_reducible refine (awake9 _).mono ?_); rintro e w5 ⟨rfl, hb5⟩)
      go_ret
      exact ⟨rfl, bthen hb5 hBr.out (by have := hBr.out.size; omega)⟩
set_option maxHeartbeats 1000000 in
theorem fives_2 (c0 c1 c2 c3 bits' : Int) (k0 : 0 ≤ c0) (j0 : c0 ≤ 255) (k1 : 0 ≤ c1) (j1 : c1 ≤ 255) (k2 : 0 ≤ c2) (j2 : c2 ≤ 255) (k3 : 0 ≤ c3) (j3 : c3 ≤ 255) (l0 : 0 ≤ bits') (l1 : bits' ≤ 255) (hb : bits' % 8 = 1) (w : World) :
    Calls Try.prog 7 #[.agg #[.int .u8 c0, .int .u8 c1, .int .u8 c2, .int .u8 c3], .int .u8 bits'] w (True9 w) := by
  obtain ⟨f1, f2, f3, f4⟩ := five_word 2 (by decide) (by decide) c0 c1 c2 c3 k0 j0
  have et : (2 : Int) ^ 2 - 1 = 3 := by decide
  rw [et] at f1 f2 f3 f4
  obtain ⟨q, hq⟩ : ∃ q, nearI c0 3 = q := ⟨_, rfl⟩
  have nf := fun v hv => near_far c0 3 v hv
  rw [hq] at f1 f2 f3 f4
  simp only [hq] at nf
  have NF := Lib.hid nf
  clear nf
  have HF := Lib.hid (fun w0 => (find_any 24 16 w0).mono (R' := fun e w' => e = .returned (.tuple #[.agg #[.int .i64 3, .int .i64 2], .int .i64 0]) ∧ Below w0.heap.size w0 w') fun e w' hh => by obtain ⟨g1, g2⟩ := hh; rw [show findI 24 16 = (3, 2, 0) by decide +kernel] at g1; exact ⟨g1, g2⟩)
  have HW := Lib.hid (fun w0 => (sword_any 3 2 0 0 0 0 0 0 c0 c1 c2 c3 w0 k0 j0 k1 j1 k2 j2 k3 j3).mono (R' := fun e w' => e = .returned (.int .i64 (q * 8)) ∧ Below w0.heap.size w0 w') fun e w' hh => by have hh2 := hh.1; rw [show (((2 : Nat) : Int)) = 2 from rfl] at f1; rw [f1] at hh2; exact ⟨hh2, hh.2⟩)
  have HO := Lib.hid (fun w0 => (of_yes 3 2 (q * 8) w0 (by decide)).mono (R' := fun e w' => e = .returned (.int .i64 q) ∧ Below w0.heap.size w0 w') fun e w' hh => ⟨hh.1.trans (ret_int f2), hh.2⟩)
  clear f1 f2 hq et
  go_enter Try.func7, Try.ntmps7
  go_wp2_with (go_at_call 31; (with_reducible refine (HF.out _).mono ?_); rintro e w1 ⟨rfl, hb1⟩; obtain ⟨hc1, hf1⟩ := bcell hb1; have hzhb1_0 : w.heap.size < w1.heap.size := (by have h_ := bsz hb1; (try simp at h_); omega))
  go_region_held3 (fun w' => KP (w1.heap.size + 1) (w1.alloc (Obj.cells #[Value.int IntKind.i64 3, Value.int IntKind.i64 2] 48)) w')
    (first | exact kp_next (by assumption) hb2 | exact kp_drew (kp_refl (by simp)))
    (first
      | (go_at_call 36; (with_reducible refine (HW.out _).mono ?_); rintro e w2 ⟨rfl, hb2⟩)
      | (go_at_call 33; (with_reducible refine (HO.out _).mono ?_); rintro e w3 ⟨rfl, hb2⟩))
  rename_i hH
  have B1 : Below w.heap.size w w1 := bthen hb1 (by go_grown) (by go_size)
  have H1 := Lib.hid (show Below w.heap.size w w3 from bthen hH.1 (by go_grown) (by go_size))
  have hC := hH.2.1 w.heap.size 0 (by omega)
  rw [show (w1.alloc (Obj.cells #[Value.int IntKind.i64 3, Value.int IntKind.i64 2] 48)).cell? ⟨w.heap.size, 0, none⟩ = some (.int .u8 c0) by simp [go_sem, *]] at hC
  clear hH hc1 hf1 hb1 hb2 B1
  go_wp2
  go_loopw [10] (fun v wr => ∃ k : Nat, k ≤ 4 ∧ v = .int .i64 k ∧ Below w.heap.size w wr ∧ wr.cell? ⟨w.heap.size, 0, none⟩ = some (.int .u8 c0)) (fun v _ => 4 - (intOf v).toNat)
  case atStart => exact ⟨0, by omega, rfl, H1.out, hC⟩
  case round =>
    obtain ⟨k, hk, rfl, hbr, hcr⟩ := hrel
    have hBr := Lib.hid hbr
    clear hbr hC
    by_cases hlt : k ≤ 3
    · have hA : ((255 : Int) * k - c0 * 3) * (255 * k - c0 * 3) ≤ 4228250625 ∧ 0 ≤ ((255 : Int) * k - c0 * 3) * (255 * k - c0 * 3) := sq_bd _ (by omega) (by omega)
      have hB : (255 * q - c0 * 3) * (255 * q - c0 * 3) ≤ 4228250625 ∧ 0 ≤ (255 * q - c0 * 3) * (255 * q - c0 * 3) := sq_bd _ (by omega) (by omega)
      obtain ⟨A1, A2⟩ := hA
      obtain ⟨B1, B2⟩ := hB
      by_cases he : (k : Int) = q
      · subst he
        go_wp2
        go_quiet (fail)
        go_wp2
        go_roundw
        case rel => exact ⟨k + 1, by omega, by go_num, bdrew hBr.out _, hcr⟩
        case measure => simp [intOf]; omega
      · have hn := NF.out k he
        have he' : (((255 : Int) * k - c0 * 3) * (255 * k - c0 * 3) == (255 * q - c0 * 3) * (255 * q - c0 * 3)) = false := by rw [beq_eq_false_iff_ne]; omega
        clear he
        go_wp2
        go_quiet (fail)
        go_wp2
        go_roundw
        case rel => exact ⟨k + 1, by omega, by go_num, bdrew hBr.out _, hcr⟩
        case measure => simp [intOf]; omega
    · have hge : 4 ≤ k := by omega
      go_wp2_with (go_at_call 30; (with_reducible refine (awake9 _).mono ?_); rintro e w5 ⟨rfl, hb5⟩)
      go_ret
      exact ⟨rfl, bthen hb5 hBr.out (by have := hBr.out.size; omega)⟩
set_option maxHeartbeats 1000000 in
theorem fives_3 (c0 c1 c2 c3 bits' : Int) (k0 : 0 ≤ c0) (j0 : c0 ≤ 255) (k1 : 0 ≤ c1) (j1 : c1 ≤ 255) (k2 : 0 ≤ c2) (j2 : c2 ≤ 255) (k3 : 0 ≤ c3) (j3 : c3 ≤ 255) (l0 : 0 ≤ bits') (l1 : bits' ≤ 255) (hb : bits' % 8 = 2) (w : World) :
    Calls Try.prog 7 #[.agg #[.int .u8 c0, .int .u8 c1, .int .u8 c2, .int .u8 c3], .int .u8 bits'] w (True9 w) := by
  obtain ⟨f1, f2, f3, f4⟩ := five_word 3 (by decide) (by decide) c0 c1 c2 c3 k0 j0
  have et : (2 : Int) ^ 3 - 1 = 7 := by decide
  rw [et] at f1 f2 f3 f4
  obtain ⟨q, hq⟩ : ∃ q, nearI c0 7 = q := ⟨_, rfl⟩
  have nf := fun v hv => near_far c0 7 v hv
  rw [hq] at f1 f2 f3 f4
  simp only [hq] at nf
  have NF := Lib.hid nf
  clear nf
  have HF := Lib.hid (fun w0 => (find_any 56 16 w0).mono (R' := fun e w' => e = .returned (.tuple #[.agg #[.int .i64 3, .int .i64 3], .int .i64 0]) ∧ Below w0.heap.size w0 w') fun e w' hh => by obtain ⟨g1, g2⟩ := hh; rw [show findI 56 16 = (3, 3, 0) by decide +kernel] at g1; exact ⟨g1, g2⟩)
  have HW := Lib.hid (fun w0 => (sword_any 3 3 0 0 0 0 0 0 c0 c1 c2 c3 w0 k0 j0 k1 j1 k2 j2 k3 j3).mono (R' := fun e w' => e = .returned (.int .i64 (q * 8)) ∧ Below w0.heap.size w0 w') fun e w' hh => by have hh2 := hh.1; rw [show (((3 : Nat) : Int)) = 3 from rfl] at f1; rw [f1] at hh2; exact ⟨hh2, hh.2⟩)
  have HO := Lib.hid (fun w0 => (of_yes 3 3 (q * 8) w0 (by decide)).mono (R' := fun e w' => e = .returned (.int .i64 q) ∧ Below w0.heap.size w0 w') fun e w' hh => ⟨hh.1.trans (ret_int f2), hh.2⟩)
  clear f1 f2 hq et
  go_enter Try.func7, Try.ntmps7
  go_wp2_with (go_at_call 31; (with_reducible refine (HF.out _).mono ?_); rintro e w1 ⟨rfl, hb1⟩; obtain ⟨hc1, hf1⟩ := bcell hb1; have hzhb1_0 : w.heap.size < w1.heap.size := (by have h_ := bsz hb1; (try simp at h_); omega))
  go_region_held3 (fun w' => KP (w1.heap.size + 1) (w1.alloc (Obj.cells #[Value.int IntKind.i64 3, Value.int IntKind.i64 3] 48)) w')
    (first | exact kp_next (by assumption) hb2 | exact kp_drew (kp_refl (by simp)))
    (first
      | (go_at_call 36; (with_reducible refine (HW.out _).mono ?_); rintro e w2 ⟨rfl, hb2⟩)
      | (go_at_call 33; (with_reducible refine (HO.out _).mono ?_); rintro e w3 ⟨rfl, hb2⟩))
  rename_i hH
  have B1 : Below w.heap.size w w1 := bthen hb1 (by go_grown) (by go_size)
  have H1 := Lib.hid (show Below w.heap.size w w3 from bthen hH.1 (by go_grown) (by go_size))
  have hC := hH.2.1 w.heap.size 0 (by omega)
  rw [show (w1.alloc (Obj.cells #[Value.int IntKind.i64 3, Value.int IntKind.i64 3] 48)).cell? ⟨w.heap.size, 0, none⟩ = some (.int .u8 c0) by simp [go_sem, *]] at hC
  clear hH hc1 hf1 hb1 hb2 B1
  go_wp2
  go_loopw [10] (fun v wr => ∃ k : Nat, k ≤ 8 ∧ v = .int .i64 k ∧ Below w.heap.size w wr ∧ wr.cell? ⟨w.heap.size, 0, none⟩ = some (.int .u8 c0)) (fun v _ => 8 - (intOf v).toNat)
  case atStart => exact ⟨0, by omega, rfl, H1.out, hC⟩
  case round =>
    obtain ⟨k, hk, rfl, hbr, hcr⟩ := hrel
    have hBr := Lib.hid hbr
    clear hbr hC
    by_cases hlt : k ≤ 7
    · have hA : ((255 : Int) * k - c0 * 7) * (255 * k - c0 * 7) ≤ 4228250625 ∧ 0 ≤ ((255 : Int) * k - c0 * 7) * (255 * k - c0 * 7) := sq_bd _ (by omega) (by omega)
      have hB : (255 * q - c0 * 7) * (255 * q - c0 * 7) ≤ 4228250625 ∧ 0 ≤ (255 * q - c0 * 7) * (255 * q - c0 * 7) := sq_bd _ (by omega) (by omega)
      obtain ⟨A1, A2⟩ := hA
      obtain ⟨B1, B2⟩ := hB
      by_cases he : (k : Int) = q
      · subst he
        go_wp2
        go_quiet (fail)
        go_wp2
        go_roundw
        case rel => exact ⟨k + 1, by omega, by go_num, bdrew hBr.out _, hcr⟩
        case measure => simp [intOf]; omega
      · have hn := NF.out k he
        have he' : (((255 : Int) * k - c0 * 7) * (255 * k - c0 * 7) == (255 * q - c0 * 7) * (255 * q - c0 * 7)) = false := by rw [beq_eq_false_iff_ne]; omega
        clear he
        go_wp2
        go_quiet (fail)
        go_wp2
        go_roundw
        case rel => exact ⟨k + 1, by omega, by go_num, bdrew hBr.out _, hcr⟩
        case measure => simp [intOf]; omega
    · have hge : 8 ≤ k := by omega
      go_wp2_with (go_at_call 30; (with_reducible refine (awake9 _).mono ?_); rintro e w5 ⟨rfl, hb5⟩)
      go_ret
      exact ⟨rfl, bthen hb5 hBr.out (by have := hBr.out.size; omega)⟩
set_option maxHeartbeats 1000000 in
theorem fives_4 (c0 c1 c2 c3 bits' : Int) (k0 : 0 ≤ c0) (j0 : c0 ≤ 255) (k1 : 0 ≤ c1) (j1 : c1 ≤ 255) (k2 : 0 ≤ c2) (j2 : c2 ≤ 255) (k3 : 0 ≤ c3) (j3 : c3 ≤ 255) (l0 : 0 ≤ bits') (l1 : bits' ≤ 255) (hb : bits' % 8 = 3) (w : World) :
    Calls Try.prog 7 #[.agg #[.int .u8 c0, .int .u8 c1, .int .u8 c2, .int .u8 c3], .int .u8 bits'] w (True9 w) := by
  obtain ⟨f1, f2, f3, f4⟩ := five_word 4 (by decide) (by decide) c0 c1 c2 c3 k0 j0
  have et : (2 : Int) ^ 4 - 1 = 15 := by decide
  rw [et] at f1 f2 f3 f4
  obtain ⟨q, hq⟩ : ∃ q, nearI c0 15 = q := ⟨_, rfl⟩
  have nf := fun v hv => near_far c0 15 v hv
  rw [hq] at f1 f2 f3 f4
  simp only [hq] at nf
  have NF := Lib.hid nf
  clear nf
  have HF := Lib.hid (fun w0 => (find_any 120 16 w0).mono (R' := fun e w' => e = .returned (.tuple #[.agg #[.int .i64 3, .int .i64 4], .int .i64 0]) ∧ Below w0.heap.size w0 w') fun e w' hh => by obtain ⟨g1, g2⟩ := hh; rw [show findI 120 16 = (3, 4, 0) by decide +kernel] at g1; exact ⟨g1, g2⟩)
  have HW := Lib.hid (fun w0 => (sword_any 3 4 0 0 0 0 0 0 c0 c1 c2 c3 w0 k0 j0 k1 j1 k2 j2 k3 j3).mono (R' := fun e w' => e = .returned (.int .i64 (q * 8)) ∧ Below w0.heap.size w0 w') fun e w' hh => by have hh2 := hh.1; rw [show (((4 : Nat) : Int)) = 4 from rfl] at f1; rw [f1] at hh2; exact ⟨hh2, hh.2⟩)
  have HO := Lib.hid (fun w0 => (of_yes 3 4 (q * 8) w0 (by decide)).mono (R' := fun e w' => e = .returned (.int .i64 q) ∧ Below w0.heap.size w0 w') fun e w' hh => ⟨hh.1.trans (ret_int f2), hh.2⟩)
  clear f1 f2 hq et
  go_enter Try.func7, Try.ntmps7
  go_wp2_with (go_at_call 31; (with_reducible refine (HF.out _).mono ?_); rintro e w1 ⟨rfl, hb1⟩; obtain ⟨hc1, hf1⟩ := bcell hb1; have hzhb1_0 : w.heap.size < w1.heap.size := (by have h_ := bsz hb1; (try simp at h_); omega))
  go_region_held3 (fun w' => KP (w1.heap.size + 1) (w1.alloc (Obj.cells #[Value.int IntKind.i64 3, Value.int IntKind.i64 4] 48)) w')
    (first | exact kp_next (by assumption) hb2 | exact kp_drew (kp_refl (by simp)))
    (first
      | (go_at_call 36; (with_reducible refine (HW.out _).mono ?_); rintro e w2 ⟨rfl, hb2⟩)
      | (go_at_call 33; (with_reducible refine (HO.out _).mono ?_); rintro e w3 ⟨rfl, hb2⟩))
  rename_i hH
  have B1 : Below w.heap.size w w1 := bthen hb1 (by go_grown) (by go_size)
  have H1 := Lib.hid (show Below w.heap.size w w3 from bthen hH.1 (by go_grown) (by go_size))
  have hC := hH.2.1 w.heap.size 0 (by omega)
  rw [show (w1.alloc (Obj.cells #[Value.int IntKind.i64 3, Value.int IntKind.i64 4] 48)).cell? ⟨w.heap.size, 0, none⟩ = some (.int .u8 c0) by simp [go_sem, *]] at hC
  clear hH hc1 hf1 hb1 hb2 B1
  go_wp2
  go_loopw [10] (fun v wr => ∃ k : Nat, k ≤ 16 ∧ v = .int .i64 k ∧ Below w.heap.size w wr ∧ wr.cell? ⟨w.heap.size, 0, none⟩ = some (.int .u8 c0)) (fun v _ => 16 - (intOf v).toNat)
  case atStart => exact ⟨0, by omega, rfl, H1.out, hC⟩
  case round =>
    obtain ⟨k, hk, rfl, hbr, hcr⟩ := hrel
    have hBr := Lib.hid hbr
    clear hbr hC
    by_cases hlt : k ≤ 15
    · have hA : ((255 : Int) * k - c0 * 15) * (255 * k - c0 * 15) ≤ 4228250625 ∧ 0 ≤ ((255 : Int) * k - c0 * 15) * (255 * k - c0 * 15) := sq_bd _ (by omega) (by omega)
      have hB : (255 * q - c0 * 15) * (255 * q - c0 * 15) ≤ 4228250625 ∧ 0 ≤ (255 * q - c0 * 15) * (255 * q - c0 * 15) := sq_bd _ (by omega) (by omega)
      obtain ⟨A1, A2⟩ := hA
      obtain ⟨B1, B2⟩ := hB
      by_cases he : (k : Int) = q
      · subst he
        go_wp2
        go_quiet (fail)
        go_wp2
        go_roundw
        case rel => exact ⟨k + 1, by omega, by go_num, bdrew hBr.out _, hcr⟩
        case measure => simp [intOf]; omega
      · have hn := NF.out k he
        have he' : (((255 : Int) * k - c0 * 15) * (255 * k - c0 * 15) == (255 * q - c0 * 15) * (255 * q - c0 * 15)) = false := by rw [beq_eq_false_iff_ne]; omega
        clear he
        go_wp2
        go_quiet (fail)
        go_wp2
        go_roundw
        case rel => exact ⟨k + 1, by omega, by go_num, bdrew hBr.out _, hcr⟩
        case measure => simp [intOf]; omega
    · have hge : 16 ≤ k := by omega
      go_wp2_with (go_at_call 30; (with_reducible refine (awake9 _).mono ?_); rintro e w5 ⟨rfl, hb5⟩)
      go_ret
      exact ⟨rfl, bthen hb5 hBr.out (by have := hBr.out.size; omega)⟩
set_option maxHeartbeats 1000000 in
theorem fives_5 (c0 c1 c2 c3 bits' : Int) (k0 : 0 ≤ c0) (j0 : c0 ≤ 255) (k1 : 0 ≤ c1) (j1 : c1 ≤ 255) (k2 : 0 ≤ c2) (j2 : c2 ≤ 255) (k3 : 0 ≤ c3) (j3 : c3 ≤ 255) (l0 : 0 ≤ bits') (l1 : bits' ≤ 255) (hb : bits' % 8 = 4) (w : World) :
    Calls Try.prog 7 #[.agg #[.int .u8 c0, .int .u8 c1, .int .u8 c2, .int .u8 c3], .int .u8 bits'] w (True9 w) := by
  obtain ⟨f1, f2, f3, f4⟩ := five_word 5 (by decide) (by decide) c0 c1 c2 c3 k0 j0
  have et : (2 : Int) ^ 5 - 1 = 31 := by decide
  rw [et] at f1 f2 f3 f4
  obtain ⟨q, hq⟩ : ∃ q, nearI c0 31 = q := ⟨_, rfl⟩
  have nf := fun v hv => near_far c0 31 v hv
  rw [hq] at f1 f2 f3 f4
  simp only [hq] at nf
  have NF := Lib.hid nf
  clear nf
  have HF := Lib.hid (fun w0 => (find_any 248 16 w0).mono (R' := fun e w' => e = .returned (.tuple #[.agg #[.int .i64 3, .int .i64 5], .int .i64 0]) ∧ Below w0.heap.size w0 w') fun e w' hh => by obtain ⟨g1, g2⟩ := hh; rw [show findI 248 16 = (3, 5, 0) by decide +kernel] at g1; exact ⟨g1, g2⟩)
  have HW := Lib.hid (fun w0 => (sword_any 3 5 0 0 0 0 0 0 c0 c1 c2 c3 w0 k0 j0 k1 j1 k2 j2 k3 j3).mono (R' := fun e w' => e = .returned (.int .i64 (q * 8)) ∧ Below w0.heap.size w0 w') fun e w' hh => by have hh2 := hh.1; rw [show (((5 : Nat) : Int)) = 5 from rfl] at f1; rw [f1] at hh2; exact ⟨hh2, hh.2⟩)
  have HO := Lib.hid (fun w0 => (of_yes 3 5 (q * 8) w0 (by decide)).mono (R' := fun e w' => e = .returned (.int .i64 q) ∧ Below w0.heap.size w0 w') fun e w' hh => ⟨hh.1.trans (ret_int f2), hh.2⟩)
  clear f1 f2 hq et
  go_enter Try.func7, Try.ntmps7
  go_wp2_with (go_at_call 31; (with_reducible refine (HF.out _).mono ?_); rintro e w1 ⟨rfl, hb1⟩; obtain ⟨hc1, hf1⟩ := bcell hb1; have hzhb1_0 : w.heap.size < w1.heap.size := (by have h_ := bsz hb1; (try simp at h_); omega))
  go_region_held3 (fun w' => KP (w1.heap.size + 1) (w1.alloc (Obj.cells #[Value.int IntKind.i64 3, Value.int IntKind.i64 5] 48)) w')
    (first | exact kp_next (by assumption) hb2 | exact kp_drew (kp_refl (by simp)))
    (first
      | (go_at_call 36; (with_reducible refine (HW.out _).mono ?_); rintro e w2 ⟨rfl, hb2⟩)
      | (go_at_call 33; (with_reducible refine (HO.out _).mono ?_); rintro e w3 ⟨rfl, hb2⟩))
  rename_i hH
  have B1 : Below w.heap.size w w1 := bthen hb1 (by go_grown) (by go_size)
  have H1 := Lib.hid (show Below w.heap.size w w3 from bthen hH.1 (by go_grown) (by go_size))
  have hC := hH.2.1 w.heap.size 0 (by omega)
  rw [show (w1.alloc (Obj.cells #[Value.int IntKind.i64 3, Value.int IntKind.i64 5] 48)).cell? ⟨w.heap.size, 0, none⟩ = some (.int .u8 c0) by simp [go_sem, *]] at hC
  clear hH hc1 hf1 hb1 hb2 B1
  go_wp2
  go_loopw [10] (fun v wr => ∃ k : Nat, k ≤ 32 ∧ v = .int .i64 k ∧ Below w.heap.size w wr ∧ wr.cell? ⟨w.heap.size, 0, none⟩ = some (.int .u8 c0)) (fun v _ => 32 - (intOf v).toNat)
  case atStart => exact ⟨0, by omega, rfl, H1.out, hC⟩
  case round =>
    obtain ⟨k, hk, rfl, hbr, hcr⟩ := hrel
    have hBr := Lib.hid hbr
    clear hbr hC
    by_cases hlt : k ≤ 31
    · have hA : ((255 : Int) * k - c0 * 31) * (255 * k - c0 * 31) ≤ 4228250625 ∧ 0 ≤ ((255 : Int) * k - c0 * 31) * (255 * k - c0 * 31) := sq_bd _ (by omega) (by omega)
      have hB : (255 * q - c0 * 31) * (255 * q - c0 * 31) ≤ 4228250625 ∧ 0 ≤ (255 * q - c0 * 31) * (255 * q - c0 * 31) := sq_bd _ (by omega) (by omega)
      obtain ⟨A1, A2⟩ := hA
      obtain ⟨B1, B2⟩ := hB
      by_cases he : (k : Int) = q
      · subst he
        go_wp2
        go_quiet (fail)
        go_wp2
        go_roundw
        case rel => exact ⟨k + 1, by omega, by go_num, bdrew hBr.out _, hcr⟩
        case measure => simp [intOf]; omega
      · have hn := NF.out k he
        have he' : (((255 : Int) * k - c0 * 31) * (255 * k - c0 * 31) == (255 * q - c0 * 31) * (255 * q - c0 * 31)) = false := by rw [beq_eq_false_iff_ne]; omega
        clear he
        go_wp2
        go_quiet (fail)
        go_wp2
        go_roundw
        case rel => exact ⟨k + 1, by omega, by go_num, bdrew hBr.out _, hcr⟩
        case measure => simp [intOf]; omega
    · have hge : 32 ≤ k := by omega
      go_wp2_with (go_at_call 30; (with_reducible refine (awake9 _).mono ?_); rintro e w5 ⟨rfl, hb5⟩)
      go_ret
      exact ⟨rfl, bthen hb5 hBr.out (by have := hBr.out.size; omega)⟩
set_option maxHeartbeats 1000000 in
theorem fives_6 (c0 c1 c2 c3 bits' : Int) (k0 : 0 ≤ c0) (j0 : c0 ≤ 255) (k1 : 0 ≤ c1) (j1 : c1 ≤ 255) (k2 : 0 ≤ c2) (j2 : c2 ≤ 255) (k3 : 0 ≤ c3) (j3 : c3 ≤ 255) (l0 : 0 ≤ bits') (l1 : bits' ≤ 255) (hb : bits' % 8 = 5) (w : World) :
    Calls Try.prog 7 #[.agg #[.int .u8 c0, .int .u8 c1, .int .u8 c2, .int .u8 c3], .int .u8 bits'] w (True9 w) := by
  obtain ⟨f1, f2, f3, f4⟩ := five_word 6 (by decide) (by decide) c0 c1 c2 c3 k0 j0
  have et : (2 : Int) ^ 6 - 1 = 63 := by decide
  rw [et] at f1 f2 f3 f4
  obtain ⟨q, hq⟩ : ∃ q, nearI c0 63 = q := ⟨_, rfl⟩
  have nf := fun v hv => near_far c0 63 v hv
  rw [hq] at f1 f2 f3 f4
  simp only [hq] at nf
  have NF := Lib.hid nf
  clear nf
  have HF := Lib.hid (fun w0 => (find_any 504 16 w0).mono (R' := fun e w' => e = .returned (.tuple #[.agg #[.int .i64 3, .int .i64 6], .int .i64 0]) ∧ Below w0.heap.size w0 w') fun e w' hh => by obtain ⟨g1, g2⟩ := hh; rw [show findI 504 16 = (3, 6, 0) by decide +kernel] at g1; exact ⟨g1, g2⟩)
  have HW := Lib.hid (fun w0 => (sword_any 3 6 0 0 0 0 0 0 c0 c1 c2 c3 w0 k0 j0 k1 j1 k2 j2 k3 j3).mono (R' := fun e w' => e = .returned (.int .i64 (q * 8)) ∧ Below w0.heap.size w0 w') fun e w' hh => by have hh2 := hh.1; rw [show (((6 : Nat) : Int)) = 6 from rfl] at f1; rw [f1] at hh2; exact ⟨hh2, hh.2⟩)
  have HO := Lib.hid (fun w0 => (of_yes 3 6 (q * 8) w0 (by decide)).mono (R' := fun e w' => e = .returned (.int .i64 q) ∧ Below w0.heap.size w0 w') fun e w' hh => ⟨hh.1.trans (ret_int f2), hh.2⟩)
  clear f1 f2 hq et
  go_enter Try.func7, Try.ntmps7
  go_wp2_with (go_at_call 31; (with_reducible refine (HF.out _).mono ?_); rintro e w1 ⟨rfl, hb1⟩; obtain ⟨hc1, hf1⟩ := bcell hb1; have hzhb1_0 : w.heap.size < w1.heap.size := (by have h_ := bsz hb1; (try simp at h_); omega))
  go_region_held3 (fun w' => KP (w1.heap.size + 1) (w1.alloc (Obj.cells #[Value.int IntKind.i64 3, Value.int IntKind.i64 6] 48)) w')
    (first | exact kp_next (by assumption) hb2 | exact kp_drew (kp_refl (by simp)))
    (first
      | (go_at_call 36; (with_reducible refine (HW.out _).mono ?_); rintro e w2 ⟨rfl, hb2⟩)
      | (go_at_call 33; (with_reducible refine (HO.out _).mono ?_); rintro e w3 ⟨rfl, hb2⟩))
  rename_i hH
  have B1 : Below w.heap.size w w1 := bthen hb1 (by go_grown) (by go_size)
  have H1 := Lib.hid (show Below w.heap.size w w3 from bthen hH.1 (by go_grown) (by go_size))
  have hC := hH.2.1 w.heap.size 0 (by omega)
  rw [show (w1.alloc (Obj.cells #[Value.int IntKind.i64 3, Value.int IntKind.i64 6] 48)).cell? ⟨w.heap.size, 0, none⟩ = some (.int .u8 c0) by simp [go_sem, *]] at hC
  clear hH hc1 hf1 hb1 hb2 B1
  go_wp2
  go_loopw [10] (fun v wr => ∃ k : Nat, k ≤ 64 ∧ v = .int .i64 k ∧ Below w.heap.size w wr ∧ wr.cell? ⟨w.heap.size, 0, none⟩ = some (.int .u8 c0)) (fun v _ => 64 - (intOf v).toNat)
  case atStart => exact ⟨0, by omega, rfl, H1.out, hC⟩
  case round =>
    obtain ⟨k, hk, rfl, hbr, hcr⟩ := hrel
    have hBr := Lib.hid hbr
    clear hbr hC
    by_cases hlt : k ≤ 63
    · have hA : ((255 : Int) * k - c0 * 63) * (255 * k - c0 * 63) ≤ 4228250625 ∧ 0 ≤ ((255 : Int) * k - c0 * 63) * (255 * k - c0 * 63) := sq_bd _ (by omega) (by omega)
      have hB : (255 * q - c0 * 63) * (255 * q - c0 * 63) ≤ 4228250625 ∧ 0 ≤ (255 * q - c0 * 63) * (255 * q - c0 * 63) := sq_bd _ (by omega) (by omega)
      obtain ⟨A1, A2⟩ := hA
      obtain ⟨B1, B2⟩ := hB
      by_cases he : (k : Int) = q
      · subst he
        go_wp2
        go_quiet (fail)
        go_wp2
        go_roundw
        case rel => exact ⟨k + 1, by omega, by go_num, bdrew hBr.out _, hcr⟩
        case measure => simp [intOf]; omega
      · have hn := NF.out k he
        have he' : (((255 : Int) * k - c0 * 63) * (255 * k - c0 * 63) == (255 * q - c0 * 63) * (255 * q - c0 * 63)) = false := by rw [beq_eq_false_iff_ne]; omega
        clear he
        go_wp2
        go_quiet (fail)
        go_wp2
        go_roundw
        case rel => exact ⟨k + 1, by omega, by go_num, bdrew hBr.out _, hcr⟩
        case measure => simp [intOf]; omega
    · have hge : 64 ≤ k := by omega
      go_wp2_with (go_at_call 30; (with_reducible refine (awake9 _).mono ?_); rintro e w5 ⟨rfl, hb5⟩)
      go_ret
      exact ⟨rfl, bthen hb5 hBr.out (by have := hBr.out.size; omega)⟩
set_option maxHeartbeats 1000000 in
theorem fives_7 (c0 c1 c2 c3 bits' : Int) (k0 : 0 ≤ c0) (j0 : c0 ≤ 255) (k1 : 0 ≤ c1) (j1 : c1 ≤ 255) (k2 : 0 ≤ c2) (j2 : c2 ≤ 255) (k3 : 0 ≤ c3) (j3 : c3 ≤ 255) (l0 : 0 ≤ bits') (l1 : bits' ≤ 255) (hb : bits' % 8 = 6) (w : World) :
    Calls Try.prog 7 #[.agg #[.int .u8 c0, .int .u8 c1, .int .u8 c2, .int .u8 c3], .int .u8 bits'] w (True9 w) := by
  obtain ⟨f1, f2, f3, f4⟩ := five_word 7 (by decide) (by decide) c0 c1 c2 c3 k0 j0
  have et : (2 : Int) ^ 7 - 1 = 127 := by decide
  rw [et] at f1 f2 f3 f4
  obtain ⟨q, hq⟩ : ∃ q, nearI c0 127 = q := ⟨_, rfl⟩
  have nf := fun v hv => near_far c0 127 v hv
  rw [hq] at f1 f2 f3 f4
  simp only [hq] at nf
  have NF := Lib.hid nf
  clear nf
  have HF := Lib.hid (fun w0 => (find_any 1016 16 w0).mono (R' := fun e w' => e = .returned (.tuple #[.agg #[.int .i64 3, .int .i64 7], .int .i64 0]) ∧ Below w0.heap.size w0 w') fun e w' hh => by obtain ⟨g1, g2⟩ := hh; rw [show findI 1016 16 = (3, 7, 0) by decide +kernel] at g1; exact ⟨g1, g2⟩)
  have HW := Lib.hid (fun w0 => (sword_any 3 7 0 0 0 0 0 0 c0 c1 c2 c3 w0 k0 j0 k1 j1 k2 j2 k3 j3).mono (R' := fun e w' => e = .returned (.int .i64 (q * 8)) ∧ Below w0.heap.size w0 w') fun e w' hh => by have hh2 := hh.1; rw [show (((7 : Nat) : Int)) = 7 from rfl] at f1; rw [f1] at hh2; exact ⟨hh2, hh.2⟩)
  have HO := Lib.hid (fun w0 => (of_yes 3 7 (q * 8) w0 (by decide)).mono (R' := fun e w' => e = .returned (.int .i64 q) ∧ Below w0.heap.size w0 w') fun e w' hh => ⟨hh.1.trans (ret_int f2), hh.2⟩)
  clear f1 f2 hq et
  go_enter Try.func7, Try.ntmps7
  go_wp2_with (go_at_call 31; (with_reducible refine (HF.out _).mono ?_); rintro e w1 ⟨rfl, hb1⟩; obtain ⟨hc1, hf1⟩ := bcell hb1; have hzhb1_0 : w.heap.size < w1.heap.size := (by have h_ := bsz hb1; (try simp at h_); omega))
  go_region_held3 (fun w' => KP (w1.heap.size + 1) (w1.alloc (Obj.cells #[Value.int IntKind.i64 3, Value.int IntKind.i64 7] 48)) w')
    (first | exact kp_next (by assumption) hb2 | exact kp_drew (kp_refl (by simp)))
    (first
      | (go_at_call 36; (with_reducible refine (HW.out _).mono ?_); rintro e w2 ⟨rfl, hb2⟩)
      | (go_at_call 33; (with_reducible refine (HO.out _).mono ?_); rintro e w3 ⟨rfl, hb2⟩))
  rename_i hH
  have B1 : Below w.heap.size w w1 := bthen hb1 (by go_grown) (by go_size)
  have H1 := Lib.hid (show Below w.heap.size w w3 from bthen hH.1 (by go_grown) (by go_size))
  have hC := hH.2.1 w.heap.size 0 (by omega)
  rw [show (w1.alloc (Obj.cells #[Value.int IntKind.i64 3, Value.int IntKind.i64 7] 48)).cell? ⟨w.heap.size, 0, none⟩ = some (.int .u8 c0) by simp [go_sem, *]] at hC
  clear hH hc1 hf1 hb1 hb2 B1
  go_wp2
  go_loopw [10] (fun v wr => ∃ k : Nat, k ≤ 128 ∧ v = .int .i64 k ∧ Below w.heap.size w wr ∧ wr.cell? ⟨w.heap.size, 0, none⟩ = some (.int .u8 c0)) (fun v _ => 128 - (intOf v).toNat)
  case atStart => exact ⟨0, by omega, rfl, H1.out, hC⟩
  case round =>
    obtain ⟨k, hk, rfl, hbr, hcr⟩ := hrel
    have hBr := Lib.hid hbr
    clear hbr hC
    by_cases hlt : k ≤ 127
    · have hA : ((255 : Int) * k - c0 * 127) * (255 * k - c0 * 127) ≤ 4228250625 ∧ 0 ≤ ((255 : Int) * k - c0 * 127) * (255 * k - c0 * 127) := sq_bd _ (by omega) (by omega)
      have hB : (255 * q - c0 * 127) * (255 * q - c0 * 127) ≤ 4228250625 ∧ 0 ≤ (255 * q - c0 * 127) * (255 * q - c0 * 127) := sq_bd _ (by omega) (by omega)
      obtain ⟨A1, A2⟩ := hA
      obtain ⟨B1, B2⟩ := hB
      by_cases he : (k : Int) = q
      · subst he
        go_wp2
        go_quiet (fail)
        go_wp2
        go_roundw
        case rel => exact ⟨k + 1, by omega, by go_num, bdrew hBr.out _, hcr⟩
        case measure => simp [intOf]; omega
      · have hn := NF.out k he
        have he' : (((255 : Int) * k - c0 * 127) * (255 * k - c0 * 127) == (255 * q - c0 * 127) * (255 * q - c0 * 127)) = false := by rw [beq_eq_false_iff_ne]; omega
        clear he
        go_wp2
        go_quiet (fail)
        go_wp2
        go_roundw
        case rel => exact ⟨k + 1, by omega, by go_num, bdrew hBr.out _, hcr⟩
        case measure => simp [intOf]; omega
    · have hge : 128 ≤ k := by omega
      go_wp2_with (go_at_call 30; (with_reducible refine (awake9 _).mono ?_); rintro e w5 ⟨rfl, hb5⟩)
      go_ret
      exact ⟨rfl, bthen hb5 hBr.out (by have := hBr.out.size; omega)⟩
set_option maxHeartbeats 1000000 in
theorem fives_8 (c0 c1 c2 c3 bits' : Int) (k0 : 0 ≤ c0) (j0 : c0 ≤ 255) (k1 : 0 ≤ c1) (j1 : c1 ≤ 255) (k2 : 0 ≤ c2) (j2 : c2 ≤ 255) (k3 : 0 ≤ c3) (j3 : c3 ≤ 255) (l0 : 0 ≤ bits') (l1 : bits' ≤ 255) (hb : bits' % 8 = 7) (w : World) :
    Calls Try.prog 7 #[.agg #[.int .u8 c0, .int .u8 c1, .int .u8 c2, .int .u8 c3], .int .u8 bits'] w (True9 w) := by
  obtain ⟨f1, f2, f3, f4⟩ := five_word 8 (by decide) (by decide) c0 c1 c2 c3 k0 j0
  have et : (2 : Int) ^ 8 - 1 = 255 := by decide
  rw [et] at f1 f2 f3 f4
  obtain ⟨q, hq⟩ : ∃ q, nearI c0 255 = q := ⟨_, rfl⟩
  have nf := fun v hv => near_far c0 255 v hv
  rw [hq] at f1 f2 f3 f4
  simp only [hq] at nf
  have NF := Lib.hid nf
  clear nf
  have HF := Lib.hid (fun w0 => (find_any 2040 16 w0).mono (R' := fun e w' => e = .returned (.tuple #[.agg #[.int .i64 3, .int .i64 8], .int .i64 0]) ∧ Below w0.heap.size w0 w') fun e w' hh => by obtain ⟨g1, g2⟩ := hh; rw [show findI 2040 16 = (3, 8, 0) by decide +kernel] at g1; exact ⟨g1, g2⟩)
  have HW := Lib.hid (fun w0 => (sword_any 3 8 0 0 0 0 0 0 c0 c1 c2 c3 w0 k0 j0 k1 j1 k2 j2 k3 j3).mono (R' := fun e w' => e = .returned (.int .i64 (q * 8)) ∧ Below w0.heap.size w0 w') fun e w' hh => by have hh2 := hh.1; rw [show (((8 : Nat) : Int)) = 8 from rfl] at f1; rw [f1] at hh2; exact ⟨hh2, hh.2⟩)
  have HO := Lib.hid (fun w0 => (of_yes 3 8 (q * 8) w0 (by decide)).mono (R' := fun e w' => e = .returned (.int .i64 q) ∧ Below w0.heap.size w0 w') fun e w' hh => ⟨hh.1.trans (ret_int f2), hh.2⟩)
  clear f1 f2 hq et
  go_enter Try.func7, Try.ntmps7
  go_wp2_with (go_at_call 31; (with_reducible refine (HF.out _).mono ?_); rintro e w1 ⟨rfl, hb1⟩; obtain ⟨hc1, hf1⟩ := bcell hb1; have hzhb1_0 : w.heap.size < w1.heap.size := (by have h_ := bsz hb1; (try simp at h_); omega))
  go_region_held3 (fun w' => KP (w1.heap.size + 1) (w1.alloc (Obj.cells #[Value.int IntKind.i64 3, Value.int IntKind.i64 8] 48)) w')
    (first | exact kp_next (by assumption) hb2 | exact kp_drew (kp_refl (by simp)))
    (first
      | (go_at_call 36; (with_reducible refine (HW.out _).mono ?_); rintro e w2 ⟨rfl, hb2⟩)
      | (go_at_call 33; (with_reducible refine (HO.out _).mono ?_); rintro e w3 ⟨rfl, hb2⟩))
  rename_i hH
  have B1 : Below w.heap.size w w1 := bthen hb1 (by go_grown) (by go_size)
  have H1 := Lib.hid (show Below w.heap.size w w3 from bthen hH.1 (by go_grown) (by go_size))
  have hC := hH.2.1 w.heap.size 0 (by omega)
  rw [show (w1.alloc (Obj.cells #[Value.int IntKind.i64 3, Value.int IntKind.i64 8] 48)).cell? ⟨w.heap.size, 0, none⟩ = some (.int .u8 c0) by simp [go_sem, *]] at hC
  clear hH hc1 hf1 hb1 hb2 B1
  go_wp2
  go_loopw [10] (fun v wr => ∃ k : Nat, k ≤ 256 ∧ v = .int .i64 k ∧ Below w.heap.size w wr ∧ wr.cell? ⟨w.heap.size, 0, none⟩ = some (.int .u8 c0)) (fun v _ => 256 - (intOf v).toNat)
  case atStart => exact ⟨0, by omega, rfl, H1.out, hC⟩
  case round =>
    obtain ⟨k, hk, rfl, hbr, hcr⟩ := hrel
    have hBr := Lib.hid hbr
    clear hbr hC
    by_cases hlt : k ≤ 255
    · have hA : ((255 : Int) * k - c0 * 255) * (255 * k - c0 * 255) ≤ 4228250625 ∧ 0 ≤ ((255 : Int) * k - c0 * 255) * (255 * k - c0 * 255) := sq_bd _ (by omega) (by omega)
      have hB : (255 * q - c0 * 255) * (255 * q - c0 * 255) ≤ 4228250625 ∧ 0 ≤ (255 * q - c0 * 255) * (255 * q - c0 * 255) := sq_bd _ (by omega) (by omega)
      obtain ⟨A1, A2⟩ := hA
      obtain ⟨B1, B2⟩ := hB
      by_cases he : (k : Int) = q
      · subst he
        go_wp2
        go_quiet (fail)
        go_wp2
        go_roundw
        case rel => exact ⟨k + 1, by omega, by go_num, bdrew hBr.out _, hcr⟩
        case measure => simp [intOf]; omega
      · have hn := NF.out k he
        have he' : (((255 : Int) * k - c0 * 255) * (255 * k - c0 * 255) == (255 * q - c0 * 255) * (255 * q - c0 * 255)) = false := by rw [beq_eq_false_iff_ne]; omega
        clear he
        go_wp2
        go_quiet (fail)
        go_wp2
        go_roundw
        case rel => exact ⟨k + 1, by omega, by go_num, bdrew hBr.out _, hcr⟩
        case measure => simp [intOf]; omega
    · have hge : 256 ≤ k := by omega
      go_wp2_with (go_at_call 30; (with_reducible refine (awake9 _).mono ?_); rintro e w5 ⟨rfl, hb5⟩)
      go_ret
      exact ⟨rfl, bthen hb5 hBr.out (by have := hBr.out.size; omega)⟩
theorem fives_walk (c0 c1 c2 c3 b : Int) (h0 : (Lit.int .u8 c0).wf = true) (h1 : (Lit.int .u8 c1).wf = true) (h2 : (Lit.int .u8 c2).wf = true) (h3 : (Lit.int .u8 c3).wf = true) (h4 : (Lit.int .u8 b).wf = true) (w : World) :
    Calls Try.prog 7 #[.agg #[.int .u8 c0, .int .u8 c1, .int .u8 c2, .int .u8 c3], .int .u8 b] w fun e w' => e = .returned (.bool true) ∧ Below w.heap.size w w' := by
  obtain ⟨k0, j0⟩ := bounds_u8 h0
  obtain ⟨k1, j1⟩ := bounds_u8 h1
  obtain ⟨k2, j2⟩ := bounds_u8 h2
  obtain ⟨k3, j3⟩ := bounds_u8 h3
  obtain ⟨l0, l1⟩ := bounds_u8 h4
  rcases (show b % 8 = 0 ∨ b % 8 = 1 ∨ b % 8 = 2 ∨ b % 8 = 3 ∨ b % 8 = 4 ∨ b % 8 = 5 ∨ b % 8 = 6 ∨ b % 8 = 7 by omega) with h | h | h | h | h | h | h | h
  · exact fives_1 c0 c1 c2 c3 b k0 j0 k1 j1 k2 j2 k3 j3 l0 l1 h w
  · exact fives_2 c0 c1 c2 c3 b k0 j0 k1 j1 k2 j2 k3 j3 l0 l1 h w
  · exact fives_3 c0 c1 c2 c3 b k0 j0 k1 j1 k2 j2 k3 j3 l0 l1 h w
  · exact fives_4 c0 c1 c2 c3 b k0 j0 k1 j1 k2 j2 k3 j3 l0 l1 h w
  · exact fives_5 c0 c1 c2 c3 b k0 j0 k1 j1 k2 j2 k3 j3 l0 l1 h w
  · exact fives_6 c0 c1 c2 c3 b k0 j0 k1 j1 k2 j2 k3 j3 l0 l1 h w
  · exact fives_7 c0 c1 c2 c3 b k0 j0 k1 j1 k2 j2 k3 j3 l0 l1 h w
  · exact fives_8 c0 c1 c2 c3 b k0 j0 k1 j1 k2 j2 k3 j3 l0 l1 h w
end Go.Proofs.Ytobpocdpnkicnaa

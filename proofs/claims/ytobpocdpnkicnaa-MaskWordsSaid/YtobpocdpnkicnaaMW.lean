/- MaskWords: a colour's word has the colour. The eight walks are printed by gen_words.py. -/
import Derived.Test.YtobpocdpnkicnaaMM
import Derived.OpenShut
namespace Go.Proofs.Ytobpocdpnkicnaa
open Go.RowKit
set_option linter.unusedVariables false
theorem put8 (x : Nat) (hx : x ≤ 24) (v : Int) : putI x 8 v = v * 2 ^ x := by
  unfold putI
  rw [if_pos (by simp [rightB]; omega)]
  simp only [Int.toNat_natCast, show (8 : Int).toNat = 8 from rfl, show (2 : Int) ^ 8 - 1 = 255 by decide]
  rw [show (2 * v * 255 + 255) / 510 = v by omega]
theorem ch8 (x : Nat) (hx : x ≤ 24) (wd v none : Int) (h : wd / 2 ^ x % 256 = v) (h0 : 0 ≤ v) (h1 : v ≤ 255) : chI x 8 wd none = v := by
  unfold chI mxI
  rw [if_neg (by decide)]
  simp only [Int.toNat_natCast, show (8 : Int).toNat = 8 from rfl, show (2 : Int) ^ 8 = 256 by decide]
  rw [h]; omega
theorem or_join (i : Nat) (x y : Int) (hx0 : 0 ≤ x) (hx : x % 2 ^ i = 0) (hx1 : x < 2 ^ 62) (hy0 : 0 ≤ y) (hy : y < 2 ^ i) (hi : i ≤ 62) : bits .or .i64 x y = x + y :=
  bits_join .i64 63 (by decide) i64_wrap_id i x y hx0 hx (by omega) hy0 hy (by have := pow_le' hi; omega)
theorem or_comm (x y : Int) : bits .or .i64 x y = bits .or .i64 y x := by
  show IntKind.i64.wrap ((BitVec.ofInt 64 x ||| BitVec.ofInt 64 y).toNat : Int) = IntKind.i64.wrap ((BitVec.ofInt 64 y ||| BitVec.ofInt 64 x).toNat : Int)
  rw [BitVec.or_comm]
theorem andNot_zero (a M : Nat) (ha : a < 2 ^ 63) (hM : M < 2 ^ 63) (h : a &&& M = a) : bits .andNot .i64 (a : Int) (M : Int) = 0 := by
  show IntKind.i64.wrap ((BitVec.ofInt 64 (a : Int) &&& ~~~BitVec.ofInt 64 (M : Int)).toNat : Int) = 0
  have e : (BitVec.ofInt 64 (a : Int) &&& ~~~BitVec.ofInt 64 (M : Int)).toNat = 0 := by
    rw [BitVec.toNat_and, BitVec.toNat_not, BitVec.ofInt_natCast, BitVec.ofInt_natCast, BitVec.toNat_ofNat, BitVec.toNat_ofNat, Nat.mod_eq_of_lt (by omega), Nat.mod_eq_of_lt (by omega)]
    apply Nat.eq_of_testBit_eq
    intro i
    rw [Nat.testBit_and, Nat.zero_testBit, show 2 ^ 64 - 1 - M = 2 ^ 64 - (M + 1) by omega, Nat.testBit_two_pow_sub_succ (by omega)]
    have hi : a.testBit i = (a.testBit i && M.testBit i) := by rw [← Nat.testBit_and, h]
    rw [hi]
    cases a.testBit i <;> cases M.testBit i <;> simp
  rw [e]; rfl
theorem fit_and (q k s : Nat) (hq : q < 2 ^ k) : (q * 2 ^ s) &&& ((2 ^ k - 1) * 2 ^ s) = q * 2 ^ s := by
  rw [← Nat.shiftLeft_eq, ← Nat.shiftLeft_eq, ← Nat.shiftLeft_and_distrib, Nat.and_two_pow_sub_one_eq_mod, Nat.mod_eq_of_lt hq]
theorem andNot_fit (wd q : Int) (k s : Nat) (M : Int) (hM : M = (((2 ^ k - 1) * 2 ^ s : Nat) : Int)) (h0 : 0 ≤ q) (hq : q < 2 ^ k) (hw : wd = q * 2 ^ s) (hks : k + s ≤ 62) : bits .andNot .i64 wd M = 0 := by
  obtain ⟨n, rfl⟩ := Int.eq_ofNat_of_zero_le h0
  have hn : n < 2 ^ k := by exact_mod_cast hq
  have hlt : n * 2 ^ s < 2 ^ (k + s) := by rw [Nat.pow_add]; exact Nat.mul_lt_mul_of_pos_right hn (Nat.two_pow_pos s)
  have hle : 2 ^ (k + s) ≤ 2 ^ 62 := Nat.pow_le_pow_right (by decide) hks
  have hM2 : (2 ^ k - 1) * 2 ^ s < 2 ^ (k + s) := by rw [Nat.pow_add]; exact Nat.mul_lt_mul_of_pos_right (Nat.sub_lt (Nat.two_pow_pos k) (by decide)) (Nat.two_pow_pos s)
  rw [hM, hw, show ((n : Int) * 2 ^ s) = ((n * 2 ^ s : Nat) : Int) by simp]
  exact andNot_zero _ _ (by omega) (by omega) (fit_and n k s hn)
theorem four_of (l : Nat → Int) (width a0 b0 a1 b1 a2 b2 a3 b3 : Int) (h : scan4 (pstep l width) = (0, 0)) (h0 : findI (l 0) width = (a0, b0, 0)) (h1 : findI (l 1) width = (a1, b1, 0)) (h2 : findI (l 2) width = (a2, b2, 0)) (h3 : findI (l 3) width = (a3, b3, 0)) (w : World) :
    Calls Try.prog 37 #[.int .i64 (l 0), .int .i64 (l 1), .int .i64 (l 2), .int .i64 (l 3), .int .i64 width] w fun e w' => e = .returned (.tuple #[.agg #[.int .i64 a0, .int .i64 b0, .int .i64 a1, .int .i64 b1, .int .i64 a2, .int .i64 b2, .int .i64 a3, .int .i64 b3], .int .i64 0, .int .i64 0]) ∧ Below w.heap.size w w' :=
  (four_any l width w).mono fun e w' hh => by
    obtain ⟨g1, g2⟩ := hh
    rw [if_pos (by rw [h]), h, h0, h1, h2, h3] at g2; exact ⟨g2, g1⟩
def quad (r g b a : Int) : Nat → Int := fun i => if i = 0 then r else if i = 1 then g else if i = 2 then b else a
theorem words_0n_word (c0 c1 c2 c3 : Int) (k0 : 0 ≤ c0) (j0 : c0 ≤ 255) (k1 : 0 ≤ c1) (j1 : c1 ≤ 255) (k2 : 0 ≤ c2) (j2 : c2 ≤ 255) (k3 : 0 ≤ c3) (j3 : c3 ≤ 255) :
    bits .or .i64 (bits .or .i64 (bits .or .i64 (putI 16 8 c0) (putI 8 8 c1)) (putI 0 8 c2)) (putI 0 0 c3) = c0 * 65536 + c1 * 256 + c2 * 1 := by
  have e0 : putI 16 8 c0 = c0 * 65536 := put8 16 (by decide) c0
  have e1 : putI 8 8 c1 = c1 * 256 := put8 8 (by decide) c1
  have e2 : putI 0 8 c2 = c2 * 1 := put8 0 (by decide) c2
  have e3 : putI 0 0 c3 = 0 := if_neg (by decide)
  rw [e0, e1, e2, e3]
  have f1 : bits .or .i64 (c0 * 65536) (c1 * 256) = c0 * 65536 + c1 * 256 := or_join 16 _ _ (by omega) (by omega) (by omega) (by omega) (by omega) (by decide)
  have f2 : bits .or .i64 (c0 * 65536 + c1 * 256) (c2 * 1) = c0 * 65536 + c1 * 256 + c2 * 1 := or_join 8 _ _ (by omega) (by omega) (by omega) (by omega) (by omega) (by decide)
  rw [f1, f2]
  have f3 : bits .or .i64 (c0 * 65536 + c1 * 256 + c2 * 1) 0 = c0 * 65536 + c1 * 256 + c2 * 1 + 0 := or_join 0 _ _ (by omega) (by simp <;> omega) (by omega) (by decide) (by decide) (by decide)
  rw [f3]; omega
set_option maxRecDepth 100000 in
set_option maxHeartbeats 4000000 in
theorem words_0n (c0 c1 c2 c3 order : Int) (k0 : 0 ≤ c0) (j0 : c0 ≤ 255) (k1 : 0 ≤ c1) (j1 : c1 ≤ 255) (k2 : 0 ≤ c2) (j2 : c2 ≤ 255) (k3 : 0 ≤ c3) (j3 : c3 ≤ 255) (l0 : 0 ≤ order) (l1 : order ≤ 255) (hb : order % 4 = 0) (w : World) :
    Calls Try.prog 9 #[.agg #[.int .u8 c0, .int .u8 c1, .int .u8 c2, .int .u8 c3], .int .u8 order, .bool false] w (True9 w) := by
  have f1 := words_0n_word c0 c1 c2 255 k0 j0 k1 j1 k2 j2 (by decide) (by decide)
  obtain ⟨wd, hwd⟩ : ∃ wd, c0 * 65536 + c1 * 256 + c2 * 1 = wd := ⟨_, rfl⟩
  rw [hwd] at f1
  have wl0 : 0 ≤ wd := by omega
  have wl1 : wd ≤ 4294967295 := by omega
  have HF := Lib.hid (fun w0 => four_of (quad 16711680 65280 255 0) 32 16 8 8 8 0 8 0 0 (by decide +kernel) (by decide +kernel) (by decide +kernel) (by decide +kernel) (by decide +kernel) w0)
  rw [show quad 16711680 65280 255 0 0 = 16711680 from rfl, show quad 16711680 65280 255 0 1 = 65280 from rfl, show quad 16711680 65280 255 0 2 = 255 from rfl, show quad 16711680 65280 255 0 3 = 0 from rfl] at HF
  have HW := Lib.hid (fun w0 => (sword_any 16 8 8 8 0 8 0 0 c0 c1 c2 255 w0 k0 j0 k1 j1 k2 j2 (by decide) (by decide)).mono (R' := fun e w' => e = .returned (.int .i64 wd) ∧ Below w0.heap.size w0 w') fun e w' hh => ⟨hh.1.trans (ret_int f1), hh.2⟩)
  have HC := Lib.hid (fun w0 => (color_any 16 8 8 8 0 8 0 0 wd w0 (Or.inr (by decide)) (Or.inr (by decide)) (Or.inr (by decide)) ok0).mono (R' := fun e w' => e = .returned (.agg #[.int .u8 c0, .int .u8 c1, .int .u8 c2, .int .u8 255]) ∧ Below w0.heap.size w0 w') fun e w' hh => by
    have q0 : chI 16 8 wd 0 = c0 := ch8 16 (by decide) wd c0 0 (by omega) k0 j0
    have q1 : chI 8 8 wd 0 = c1 := ch8 8 (by decide) wd c1 0 (by omega) k1 j1
    have q2 : chI 0 8 wd 0 = c2 := ch8 0 (by decide) wd c2 0 (by omega) k2 j2
    have q3 : chI 0 0 wd 255 = 255 := rfl
    rw [q0, q1, q2, q3] at hh; exact hh)
  have hAN : bits .andNot .i64 wd 16777215 = 0 := andNot_fit wd (c0 * 65536 + c1 * 256 + c2 * 1) 24 0 16777215 (by decide) (by omega) (by omega) (by omega) (by decide)
  have o1 : bits .or .i64 16711680 65280 = 16776960 := by decide +kernel
  have o2 : bits .or .i64 16776960 255 = 16777215 := by decide +kernel
  have o3 : bits .or .i64 16777215 0 = 16777215 := by decide +kernel
  clear f1 hwd
  go_enter Try.func9, Try.ntmps9
  go_wp2
  go_quiet (fail)
  generalize hWq : World.drewN _ nq = Wq
  have BQ : Below w.heap.size w Wq := by rw [← hWq]; (repeat' (first | (with_reducible exact Below.refl _ _) | (with_reducible assumption) | (with_reducible refine bdrew ?_ _) | (with_reducible refine Below.alloc ?_ ?_ _) | (with_reducible refine Below.drew ?_) | (with_reducible refine Below.setCell ?_ ?_ _) | go_size))
  have zq : w.heap.size < Wq.heap.size := by rw [← hWq]; simp; omega
  have cq0 : Wq.cell? ⟨w.heap.size, 0, none⟩ = some (.int .u8 c0) := by rw [← hWq]; simp [go_sem]
  have cq1 : Wq.cell? ⟨w.heap.size, 1, none⟩ = some (.int .u8 c1) := by rw [← hWq]; simp [go_sem]
  have cq2 : Wq.cell? ⟨w.heap.size, 2, none⟩ = some (.int .u8 c2) := by rw [← hWq]; simp [go_sem]
  have cq3 : Wq.cell? ⟨w.heap.size, 3, none⟩ = some (.int .u8 c3) := by rw [← hWq]; simp [go_sem]
  have fq3 : Wq.frozen? ⟨w.heap.size, 3, none⟩ = false := by rw [← hWq]; simp [go_sem]
  clear hWq
  go_wp2_with (first
    | (go_at_call 37; (with_reducible refine (HF.out _).mono ?_); rintro e w1 ⟨rfl, hb1⟩; obtain ⟨hc1, hf1⟩ := bcell hb1; have hzhb1_0 : w.heap.size < w1.heap.size := (by have h_ := bsz hb1; (try simp at h_); omega))
    | (go_at_call 36; (with_reducible refine (HW.out _).mono ?_); rintro e w2 ⟨rfl, hb2⟩; obtain ⟨hc2, hf2⟩ := bcell hb2; have hzhb2_0 : w1.heap.size < w2.heap.size := (by have h_ := bsz hb2; (try simp at h_); omega); have hzhb2_1 : w.heap.size < w2.heap.size := (by have h_ := bsz hb2; (try simp at h_); omega)))
  have B_hb1 : Below w.heap.size w w1 := bthen hb1 (by (repeat' (first | (with_reducible exact Below.refl _ _) | (with_reducible assumption) | (with_reducible refine bdrew ?_ _) | (with_reducible refine Below.alloc ?_ ?_ _) | (with_reducible refine Below.drew ?_) | (with_reducible refine Below.setCell ?_ ?_ _) | go_size))) (by go_size)
  have S_hb1 : w.heap.size ≤ w1.heap.size := B_hb1.size
  have B_hb2 : Below w.heap.size w w2 := bthen hb2 (by (repeat' (first | (with_reducible exact Below.refl _ _) | (with_reducible assumption) | (with_reducible refine bdrew ?_ _) | (with_reducible refine Below.alloc ?_ ?_ _) | (with_reducible refine Below.drew ?_) | (with_reducible refine Below.setCell ?_ ?_ _) | go_size))) (by go_size)
  have S_hb2 : w.heap.size ≤ w2.heap.size := B_hb2.size
  have p0 : w2.cell? ⟨w1.heap.size, 0, none⟩ = some (.int .i64 16) := by simp [go_sem, *]
  have p1 : w2.cell? ⟨w1.heap.size, 1, none⟩ = some (.int .i64 8) := by simp [go_sem, *]
  have p2 : w2.cell? ⟨w1.heap.size, 2, none⟩ = some (.int .i64 8) := by simp [go_sem, *]
  have p3 : w2.cell? ⟨w1.heap.size, 3, none⟩ = some (.int .i64 8) := by simp [go_sem, *]
  have p4 : w2.cell? ⟨w1.heap.size, 4, none⟩ = some (.int .i64 0) := by simp [go_sem, *]
  have p5 : w2.cell? ⟨w1.heap.size, 5, none⟩ = some (.int .i64 8) := by simp [go_sem, *]
  have p6 : w2.cell? ⟨w1.heap.size, 6, none⟩ = some (.int .i64 0) := by simp [go_sem, *]
  have p7 : w2.cell? ⟨w1.heap.size, 7, none⟩ = some (.int .i64 0) := by simp [go_sem, *]
  have r0 : w2.cell? ⟨w.heap.size, 0, none⟩ = some (.int .u8 c0) := by simp [go_sem, *]
  have r1 : w2.cell? ⟨w.heap.size, 1, none⟩ = some (.int .u8 c1) := by simp [go_sem, *]
  have r2 : w2.cell? ⟨w.heap.size, 2, none⟩ = some (.int .u8 c2) := by simp [go_sem, *]
  have r3 : w2.cell? ⟨w.heap.size, 3, none⟩ = some (.int .u8 255) := by simp [go_sem, *]
  clear hc1 hf1 hc2 hf2
  go_region_held3 (fun w' => KP w2.heap.size w2 w') (first | exact kp_next (by assumption) hb3 | exact kp_drew (kp_refl (Nat.le_refl _)))
    (first
      | (go_at_call 28; (with_reducible refine (HC.out _).mono ?_); rintro e w3 ⟨rfl, hb3⟩)
      | (go_at_call 30; (with_reducible refine (awake9 _).mono ?_); rintro e w4 ⟨rfl, hb3⟩))
  rename_i hH
  have H1 := Lib.hid (bthen hH.1 B_hb2 (by omega))
  clear hH
  go_wp2
  go_ret
  exact ⟨rfl, H1.out⟩
theorem words_0a_word (c0 c1 c2 c3 : Int) (k0 : 0 ≤ c0) (j0 : c0 ≤ 255) (k1 : 0 ≤ c1) (j1 : c1 ≤ 255) (k2 : 0 ≤ c2) (j2 : c2 ≤ 255) (k3 : 0 ≤ c3) (j3 : c3 ≤ 255) :
    bits .or .i64 (bits .or .i64 (bits .or .i64 (putI 16 8 c0) (putI 8 8 c1)) (putI 0 8 c2)) (putI 24 8 c3) = c0 * 65536 + c1 * 256 + c2 * 1 + c3 * 16777216 := by
  have e0 : putI 16 8 c0 = c0 * 65536 := put8 16 (by decide) c0
  have e1 : putI 8 8 c1 = c1 * 256 := put8 8 (by decide) c1
  have e2 : putI 0 8 c2 = c2 * 1 := put8 0 (by decide) c2
  have e3 : putI 24 8 c3 = c3 * 16777216 := put8 24 (by decide) c3
  rw [e0, e1, e2, e3]
  have f1 : bits .or .i64 (c0 * 65536) (c1 * 256) = c0 * 65536 + c1 * 256 := or_join 16 _ _ (by omega) (by omega) (by omega) (by omega) (by omega) (by decide)
  have f2 : bits .or .i64 (c0 * 65536 + c1 * 256) (c2 * 1) = c0 * 65536 + c1 * 256 + c2 * 1 := or_join 8 _ _ (by omega) (by omega) (by omega) (by omega) (by omega) (by decide)
  rw [f1, f2]
  exact (or_comm _ _).trans ((or_join 24 _ _ (by omega) (by omega) (by omega) (by omega) (by omega) (by decide)).trans (Int.add_comm _ _))
set_option maxRecDepth 100000 in
set_option maxHeartbeats 4000000 in
theorem words_0a (c0 c1 c2 c3 order : Int) (k0 : 0 ≤ c0) (j0 : c0 ≤ 255) (k1 : 0 ≤ c1) (j1 : c1 ≤ 255) (k2 : 0 ≤ c2) (j2 : c2 ≤ 255) (k3 : 0 ≤ c3) (j3 : c3 ≤ 255) (l0 : 0 ≤ order) (l1 : order ≤ 255) (hb : order % 4 = 0) (w : World) :
    Calls Try.prog 9 #[.agg #[.int .u8 c0, .int .u8 c1, .int .u8 c2, .int .u8 c3], .int .u8 order, .bool true] w (True9 w) := by
  have f1 := words_0a_word c0 c1 c2 c3 k0 j0 k1 j1 k2 j2 k3 j3
  obtain ⟨wd, hwd⟩ : ∃ wd, c0 * 65536 + c1 * 256 + c2 * 1 + c3 * 16777216 = wd := ⟨_, rfl⟩
  rw [hwd] at f1
  have wl0 : 0 ≤ wd := by omega
  have wl1 : wd ≤ 4294967295 := by omega
  have HF := Lib.hid (fun w0 => four_of (quad 16711680 65280 255 4278190080) 32 16 8 8 8 0 8 24 8 (by decide +kernel) (by decide +kernel) (by decide +kernel) (by decide +kernel) (by decide +kernel) w0)
  rw [show quad 16711680 65280 255 4278190080 0 = 16711680 from rfl, show quad 16711680 65280 255 4278190080 1 = 65280 from rfl, show quad 16711680 65280 255 4278190080 2 = 255 from rfl, show quad 16711680 65280 255 4278190080 3 = 4278190080 from rfl] at HF
  have HW := Lib.hid (fun w0 => (sword_any 16 8 8 8 0 8 24 8 c0 c1 c2 c3 w0 k0 j0 k1 j1 k2 j2 k3 j3).mono (R' := fun e w' => e = .returned (.int .i64 wd) ∧ Below w0.heap.size w0 w') fun e w' hh => ⟨hh.1.trans (ret_int f1), hh.2⟩)
  have HC := Lib.hid (fun w0 => (color_any 16 8 8 8 0 8 24 8 wd w0 (Or.inr (by decide)) (Or.inr (by decide)) (Or.inr (by decide)) (Or.inr (by decide))).mono (R' := fun e w' => e = .returned (.agg #[.int .u8 c0, .int .u8 c1, .int .u8 c2, .int .u8 c3]) ∧ Below w0.heap.size w0 w') fun e w' hh => by
    have q0 : chI 16 8 wd 0 = c0 := ch8 16 (by decide) wd c0 0 (by omega) k0 j0
    have q1 : chI 8 8 wd 0 = c1 := ch8 8 (by decide) wd c1 0 (by omega) k1 j1
    have q2 : chI 0 8 wd 0 = c2 := ch8 0 (by decide) wd c2 0 (by omega) k2 j2
    have q3 : chI 24 8 wd 255 = c3 := ch8 24 (by decide) wd c3 255 (by omega) k3 j3
    rw [q0, q1, q2, q3] at hh; exact hh)
  have hAN : bits .andNot .i64 wd 4294967295 = 0 := andNot_fit wd (c0 * 65536 + c1 * 256 + c2 * 1 + c3 * 16777216) 32 0 4294967295 (by decide) (by omega) (by omega) (by omega) (by decide)
  have o1 : bits .or .i64 16711680 65280 = 16776960 := by decide +kernel
  have o2 : bits .or .i64 16776960 255 = 16777215 := by decide +kernel
  have o3 : bits .or .i64 16777215 4278190080 = 4294967295 := by decide +kernel
  clear f1 hwd
  go_enter Try.func9, Try.ntmps9
  go_wp2
  go_quiet (fail)
  generalize hWq : World.drewN _ nq = Wq
  have BQ : Below w.heap.size w Wq := by rw [← hWq]; (repeat' (first | (with_reducible exact Below.refl _ _) | (with_reducible assumption) | (with_reducible refine bdrew ?_ _) | (with_reducible refine Below.alloc ?_ ?_ _) | (with_reducible refine Below.drew ?_) | (with_reducible refine Below.setCell ?_ ?_ _) | go_size))
  have zq : w.heap.size < Wq.heap.size := by rw [← hWq]; simp; omega
  have cq0 : Wq.cell? ⟨w.heap.size, 0, none⟩ = some (.int .u8 c0) := by rw [← hWq]; simp [go_sem]
  have cq1 : Wq.cell? ⟨w.heap.size, 1, none⟩ = some (.int .u8 c1) := by rw [← hWq]; simp [go_sem]
  have cq2 : Wq.cell? ⟨w.heap.size, 2, none⟩ = some (.int .u8 c2) := by rw [← hWq]; simp [go_sem]
  have cq3 : Wq.cell? ⟨w.heap.size, 3, none⟩ = some (.int .u8 c3) := by rw [← hWq]; simp [go_sem]
  have fq3 : Wq.frozen? ⟨w.heap.size, 3, none⟩ = false := by rw [← hWq]; simp [go_sem]
  clear hWq
  go_wp2_with (first
    | (go_at_call 37; (with_reducible refine (HF.out _).mono ?_); rintro e w1 ⟨rfl, hb1⟩; obtain ⟨hc1, hf1⟩ := bcell hb1; have hzhb1_0 : w.heap.size < w1.heap.size := (by have h_ := bsz hb1; (try simp at h_); omega))
    | (go_at_call 36; (with_reducible refine (HW.out _).mono ?_); rintro e w2 ⟨rfl, hb2⟩; obtain ⟨hc2, hf2⟩ := bcell hb2; have hzhb2_0 : w1.heap.size < w2.heap.size := (by have h_ := bsz hb2; (try simp at h_); omega); have hzhb2_1 : w.heap.size < w2.heap.size := (by have h_ := bsz hb2; (try simp at h_); omega)))
  have B_hb1 : Below w.heap.size w w1 := bthen hb1 (by (repeat' (first | (with_reducible exact Below.refl _ _) | (with_reducible assumption) | (with_reducible refine bdrew ?_ _) | (with_reducible refine Below.alloc ?_ ?_ _) | (with_reducible refine Below.drew ?_) | (with_reducible refine Below.setCell ?_ ?_ _) | go_size))) (by go_size)
  have S_hb1 : w.heap.size ≤ w1.heap.size := B_hb1.size
  have B_hb2 : Below w.heap.size w w2 := bthen hb2 (by (repeat' (first | (with_reducible exact Below.refl _ _) | (with_reducible assumption) | (with_reducible refine bdrew ?_ _) | (with_reducible refine Below.alloc ?_ ?_ _) | (with_reducible refine Below.drew ?_) | (with_reducible refine Below.setCell ?_ ?_ _) | go_size))) (by go_size)
  have S_hb2 : w.heap.size ≤ w2.heap.size := B_hb2.size
  have p0 : w2.cell? ⟨w1.heap.size, 0, none⟩ = some (.int .i64 16) := by simp [go_sem, *]
  have p1 : w2.cell? ⟨w1.heap.size, 1, none⟩ = some (.int .i64 8) := by simp [go_sem, *]
  have p2 : w2.cell? ⟨w1.heap.size, 2, none⟩ = some (.int .i64 8) := by simp [go_sem, *]
  have p3 : w2.cell? ⟨w1.heap.size, 3, none⟩ = some (.int .i64 8) := by simp [go_sem, *]
  have p4 : w2.cell? ⟨w1.heap.size, 4, none⟩ = some (.int .i64 0) := by simp [go_sem, *]
  have p5 : w2.cell? ⟨w1.heap.size, 5, none⟩ = some (.int .i64 8) := by simp [go_sem, *]
  have p6 : w2.cell? ⟨w1.heap.size, 6, none⟩ = some (.int .i64 24) := by simp [go_sem, *]
  have p7 : w2.cell? ⟨w1.heap.size, 7, none⟩ = some (.int .i64 8) := by simp [go_sem, *]
  have r0 : w2.cell? ⟨w.heap.size, 0, none⟩ = some (.int .u8 c0) := by simp [go_sem, *]
  have r1 : w2.cell? ⟨w.heap.size, 1, none⟩ = some (.int .u8 c1) := by simp [go_sem, *]
  have r2 : w2.cell? ⟨w.heap.size, 2, none⟩ = some (.int .u8 c2) := by simp [go_sem, *]
  have r3 : w2.cell? ⟨w.heap.size, 3, none⟩ = some (.int .u8 c3) := by simp [go_sem, *]
  clear hc1 hf1 hc2 hf2
  go_region_held3 (fun w' => KP w2.heap.size w2 w') (first | exact kp_next (by assumption) hb3 | exact kp_drew (kp_refl (Nat.le_refl _)))
    (first
      | (go_at_call 28; (with_reducible refine (HC.out _).mono ?_); rintro e w3 ⟨rfl, hb3⟩)
      | (go_at_call 30; (with_reducible refine (awake9 _).mono ?_); rintro e w4 ⟨rfl, hb3⟩))
  rename_i hH
  have H1 := Lib.hid (bthen hH.1 B_hb2 (by omega))
  clear hH
  go_wp2
  go_ret
  exact ⟨rfl, H1.out⟩
theorem words_1n_word (c0 c1 c2 c3 : Int) (k0 : 0 ≤ c0) (j0 : c0 ≤ 255) (k1 : 0 ≤ c1) (j1 : c1 ≤ 255) (k2 : 0 ≤ c2) (j2 : c2 ≤ 255) (k3 : 0 ≤ c3) (j3 : c3 ≤ 255) :
    bits .or .i64 (bits .or .i64 (bits .or .i64 (putI 0 8 c0) (putI 8 8 c1)) (putI 16 8 c2)) (putI 0 0 c3) = c0 * 1 + c1 * 256 + c2 * 65536 := by
  have e0 : putI 0 8 c0 = c0 * 1 := put8 0 (by decide) c0
  have e1 : putI 8 8 c1 = c1 * 256 := put8 8 (by decide) c1
  have e2 : putI 16 8 c2 = c2 * 65536 := put8 16 (by decide) c2
  have e3 : putI 0 0 c3 = 0 := if_neg (by decide)
  rw [e0, e1, e2, e3]
  have f1 : bits .or .i64 (c0 * 1) (c1 * 256) = c0 * 1 + c1 * 256 := (or_comm _ _).trans ((or_join 8 _ _ (by omega) (by omega) (by omega) (by omega) (by omega) (by decide)).trans (Int.add_comm _ _))
  have f2 : bits .or .i64 (c0 * 1 + c1 * 256) (c2 * 65536) = c0 * 1 + c1 * 256 + c2 * 65536 := (or_comm _ _).trans ((or_join 16 _ _ (by omega) (by omega) (by omega) (by omega) (by omega) (by decide)).trans (Int.add_comm _ _))
  rw [f1, f2]
  have f3 : bits .or .i64 (c0 * 1 + c1 * 256 + c2 * 65536) 0 = c0 * 1 + c1 * 256 + c2 * 65536 + 0 := or_join 0 _ _ (by omega) (by simp <;> omega) (by omega) (by decide) (by decide) (by decide)
  rw [f3]; omega
set_option maxRecDepth 100000 in
set_option maxHeartbeats 4000000 in
theorem words_1n (c0 c1 c2 c3 order : Int) (k0 : 0 ≤ c0) (j0 : c0 ≤ 255) (k1 : 0 ≤ c1) (j1 : c1 ≤ 255) (k2 : 0 ≤ c2) (j2 : c2 ≤ 255) (k3 : 0 ≤ c3) (j3 : c3 ≤ 255) (l0 : 0 ≤ order) (l1 : order ≤ 255) (hb : order % 4 = 1) (w : World) :
    Calls Try.prog 9 #[.agg #[.int .u8 c0, .int .u8 c1, .int .u8 c2, .int .u8 c3], .int .u8 order, .bool false] w (True9 w) := by
  have f1 := words_1n_word c0 c1 c2 255 k0 j0 k1 j1 k2 j2 (by decide) (by decide)
  obtain ⟨wd, hwd⟩ : ∃ wd, c0 * 1 + c1 * 256 + c2 * 65536 = wd := ⟨_, rfl⟩
  rw [hwd] at f1
  have wl0 : 0 ≤ wd := by omega
  have wl1 : wd ≤ 4294967295 := by omega
  have HF := Lib.hid (fun w0 => four_of (quad 255 65280 16711680 0) 32 0 8 8 8 16 8 0 0 (by decide +kernel) (by decide +kernel) (by decide +kernel) (by decide +kernel) (by decide +kernel) w0)
  rw [show quad 255 65280 16711680 0 0 = 255 from rfl, show quad 255 65280 16711680 0 1 = 65280 from rfl, show quad 255 65280 16711680 0 2 = 16711680 from rfl, show quad 255 65280 16711680 0 3 = 0 from rfl] at HF
  have HW := Lib.hid (fun w0 => (sword_any 0 8 8 8 16 8 0 0 c0 c1 c2 255 w0 k0 j0 k1 j1 k2 j2 (by decide) (by decide)).mono (R' := fun e w' => e = .returned (.int .i64 wd) ∧ Below w0.heap.size w0 w') fun e w' hh => ⟨hh.1.trans (ret_int f1), hh.2⟩)
  have HC := Lib.hid (fun w0 => (color_any 0 8 8 8 16 8 0 0 wd w0 (Or.inr (by decide)) (Or.inr (by decide)) (Or.inr (by decide)) ok0).mono (R' := fun e w' => e = .returned (.agg #[.int .u8 c0, .int .u8 c1, .int .u8 c2, .int .u8 255]) ∧ Below w0.heap.size w0 w') fun e w' hh => by
    have q0 : chI 0 8 wd 0 = c0 := ch8 0 (by decide) wd c0 0 (by omega) k0 j0
    have q1 : chI 8 8 wd 0 = c1 := ch8 8 (by decide) wd c1 0 (by omega) k1 j1
    have q2 : chI 16 8 wd 0 = c2 := ch8 16 (by decide) wd c2 0 (by omega) k2 j2
    have q3 : chI 0 0 wd 255 = 255 := rfl
    rw [q0, q1, q2, q3] at hh; exact hh)
  have hAN : bits .andNot .i64 wd 16777215 = 0 := andNot_fit wd (c0 * 1 + c1 * 256 + c2 * 65536) 24 0 16777215 (by decide) (by omega) (by omega) (by omega) (by decide)
  have o1 : bits .or .i64 255 65280 = 65535 := by decide +kernel
  have o2 : bits .or .i64 65535 16711680 = 16777215 := by decide +kernel
  have o3 : bits .or .i64 16777215 0 = 16777215 := by decide +kernel
  clear f1 hwd
  go_enter Try.func9, Try.ntmps9
  go_wp2
  go_quiet (fail)
  generalize hWq : World.drewN _ nq = Wq
  have BQ : Below w.heap.size w Wq := by rw [← hWq]; (repeat' (first | (with_reducible exact Below.refl _ _) | (with_reducible assumption) | (with_reducible refine bdrew ?_ _) | (with_reducible refine Below.alloc ?_ ?_ _) | (with_reducible refine Below.drew ?_) | (with_reducible refine Below.setCell ?_ ?_ _) | go_size))
  have zq : w.heap.size < Wq.heap.size := by rw [← hWq]; simp; omega
  have cq0 : Wq.cell? ⟨w.heap.size, 0, none⟩ = some (.int .u8 c0) := by rw [← hWq]; simp [go_sem]
  have cq1 : Wq.cell? ⟨w.heap.size, 1, none⟩ = some (.int .u8 c1) := by rw [← hWq]; simp [go_sem]
  have cq2 : Wq.cell? ⟨w.heap.size, 2, none⟩ = some (.int .u8 c2) := by rw [← hWq]; simp [go_sem]
  have cq3 : Wq.cell? ⟨w.heap.size, 3, none⟩ = some (.int .u8 c3) := by rw [← hWq]; simp [go_sem]
  have fq3 : Wq.frozen? ⟨w.heap.size, 3, none⟩ = false := by rw [← hWq]; simp [go_sem]
  clear hWq
  go_wp2_with (first
    | (go_at_call 37; (with_reducible refine (HF.out _).mono ?_); rintro e w1 ⟨rfl, hb1⟩; obtain ⟨hc1, hf1⟩ := bcell hb1; have hzhb1_0 : w.heap.size < w1.heap.size := (by have h_ := bsz hb1; (try simp at h_); omega))
    | (go_at_call 36; (with_reducible refine (HW.out _).mono ?_); rintro e w2 ⟨rfl, hb2⟩; obtain ⟨hc2, hf2⟩ := bcell hb2; have hzhb2_0 : w1.heap.size < w2.heap.size := (by have h_ := bsz hb2; (try simp at h_); omega); have hzhb2_1 : w.heap.size < w2.heap.size := (by have h_ := bsz hb2; (try simp at h_); omega)))
  have B_hb1 : Below w.heap.size w w1 := bthen hb1 (by (repeat' (first | (with_reducible exact Below.refl _ _) | (with_reducible assumption) | (with_reducible refine bdrew ?_ _) | (with_reducible refine Below.alloc ?_ ?_ _) | (with_reducible refine Below.drew ?_) | (with_reducible refine Below.setCell ?_ ?_ _) | go_size))) (by go_size)
  have S_hb1 : w.heap.size ≤ w1.heap.size := B_hb1.size
  have B_hb2 : Below w.heap.size w w2 := bthen hb2 (by (repeat' (first | (with_reducible exact Below.refl _ _) | (with_reducible assumption) | (with_reducible refine bdrew ?_ _) | (with_reducible refine Below.alloc ?_ ?_ _) | (with_reducible refine Below.drew ?_) | (with_reducible refine Below.setCell ?_ ?_ _) | go_size))) (by go_size)
  have S_hb2 : w.heap.size ≤ w2.heap.size := B_hb2.size
  have p0 : w2.cell? ⟨w1.heap.size, 0, none⟩ = some (.int .i64 0) := by simp [go_sem, *]
  have p1 : w2.cell? ⟨w1.heap.size, 1, none⟩ = some (.int .i64 8) := by simp [go_sem, *]
  have p2 : w2.cell? ⟨w1.heap.size, 2, none⟩ = some (.int .i64 8) := by simp [go_sem, *]
  have p3 : w2.cell? ⟨w1.heap.size, 3, none⟩ = some (.int .i64 8) := by simp [go_sem, *]
  have p4 : w2.cell? ⟨w1.heap.size, 4, none⟩ = some (.int .i64 16) := by simp [go_sem, *]
  have p5 : w2.cell? ⟨w1.heap.size, 5, none⟩ = some (.int .i64 8) := by simp [go_sem, *]
  have p6 : w2.cell? ⟨w1.heap.size, 6, none⟩ = some (.int .i64 0) := by simp [go_sem, *]
  have p7 : w2.cell? ⟨w1.heap.size, 7, none⟩ = some (.int .i64 0) := by simp [go_sem, *]
  have r0 : w2.cell? ⟨w.heap.size, 0, none⟩ = some (.int .u8 c0) := by simp [go_sem, *]
  have r1 : w2.cell? ⟨w.heap.size, 1, none⟩ = some (.int .u8 c1) := by simp [go_sem, *]
  have r2 : w2.cell? ⟨w.heap.size, 2, none⟩ = some (.int .u8 c2) := by simp [go_sem, *]
  have r3 : w2.cell? ⟨w.heap.size, 3, none⟩ = some (.int .u8 255) := by simp [go_sem, *]
  clear hc1 hf1 hc2 hf2
  go_region_held3 (fun w' => KP w2.heap.size w2 w') (first | exact kp_next (by assumption) hb3 | exact kp_drew (kp_refl (Nat.le_refl _)))
    (first
      | (go_at_call 28; (with_reducible refine (HC.out _).mono ?_); rintro e w3 ⟨rfl, hb3⟩)
      | (go_at_call 30; (with_reducible refine (awake9 _).mono ?_); rintro e w4 ⟨rfl, hb3⟩))
  rename_i hH
  have H1 := Lib.hid (bthen hH.1 B_hb2 (by omega))
  clear hH
  go_wp2
  go_ret
  exact ⟨rfl, H1.out⟩
theorem words_1a_word (c0 c1 c2 c3 : Int) (k0 : 0 ≤ c0) (j0 : c0 ≤ 255) (k1 : 0 ≤ c1) (j1 : c1 ≤ 255) (k2 : 0 ≤ c2) (j2 : c2 ≤ 255) (k3 : 0 ≤ c3) (j3 : c3 ≤ 255) :
    bits .or .i64 (bits .or .i64 (bits .or .i64 (putI 0 8 c0) (putI 8 8 c1)) (putI 16 8 c2)) (putI 24 8 c3) = c0 * 1 + c1 * 256 + c2 * 65536 + c3 * 16777216 := by
  have e0 : putI 0 8 c0 = c0 * 1 := put8 0 (by decide) c0
  have e1 : putI 8 8 c1 = c1 * 256 := put8 8 (by decide) c1
  have e2 : putI 16 8 c2 = c2 * 65536 := put8 16 (by decide) c2
  have e3 : putI 24 8 c3 = c3 * 16777216 := put8 24 (by decide) c3
  rw [e0, e1, e2, e3]
  have f1 : bits .or .i64 (c0 * 1) (c1 * 256) = c0 * 1 + c1 * 256 := (or_comm _ _).trans ((or_join 8 _ _ (by omega) (by omega) (by omega) (by omega) (by omega) (by decide)).trans (Int.add_comm _ _))
  have f2 : bits .or .i64 (c0 * 1 + c1 * 256) (c2 * 65536) = c0 * 1 + c1 * 256 + c2 * 65536 := (or_comm _ _).trans ((or_join 16 _ _ (by omega) (by omega) (by omega) (by omega) (by omega) (by decide)).trans (Int.add_comm _ _))
  rw [f1, f2]
  exact (or_comm _ _).trans ((or_join 24 _ _ (by omega) (by omega) (by omega) (by omega) (by omega) (by decide)).trans (Int.add_comm _ _))
set_option maxRecDepth 100000 in
set_option maxHeartbeats 4000000 in
theorem words_1a (c0 c1 c2 c3 order : Int) (k0 : 0 ≤ c0) (j0 : c0 ≤ 255) (k1 : 0 ≤ c1) (j1 : c1 ≤ 255) (k2 : 0 ≤ c2) (j2 : c2 ≤ 255) (k3 : 0 ≤ c3) (j3 : c3 ≤ 255) (l0 : 0 ≤ order) (l1 : order ≤ 255) (hb : order % 4 = 1) (w : World) :
    Calls Try.prog 9 #[.agg #[.int .u8 c0, .int .u8 c1, .int .u8 c2, .int .u8 c3], .int .u8 order, .bool true] w (True9 w) := by
  have f1 := words_1a_word c0 c1 c2 c3 k0 j0 k1 j1 k2 j2 k3 j3
  obtain ⟨wd, hwd⟩ : ∃ wd, c0 * 1 + c1 * 256 + c2 * 65536 + c3 * 16777216 = wd := ⟨_, rfl⟩
  rw [hwd] at f1
  have wl0 : 0 ≤ wd := by omega
  have wl1 : wd ≤ 4294967295 := by omega
  have HF := Lib.hid (fun w0 => four_of (quad 255 65280 16711680 4278190080) 32 0 8 8 8 16 8 24 8 (by decide +kernel) (by decide +kernel) (by decide +kernel) (by decide +kernel) (by decide +kernel) w0)
  rw [show quad 255 65280 16711680 4278190080 0 = 255 from rfl, show quad 255 65280 16711680 4278190080 1 = 65280 from rfl, show quad 255 65280 16711680 4278190080 2 = 16711680 from rfl, show quad 255 65280 16711680 4278190080 3 = 4278190080 from rfl] at HF
  have HW := Lib.hid (fun w0 => (sword_any 0 8 8 8 16 8 24 8 c0 c1 c2 c3 w0 k0 j0 k1 j1 k2 j2 k3 j3).mono (R' := fun e w' => e = .returned (.int .i64 wd) ∧ Below w0.heap.size w0 w') fun e w' hh => ⟨hh.1.trans (ret_int f1), hh.2⟩)
  have HC := Lib.hid (fun w0 => (color_any 0 8 8 8 16 8 24 8 wd w0 (Or.inr (by decide)) (Or.inr (by decide)) (Or.inr (by decide)) (Or.inr (by decide))).mono (R' := fun e w' => e = .returned (.agg #[.int .u8 c0, .int .u8 c1, .int .u8 c2, .int .u8 c3]) ∧ Below w0.heap.size w0 w') fun e w' hh => by
    have q0 : chI 0 8 wd 0 = c0 := ch8 0 (by decide) wd c0 0 (by omega) k0 j0
    have q1 : chI 8 8 wd 0 = c1 := ch8 8 (by decide) wd c1 0 (by omega) k1 j1
    have q2 : chI 16 8 wd 0 = c2 := ch8 16 (by decide) wd c2 0 (by omega) k2 j2
    have q3 : chI 24 8 wd 255 = c3 := ch8 24 (by decide) wd c3 255 (by omega) k3 j3
    rw [q0, q1, q2, q3] at hh; exact hh)
  have hAN : bits .andNot .i64 wd 4294967295 = 0 := andNot_fit wd (c0 * 1 + c1 * 256 + c2 * 65536 + c3 * 16777216) 32 0 4294967295 (by decide) (by omega) (by omega) (by omega) (by decide)
  have o1 : bits .or .i64 255 65280 = 65535 := by decide +kernel
  have o2 : bits .or .i64 65535 16711680 = 16777215 := by decide +kernel
  have o3 : bits .or .i64 16777215 4278190080 = 4294967295 := by decide +kernel
  clear f1 hwd
  go_enter Try.func9, Try.ntmps9
  go_wp2
  go_quiet (fail)
  generalize hWq : World.drewN _ nq = Wq
  have BQ : Below w.heap.size w Wq := by rw [← hWq]; (repeat' (first | (with_reducible exact Below.refl _ _) | (with_reducible assumption) | (with_reducible refine bdrew ?_ _) | (with_reducible refine Below.alloc ?_ ?_ _) | (with_reducible refine Below.drew ?_) | (with_reducible refine Below.setCell ?_ ?_ _) | go_size))
  have zq : w.heap.size < Wq.heap.size := by rw [← hWq]; simp; omega
  have cq0 : Wq.cell? ⟨w.heap.size, 0, none⟩ = some (.int .u8 c0) := by rw [← hWq]; simp [go_sem]
  have cq1 : Wq.cell? ⟨w.heap.size, 1, none⟩ = some (.int .u8 c1) := by rw [← hWq]; simp [go_sem]
  have cq2 : Wq.cell? ⟨w.heap.size, 2, none⟩ = some (.int .u8 c2) := by rw [← hWq]; simp [go_sem]
  have cq3 : Wq.cell? ⟨w.heap.size, 3, none⟩ = some (.int .u8 c3) := by rw [← hWq]; simp [go_sem]
  have fq3 : Wq.frozen? ⟨w.heap.size, 3, none⟩ = false := by rw [← hWq]; simp [go_sem]
  clear hWq
  go_wp2_with (first
    | (go_at_call 37; (with_reducible refine (HF.out _).mono ?_); rintro e w1 ⟨rfl, hb1⟩; obtain ⟨hc1, hf1⟩ := bcell hb1; have hzhb1_0 : w.heap.size < w1.heap.size := (by have h_ := bsz hb1; (try simp at h_); omega))
    | (go_at_call 36; (with_reducible refine (HW.out _).mono ?_); rintro e w2 ⟨rfl, hb2⟩; obtain ⟨hc2, hf2⟩ := bcell hb2; have hzhb2_0 : w1.heap.size < w2.heap.size := (by have h_ := bsz hb2; (try simp at h_); omega); have hzhb2_1 : w.heap.size < w2.heap.size := (by have h_ := bsz hb2; (try simp at h_); omega)))
  have B_hb1 : Below w.heap.size w w1 := bthen hb1 (by (repeat' (first | (with_reducible exact Below.refl _ _) | (with_reducible assumption) | (with_reducible refine bdrew ?_ _) | (with_reducible refine Below.alloc ?_ ?_ _) | (with_reducible refine Below.drew ?_) | (with_reducible refine Below.setCell ?_ ?_ _) | go_size))) (by go_size)
  have S_hb1 : w.heap.size ≤ w1.heap.size := B_hb1.size
  have B_hb2 : Below w.heap.size w w2 := bthen hb2 (by (repeat' (first | (with_reducible exact Below.refl _ _) | (with_reducible assumption) | (with_reducible refine bdrew ?_ _) | (with_reducible refine Below.alloc ?_ ?_ _) | (with_reducible refine Below.drew ?_) | (with_reducible refine Below.setCell ?_ ?_ _) | go_size))) (by go_size)
  have S_hb2 : w.heap.size ≤ w2.heap.size := B_hb2.size
  have p0 : w2.cell? ⟨w1.heap.size, 0, none⟩ = some (.int .i64 0) := by simp [go_sem, *]
  have p1 : w2.cell? ⟨w1.heap.size, 1, none⟩ = some (.int .i64 8) := by simp [go_sem, *]
  have p2 : w2.cell? ⟨w1.heap.size, 2, none⟩ = some (.int .i64 8) := by simp [go_sem, *]
  have p3 : w2.cell? ⟨w1.heap.size, 3, none⟩ = some (.int .i64 8) := by simp [go_sem, *]
  have p4 : w2.cell? ⟨w1.heap.size, 4, none⟩ = some (.int .i64 16) := by simp [go_sem, *]
  have p5 : w2.cell? ⟨w1.heap.size, 5, none⟩ = some (.int .i64 8) := by simp [go_sem, *]
  have p6 : w2.cell? ⟨w1.heap.size, 6, none⟩ = some (.int .i64 24) := by simp [go_sem, *]
  have p7 : w2.cell? ⟨w1.heap.size, 7, none⟩ = some (.int .i64 8) := by simp [go_sem, *]
  have r0 : w2.cell? ⟨w.heap.size, 0, none⟩ = some (.int .u8 c0) := by simp [go_sem, *]
  have r1 : w2.cell? ⟨w.heap.size, 1, none⟩ = some (.int .u8 c1) := by simp [go_sem, *]
  have r2 : w2.cell? ⟨w.heap.size, 2, none⟩ = some (.int .u8 c2) := by simp [go_sem, *]
  have r3 : w2.cell? ⟨w.heap.size, 3, none⟩ = some (.int .u8 c3) := by simp [go_sem, *]
  clear hc1 hf1 hc2 hf2
  go_region_held3 (fun w' => KP w2.heap.size w2 w') (first | exact kp_next (by assumption) hb3 | exact kp_drew (kp_refl (Nat.le_refl _)))
    (first
      | (go_at_call 28; (with_reducible refine (HC.out _).mono ?_); rintro e w3 ⟨rfl, hb3⟩)
      | (go_at_call 30; (with_reducible refine (awake9 _).mono ?_); rintro e w4 ⟨rfl, hb3⟩))
  rename_i hH
  have H1 := Lib.hid (bthen hH.1 B_hb2 (by omega))
  clear hH
  go_wp2
  go_ret
  exact ⟨rfl, H1.out⟩
theorem words_2n_word (c0 c1 c2 c3 : Int) (k0 : 0 ≤ c0) (j0 : c0 ≤ 255) (k1 : 0 ≤ c1) (j1 : c1 ≤ 255) (k2 : 0 ≤ c2) (j2 : c2 ≤ 255) (k3 : 0 ≤ c3) (j3 : c3 ≤ 255) :
    bits .or .i64 (bits .or .i64 (bits .or .i64 (putI 24 8 c0) (putI 16 8 c1)) (putI 8 8 c2)) (putI 0 0 c3) = c0 * 16777216 + c1 * 65536 + c2 * 256 := by
  have e0 : putI 24 8 c0 = c0 * 16777216 := put8 24 (by decide) c0
  have e1 : putI 16 8 c1 = c1 * 65536 := put8 16 (by decide) c1
  have e2 : putI 8 8 c2 = c2 * 256 := put8 8 (by decide) c2
  have e3 : putI 0 0 c3 = 0 := if_neg (by decide)
  rw [e0, e1, e2, e3]
  have f1 : bits .or .i64 (c0 * 16777216) (c1 * 65536) = c0 * 16777216 + c1 * 65536 := or_join 24 _ _ (by omega) (by omega) (by omega) (by omega) (by omega) (by decide)
  have f2 : bits .or .i64 (c0 * 16777216 + c1 * 65536) (c2 * 256) = c0 * 16777216 + c1 * 65536 + c2 * 256 := or_join 16 _ _ (by omega) (by omega) (by omega) (by omega) (by omega) (by decide)
  rw [f1, f2]
  have f3 : bits .or .i64 (c0 * 16777216 + c1 * 65536 + c2 * 256) 0 = c0 * 16777216 + c1 * 65536 + c2 * 256 + 0 := or_join 0 _ _ (by omega) (by simp <;> omega) (by omega) (by decide) (by decide) (by decide)
  rw [f3]; omega
set_option maxRecDepth 100000 in
set_option maxHeartbeats 4000000 in
theorem words_2n (c0 c1 c2 c3 order : Int) (k0 : 0 ≤ c0) (j0 : c0 ≤ 255) (k1 : 0 ≤ c1) (j1 : c1 ≤ 255) (k2 : 0 ≤ c2) (j2 : c2 ≤ 255) (k3 : 0 ≤ c3) (j3 : c3 ≤ 255) (l0 : 0 ≤ order) (l1 : order ≤ 255) (hb : order % 4 = 2) (w : World) :
    Calls Try.prog 9 #[.agg #[.int .u8 c0, .int .u8 c1, .int .u8 c2, .int .u8 c3], .int .u8 order, .bool false] w (True9 w) := by
  have f1 := words_2n_word c0 c1 c2 255 k0 j0 k1 j1 k2 j2 (by decide) (by decide)
  obtain ⟨wd, hwd⟩ : ∃ wd, c0 * 16777216 + c1 * 65536 + c2 * 256 = wd := ⟨_, rfl⟩
  rw [hwd] at f1
  have wl0 : 0 ≤ wd := by omega
  have wl1 : wd ≤ 4294967295 := by omega
  have HF := Lib.hid (fun w0 => four_of (quad 4278190080 16711680 65280 0) 32 24 8 16 8 8 8 0 0 (by decide +kernel) (by decide +kernel) (by decide +kernel) (by decide +kernel) (by decide +kernel) w0)
  rw [show quad 4278190080 16711680 65280 0 0 = 4278190080 from rfl, show quad 4278190080 16711680 65280 0 1 = 16711680 from rfl, show quad 4278190080 16711680 65280 0 2 = 65280 from rfl, show quad 4278190080 16711680 65280 0 3 = 0 from rfl] at HF
  have HW := Lib.hid (fun w0 => (sword_any 24 8 16 8 8 8 0 0 c0 c1 c2 255 w0 k0 j0 k1 j1 k2 j2 (by decide) (by decide)).mono (R' := fun e w' => e = .returned (.int .i64 wd) ∧ Below w0.heap.size w0 w') fun e w' hh => ⟨hh.1.trans (ret_int f1), hh.2⟩)
  have HC := Lib.hid (fun w0 => (color_any 24 8 16 8 8 8 0 0 wd w0 (Or.inr (by decide)) (Or.inr (by decide)) (Or.inr (by decide)) ok0).mono (R' := fun e w' => e = .returned (.agg #[.int .u8 c0, .int .u8 c1, .int .u8 c2, .int .u8 255]) ∧ Below w0.heap.size w0 w') fun e w' hh => by
    have q0 : chI 24 8 wd 0 = c0 := ch8 24 (by decide) wd c0 0 (by omega) k0 j0
    have q1 : chI 16 8 wd 0 = c1 := ch8 16 (by decide) wd c1 0 (by omega) k1 j1
    have q2 : chI 8 8 wd 0 = c2 := ch8 8 (by decide) wd c2 0 (by omega) k2 j2
    have q3 : chI 0 0 wd 255 = 255 := rfl
    rw [q0, q1, q2, q3] at hh; exact hh)
  have hAN : bits .andNot .i64 wd 4294967040 = 0 := andNot_fit wd (c0 * 65536 + c1 * 256 + c2 * 1) 24 8 4294967040 (by decide) (by omega) (by omega) (by omega) (by decide)
  have o1 : bits .or .i64 4278190080 16711680 = 4294901760 := by decide +kernel
  have o2 : bits .or .i64 4294901760 65280 = 4294967040 := by decide +kernel
  have o3 : bits .or .i64 4294967040 0 = 4294967040 := by decide +kernel
  clear f1 hwd
  go_enter Try.func9, Try.ntmps9
  go_wp2
  go_quiet (fail)
  generalize hWq : World.drewN _ nq = Wq
  have BQ : Below w.heap.size w Wq := by rw [← hWq]; (repeat' (first | (with_reducible exact Below.refl _ _) | (with_reducible assumption) | (with_reducible refine bdrew ?_ _) | (with_reducible refine Below.alloc ?_ ?_ _) | (with_reducible refine Below.drew ?_) | (with_reducible refine Below.setCell ?_ ?_ _) | go_size))
  have zq : w.heap.size < Wq.heap.size := by rw [← hWq]; simp; omega
  have cq0 : Wq.cell? ⟨w.heap.size, 0, none⟩ = some (.int .u8 c0) := by rw [← hWq]; simp [go_sem]
  have cq1 : Wq.cell? ⟨w.heap.size, 1, none⟩ = some (.int .u8 c1) := by rw [← hWq]; simp [go_sem]
  have cq2 : Wq.cell? ⟨w.heap.size, 2, none⟩ = some (.int .u8 c2) := by rw [← hWq]; simp [go_sem]
  have cq3 : Wq.cell? ⟨w.heap.size, 3, none⟩ = some (.int .u8 c3) := by rw [← hWq]; simp [go_sem]
  have fq3 : Wq.frozen? ⟨w.heap.size, 3, none⟩ = false := by rw [← hWq]; simp [go_sem]
  clear hWq
  go_wp2_with (first
    | (go_at_call 37; (with_reducible refine (HF.out _).mono ?_); rintro e w1 ⟨rfl, hb1⟩; obtain ⟨hc1, hf1⟩ := bcell hb1; have hzhb1_0 : w.heap.size < w1.heap.size := (by have h_ := bsz hb1; (try simp at h_); omega))
    | (go_at_call 36; (with_reducible refine (HW.out _).mono ?_); rintro e w2 ⟨rfl, hb2⟩; obtain ⟨hc2, hf2⟩ := bcell hb2; have hzhb2_0 : w1.heap.size < w2.heap.size := (by have h_ := bsz hb2; (try simp at h_); omega); have hzhb2_1 : w.heap.size < w2.heap.size := (by have h_ := bsz hb2; (try simp at h_); omega)))
  have B_hb1 : Below w.heap.size w w1 := bthen hb1 (by (repeat' (first | (with_reducible exact Below.refl _ _) | (with_reducible assumption) | (with_reducible refine bdrew ?_ _) | (with_reducible refine Below.alloc ?_ ?_ _) | (with_reducible refine Below.drew ?_) | (with_reducible refine Below.setCell ?_ ?_ _) | go_size))) (by go_size)
  have S_hb1 : w.heap.size ≤ w1.heap.size := B_hb1.size
  have B_hb2 : Below w.heap.size w w2 := bthen hb2 (by (repeat' (first | (with_reducible exact Below.refl _ _) | (with_reducible assumption) | (with_reducible refine bdrew ?_ _) | (with_reducible refine Below.alloc ?_ ?_ _) | (with_reducible refine Below.drew ?_) | (with_reducible refine Below.setCell ?_ ?_ _) | go_size))) (by go_size)
  have S_hb2 : w.heap.size ≤ w2.heap.size := B_hb2.size
  have p0 : w2.cell? ⟨w1.heap.size, 0, none⟩ = some (.int .i64 24) := by simp [go_sem, *]
  have p1 : w2.cell? ⟨w1.heap.size, 1, none⟩ = some (.int .i64 8) := by simp [go_sem, *]
  have p2 : w2.cell? ⟨w1.heap.size, 2, none⟩ = some (.int .i64 16) := by simp [go_sem, *]
  have p3 : w2.cell? ⟨w1.heap.size, 3, none⟩ = some (.int .i64 8) := by simp [go_sem, *]
  have p4 : w2.cell? ⟨w1.heap.size, 4, none⟩ = some (.int .i64 8) := by simp [go_sem, *]
  have p5 : w2.cell? ⟨w1.heap.size, 5, none⟩ = some (.int .i64 8) := by simp [go_sem, *]
  have p6 : w2.cell? ⟨w1.heap.size, 6, none⟩ = some (.int .i64 0) := by simp [go_sem, *]
  have p7 : w2.cell? ⟨w1.heap.size, 7, none⟩ = some (.int .i64 0) := by simp [go_sem, *]
  have r0 : w2.cell? ⟨w.heap.size, 0, none⟩ = some (.int .u8 c0) := by simp [go_sem, *]
  have r1 : w2.cell? ⟨w.heap.size, 1, none⟩ = some (.int .u8 c1) := by simp [go_sem, *]
  have r2 : w2.cell? ⟨w.heap.size, 2, none⟩ = some (.int .u8 c2) := by simp [go_sem, *]
  have r3 : w2.cell? ⟨w.heap.size, 3, none⟩ = some (.int .u8 255) := by simp [go_sem, *]
  clear hc1 hf1 hc2 hf2
  go_region_held3 (fun w' => KP w2.heap.size w2 w') (first | exact kp_next (by assumption) hb3 | exact kp_drew (kp_refl (Nat.le_refl _)))
    (first
      | (go_at_call 28; (with_reducible refine (HC.out _).mono ?_); rintro e w3 ⟨rfl, hb3⟩)
      | (go_at_call 30; (with_reducible refine (awake9 _).mono ?_); rintro e w4 ⟨rfl, hb3⟩))
  rename_i hH
  have H1 := Lib.hid (bthen hH.1 B_hb2 (by omega))
  clear hH
  go_wp2
  go_ret
  exact ⟨rfl, H1.out⟩
theorem words_2a_word (c0 c1 c2 c3 : Int) (k0 : 0 ≤ c0) (j0 : c0 ≤ 255) (k1 : 0 ≤ c1) (j1 : c1 ≤ 255) (k2 : 0 ≤ c2) (j2 : c2 ≤ 255) (k3 : 0 ≤ c3) (j3 : c3 ≤ 255) :
    bits .or .i64 (bits .or .i64 (bits .or .i64 (putI 24 8 c0) (putI 16 8 c1)) (putI 8 8 c2)) (putI 0 8 c3) = c0 * 16777216 + c1 * 65536 + c2 * 256 + c3 * 1 := by
  have e0 : putI 24 8 c0 = c0 * 16777216 := put8 24 (by decide) c0
  have e1 : putI 16 8 c1 = c1 * 65536 := put8 16 (by decide) c1
  have e2 : putI 8 8 c2 = c2 * 256 := put8 8 (by decide) c2
  have e3 : putI 0 8 c3 = c3 * 1 := put8 0 (by decide) c3
  rw [e0, e1, e2, e3]
  have f1 : bits .or .i64 (c0 * 16777216) (c1 * 65536) = c0 * 16777216 + c1 * 65536 := or_join 24 _ _ (by omega) (by omega) (by omega) (by omega) (by omega) (by decide)
  have f2 : bits .or .i64 (c0 * 16777216 + c1 * 65536) (c2 * 256) = c0 * 16777216 + c1 * 65536 + c2 * 256 := or_join 16 _ _ (by omega) (by omega) (by omega) (by omega) (by omega) (by decide)
  rw [f1, f2]
  exact or_join 8 _ _ (by omega) (by omega) (by omega) (by omega) (by omega) (by decide)
set_option maxRecDepth 100000 in
set_option maxHeartbeats 4000000 in
theorem words_2a (c0 c1 c2 c3 order : Int) (k0 : 0 ≤ c0) (j0 : c0 ≤ 255) (k1 : 0 ≤ c1) (j1 : c1 ≤ 255) (k2 : 0 ≤ c2) (j2 : c2 ≤ 255) (k3 : 0 ≤ c3) (j3 : c3 ≤ 255) (l0 : 0 ≤ order) (l1 : order ≤ 255) (hb : order % 4 = 2) (w : World) :
    Calls Try.prog 9 #[.agg #[.int .u8 c0, .int .u8 c1, .int .u8 c2, .int .u8 c3], .int .u8 order, .bool true] w (True9 w) := by
  have f1 := words_2a_word c0 c1 c2 c3 k0 j0 k1 j1 k2 j2 k3 j3
  obtain ⟨wd, hwd⟩ : ∃ wd, c0 * 16777216 + c1 * 65536 + c2 * 256 + c3 * 1 = wd := ⟨_, rfl⟩
  rw [hwd] at f1
  have wl0 : 0 ≤ wd := by omega
  have wl1 : wd ≤ 4294967295 := by omega
  have HF := Lib.hid (fun w0 => four_of (quad 4278190080 16711680 65280 255) 32 24 8 16 8 8 8 0 8 (by decide +kernel) (by decide +kernel) (by decide +kernel) (by decide +kernel) (by decide +kernel) w0)
  rw [show quad 4278190080 16711680 65280 255 0 = 4278190080 from rfl, show quad 4278190080 16711680 65280 255 1 = 16711680 from rfl, show quad 4278190080 16711680 65280 255 2 = 65280 from rfl, show quad 4278190080 16711680 65280 255 3 = 255 from rfl] at HF
  have HW := Lib.hid (fun w0 => (sword_any 24 8 16 8 8 8 0 8 c0 c1 c2 c3 w0 k0 j0 k1 j1 k2 j2 k3 j3).mono (R' := fun e w' => e = .returned (.int .i64 wd) ∧ Below w0.heap.size w0 w') fun e w' hh => ⟨hh.1.trans (ret_int f1), hh.2⟩)
  have HC := Lib.hid (fun w0 => (color_any 24 8 16 8 8 8 0 8 wd w0 (Or.inr (by decide)) (Or.inr (by decide)) (Or.inr (by decide)) (Or.inr (by decide))).mono (R' := fun e w' => e = .returned (.agg #[.int .u8 c0, .int .u8 c1, .int .u8 c2, .int .u8 c3]) ∧ Below w0.heap.size w0 w') fun e w' hh => by
    have q0 : chI 24 8 wd 0 = c0 := ch8 24 (by decide) wd c0 0 (by omega) k0 j0
    have q1 : chI 16 8 wd 0 = c1 := ch8 16 (by decide) wd c1 0 (by omega) k1 j1
    have q2 : chI 8 8 wd 0 = c2 := ch8 8 (by decide) wd c2 0 (by omega) k2 j2
    have q3 : chI 0 8 wd 255 = c3 := ch8 0 (by decide) wd c3 255 (by omega) k3 j3
    rw [q0, q1, q2, q3] at hh; exact hh)
  have hAN : bits .andNot .i64 wd 4294967295 = 0 := andNot_fit wd (c0 * 16777216 + c1 * 65536 + c2 * 256 + c3 * 1) 32 0 4294967295 (by decide) (by omega) (by omega) (by omega) (by decide)
  have o1 : bits .or .i64 4278190080 16711680 = 4294901760 := by decide +kernel
  have o2 : bits .or .i64 4294901760 65280 = 4294967040 := by decide +kernel
  have o3 : bits .or .i64 4294967040 255 = 4294967295 := by decide +kernel
  clear f1 hwd
  go_enter Try.func9, Try.ntmps9
  go_wp2
  go_quiet (fail)
  generalize hWq : World.drewN _ nq = Wq
  have BQ : Below w.heap.size w Wq := by rw [← hWq]; (repeat' (first | (with_reducible exact Below.refl _ _) | (with_reducible assumption) | (with_reducible refine bdrew ?_ _) | (with_reducible refine Below.alloc ?_ ?_ _) | (with_reducible refine Below.drew ?_) | (with_reducible refine Below.setCell ?_ ?_ _) | go_size))
  have zq : w.heap.size < Wq.heap.size := by rw [← hWq]; simp; omega
  have cq0 : Wq.cell? ⟨w.heap.size, 0, none⟩ = some (.int .u8 c0) := by rw [← hWq]; simp [go_sem]
  have cq1 : Wq.cell? ⟨w.heap.size, 1, none⟩ = some (.int .u8 c1) := by rw [← hWq]; simp [go_sem]
  have cq2 : Wq.cell? ⟨w.heap.size, 2, none⟩ = some (.int .u8 c2) := by rw [← hWq]; simp [go_sem]
  have cq3 : Wq.cell? ⟨w.heap.size, 3, none⟩ = some (.int .u8 c3) := by rw [← hWq]; simp [go_sem]
  have fq3 : Wq.frozen? ⟨w.heap.size, 3, none⟩ = false := by rw [← hWq]; simp [go_sem]
  clear hWq
  go_wp2_with (first
    | (go_at_call 37; (with_reducible refine (HF.out _).mono ?_); rintro e w1 ⟨rfl, hb1⟩; obtain ⟨hc1, hf1⟩ := bcell hb1; have hzhb1_0 : w.heap.size < w1.heap.size := (by have h_ := bsz hb1; (try simp at h_); omega))
    | (go_at_call 36; (with_reducible refine (HW.out _).mono ?_); rintro e w2 ⟨rfl, hb2⟩; obtain ⟨hc2, hf2⟩ := bcell hb2; have hzhb2_0 : w1.heap.size < w2.heap.size := (by have h_ := bsz hb2; (try simp at h_); omega); have hzhb2_1 : w.heap.size < w2.heap.size := (by have h_ := bsz hb2; (try simp at h_); omega)))
  have B_hb1 : Below w.heap.size w w1 := bthen hb1 (by (repeat' (first | (with_reducible exact Below.refl _ _) | (with_reducible assumption) | (with_reducible refine bdrew ?_ _) | (with_reducible refine Below.alloc ?_ ?_ _) | (with_reducible refine Below.drew ?_) | (with_reducible refine Below.setCell ?_ ?_ _) | go_size))) (by go_size)
  have S_hb1 : w.heap.size ≤ w1.heap.size := B_hb1.size
  have B_hb2 : Below w.heap.size w w2 := bthen hb2 (by (repeat' (first | (with_reducible exact Below.refl _ _) | (with_reducible assumption) | (with_reducible refine bdrew ?_ _) | (with_reducible refine Below.alloc ?_ ?_ _) | (with_reducible refine Below.drew ?_) | (with_reducible refine Below.setCell ?_ ?_ _) | go_size))) (by go_size)
  have S_hb2 : w.heap.size ≤ w2.heap.size := B_hb2.size
  have p0 : w2.cell? ⟨w1.heap.size, 0, none⟩ = some (.int .i64 24) := by simp [go_sem, *]
  have p1 : w2.cell? ⟨w1.heap.size, 1, none⟩ = some (.int .i64 8) := by simp [go_sem, *]
  have p2 : w2.cell? ⟨w1.heap.size, 2, none⟩ = some (.int .i64 16) := by simp [go_sem, *]
  have p3 : w2.cell? ⟨w1.heap.size, 3, none⟩ = some (.int .i64 8) := by simp [go_sem, *]
  have p4 : w2.cell? ⟨w1.heap.size, 4, none⟩ = some (.int .i64 8) := by simp [go_sem, *]
  have p5 : w2.cell? ⟨w1.heap.size, 5, none⟩ = some (.int .i64 8) := by simp [go_sem, *]
  have p6 : w2.cell? ⟨w1.heap.size, 6, none⟩ = some (.int .i64 0) := by simp [go_sem, *]
  have p7 : w2.cell? ⟨w1.heap.size, 7, none⟩ = some (.int .i64 8) := by simp [go_sem, *]
  have r0 : w2.cell? ⟨w.heap.size, 0, none⟩ = some (.int .u8 c0) := by simp [go_sem, *]
  have r1 : w2.cell? ⟨w.heap.size, 1, none⟩ = some (.int .u8 c1) := by simp [go_sem, *]
  have r2 : w2.cell? ⟨w.heap.size, 2, none⟩ = some (.int .u8 c2) := by simp [go_sem, *]
  have r3 : w2.cell? ⟨w.heap.size, 3, none⟩ = some (.int .u8 c3) := by simp [go_sem, *]
  clear hc1 hf1 hc2 hf2
  go_region_held3 (fun w' => KP w2.heap.size w2 w') (first | exact kp_next (by assumption) hb3 | exact kp_drew (kp_refl (Nat.le_refl _)))
    (first
      | (go_at_call 28; (with_reducible refine (HC.out _).mono ?_); rintro e w3 ⟨rfl, hb3⟩)
      | (go_at_call 30; (with_reducible refine (awake9 _).mono ?_); rintro e w4 ⟨rfl, hb3⟩))
  rename_i hH
  have H1 := Lib.hid (bthen hH.1 B_hb2 (by omega))
  clear hH
  go_wp2
  go_ret
  exact ⟨rfl, H1.out⟩
theorem words_3n_word (c0 c1 c2 c3 : Int) (k0 : 0 ≤ c0) (j0 : c0 ≤ 255) (k1 : 0 ≤ c1) (j1 : c1 ≤ 255) (k2 : 0 ≤ c2) (j2 : c2 ≤ 255) (k3 : 0 ≤ c3) (j3 : c3 ≤ 255) :
    bits .or .i64 (bits .or .i64 (bits .or .i64 (putI 8 8 c0) (putI 16 8 c1)) (putI 24 8 c2)) (putI 0 0 c3) = c0 * 256 + c1 * 65536 + c2 * 16777216 := by
  have e0 : putI 8 8 c0 = c0 * 256 := put8 8 (by decide) c0
  have e1 : putI 16 8 c1 = c1 * 65536 := put8 16 (by decide) c1
  have e2 : putI 24 8 c2 = c2 * 16777216 := put8 24 (by decide) c2
  have e3 : putI 0 0 c3 = 0 := if_neg (by decide)
  rw [e0, e1, e2, e3]
  have f1 : bits .or .i64 (c0 * 256) (c1 * 65536) = c0 * 256 + c1 * 65536 := (or_comm _ _).trans ((or_join 16 _ _ (by omega) (by omega) (by omega) (by omega) (by omega) (by decide)).trans (Int.add_comm _ _))
  have f2 : bits .or .i64 (c0 * 256 + c1 * 65536) (c2 * 16777216) = c0 * 256 + c1 * 65536 + c2 * 16777216 := (or_comm _ _).trans ((or_join 24 _ _ (by omega) (by omega) (by omega) (by omega) (by omega) (by decide)).trans (Int.add_comm _ _))
  rw [f1, f2]
  have f3 : bits .or .i64 (c0 * 256 + c1 * 65536 + c2 * 16777216) 0 = c0 * 256 + c1 * 65536 + c2 * 16777216 + 0 := or_join 0 _ _ (by omega) (by simp <;> omega) (by omega) (by decide) (by decide) (by decide)
  rw [f3]; omega
set_option maxRecDepth 100000 in
set_option maxHeartbeats 4000000 in
theorem words_3n (c0 c1 c2 c3 order : Int) (k0 : 0 ≤ c0) (j0 : c0 ≤ 255) (k1 : 0 ≤ c1) (j1 : c1 ≤ 255) (k2 : 0 ≤ c2) (j2 : c2 ≤ 255) (k3 : 0 ≤ c3) (j3 : c3 ≤ 255) (l0 : 0 ≤ order) (l1 : order ≤ 255) (hb : order % 4 = 3) (w : World) :
    Calls Try.prog 9 #[.agg #[.int .u8 c0, .int .u8 c1, .int .u8 c2, .int .u8 c3], .int .u8 order, .bool false] w (True9 w) := by
  have f1 := words_3n_word c0 c1 c2 255 k0 j0 k1 j1 k2 j2 (by decide) (by decide)
  obtain ⟨wd, hwd⟩ : ∃ wd, c0 * 256 + c1 * 65536 + c2 * 16777216 = wd := ⟨_, rfl⟩
  rw [hwd] at f1
  have wl0 : 0 ≤ wd := by omega
  have wl1 : wd ≤ 4294967295 := by omega
  have HF := Lib.hid (fun w0 => four_of (quad 65280 16711680 4278190080 0) 32 8 8 16 8 24 8 0 0 (by decide +kernel) (by decide +kernel) (by decide +kernel) (by decide +kernel) (by decide +kernel) w0)
  rw [show quad 65280 16711680 4278190080 0 0 = 65280 from rfl, show quad 65280 16711680 4278190080 0 1 = 16711680 from rfl, show quad 65280 16711680 4278190080 0 2 = 4278190080 from rfl, show quad 65280 16711680 4278190080 0 3 = 0 from rfl] at HF
  have HW := Lib.hid (fun w0 => (sword_any 8 8 16 8 24 8 0 0 c0 c1 c2 255 w0 k0 j0 k1 j1 k2 j2 (by decide) (by decide)).mono (R' := fun e w' => e = .returned (.int .i64 wd) ∧ Below w0.heap.size w0 w') fun e w' hh => ⟨hh.1.trans (ret_int f1), hh.2⟩)
  have HC := Lib.hid (fun w0 => (color_any 8 8 16 8 24 8 0 0 wd w0 (Or.inr (by decide)) (Or.inr (by decide)) (Or.inr (by decide)) ok0).mono (R' := fun e w' => e = .returned (.agg #[.int .u8 c0, .int .u8 c1, .int .u8 c2, .int .u8 255]) ∧ Below w0.heap.size w0 w') fun e w' hh => by
    have q0 : chI 8 8 wd 0 = c0 := ch8 8 (by decide) wd c0 0 (by omega) k0 j0
    have q1 : chI 16 8 wd 0 = c1 := ch8 16 (by decide) wd c1 0 (by omega) k1 j1
    have q2 : chI 24 8 wd 0 = c2 := ch8 24 (by decide) wd c2 0 (by omega) k2 j2
    have q3 : chI 0 0 wd 255 = 255 := rfl
    rw [q0, q1, q2, q3] at hh; exact hh)
  have hAN : bits .andNot .i64 wd 4294967040 = 0 := andNot_fit wd (c0 * 1 + c1 * 256 + c2 * 65536) 24 8 4294967040 (by decide) (by omega) (by omega) (by omega) (by decide)
  have o1 : bits .or .i64 65280 16711680 = 16776960 := by decide +kernel
  have o2 : bits .or .i64 16776960 4278190080 = 4294967040 := by decide +kernel
  have o3 : bits .or .i64 4294967040 0 = 4294967040 := by decide +kernel
  clear f1 hwd
  go_enter Try.func9, Try.ntmps9
  go_wp2
  go_quiet (fail)
  generalize hWq : World.drewN _ nq = Wq
  have BQ : Below w.heap.size w Wq := by rw [← hWq]; (repeat' (first | (with_reducible exact Below.refl _ _) | (with_reducible assumption) | (with_reducible refine bdrew ?_ _) | (with_reducible refine Below.alloc ?_ ?_ _) | (with_reducible refine Below.drew ?_) | (with_reducible refine Below.setCell ?_ ?_ _) | go_size))
  have zq : w.heap.size < Wq.heap.size := by rw [← hWq]; simp; omega
  have cq0 : Wq.cell? ⟨w.heap.size, 0, none⟩ = some (.int .u8 c0) := by rw [← hWq]; simp [go_sem]
  have cq1 : Wq.cell? ⟨w.heap.size, 1, none⟩ = some (.int .u8 c1) := by rw [← hWq]; simp [go_sem]
  have cq2 : Wq.cell? ⟨w.heap.size, 2, none⟩ = some (.int .u8 c2) := by rw [← hWq]; simp [go_sem]
  have cq3 : Wq.cell? ⟨w.heap.size, 3, none⟩ = some (.int .u8 c3) := by rw [← hWq]; simp [go_sem]
  have fq3 : Wq.frozen? ⟨w.heap.size, 3, none⟩ = false := by rw [← hWq]; simp [go_sem]
  clear hWq
  go_wp2_with (first
    | (go_at_call 37; (with_reducible refine (HF.out _).mono ?_); rintro e w1 ⟨rfl, hb1⟩; obtain ⟨hc1, hf1⟩ := bcell hb1; have hzhb1_0 : w.heap.size < w1.heap.size := (by have h_ := bsz hb1; (try simp at h_); omega))
    | (go_at_call 36; (with_reducible refine (HW.out _).mono ?_); rintro e w2 ⟨rfl, hb2⟩; obtain ⟨hc2, hf2⟩ := bcell hb2; have hzhb2_0 : w1.heap.size < w2.heap.size := (by have h_ := bsz hb2; (try simp at h_); omega); have hzhb2_1 : w.heap.size < w2.heap.size := (by have h_ := bsz hb2; (try simp at h_); omega)))
  have B_hb1 : Below w.heap.size w w1 := bthen hb1 (by (repeat' (first | (with_reducible exact Below.refl _ _) | (with_reducible assumption) | (with_reducible refine bdrew ?_ _) | (with_reducible refine Below.alloc ?_ ?_ _) | (with_reducible refine Below.drew ?_) | (with_reducible refine Below.setCell ?_ ?_ _) | go_size))) (by go_size)
  have S_hb1 : w.heap.size ≤ w1.heap.size := B_hb1.size
  have B_hb2 : Below w.heap.size w w2 := bthen hb2 (by (repeat' (first | (with_reducible exact Below.refl _ _) | (with_reducible assumption) | (with_reducible refine bdrew ?_ _) | (with_reducible refine Below.alloc ?_ ?_ _) | (with_reducible refine Below.drew ?_) | (with_reducible refine Below.setCell ?_ ?_ _) | go_size))) (by go_size)
  have S_hb2 : w.heap.size ≤ w2.heap.size := B_hb2.size
  have p0 : w2.cell? ⟨w1.heap.size, 0, none⟩ = some (.int .i64 8) := by simp [go_sem, *]
  have p1 : w2.cell? ⟨w1.heap.size, 1, none⟩ = some (.int .i64 8) := by simp [go_sem, *]
  have p2 : w2.cell? ⟨w1.heap.size, 2, none⟩ = some (.int .i64 16) := by simp [go_sem, *]
  have p3 : w2.cell? ⟨w1.heap.size, 3, none⟩ = some (.int .i64 8) := by simp [go_sem, *]
  have p4 : w2.cell? ⟨w1.heap.size, 4, none⟩ = some (.int .i64 24) := by simp [go_sem, *]
  have p5 : w2.cell? ⟨w1.heap.size, 5, none⟩ = some (.int .i64 8) := by simp [go_sem, *]
  have p6 : w2.cell? ⟨w1.heap.size, 6, none⟩ = some (.int .i64 0) := by simp [go_sem, *]
  have p7 : w2.cell? ⟨w1.heap.size, 7, none⟩ = some (.int .i64 0) := by simp [go_sem, *]
  have r0 : w2.cell? ⟨w.heap.size, 0, none⟩ = some (.int .u8 c0) := by simp [go_sem, *]
  have r1 : w2.cell? ⟨w.heap.size, 1, none⟩ = some (.int .u8 c1) := by simp [go_sem, *]
  have r2 : w2.cell? ⟨w.heap.size, 2, none⟩ = some (.int .u8 c2) := by simp [go_sem, *]
  have r3 : w2.cell? ⟨w.heap.size, 3, none⟩ = some (.int .u8 255) := by simp [go_sem, *]
  clear hc1 hf1 hc2 hf2
  go_region_held3 (fun w' => KP w2.heap.size w2 w') (first | exact kp_next (by assumption) hb3 | exact kp_drew (kp_refl (Nat.le_refl _)))
    (first
      | (go_at_call 28; (with_reducible refine (HC.out _).mono ?_); rintro e w3 ⟨rfl, hb3⟩)
      | (go_at_call 30; (with_reducible refine (awake9 _).mono ?_); rintro e w4 ⟨rfl, hb3⟩))
  rename_i hH
  have H1 := Lib.hid (bthen hH.1 B_hb2 (by omega))
  clear hH
  go_wp2
  go_ret
  exact ⟨rfl, H1.out⟩
theorem words_3a_word (c0 c1 c2 c3 : Int) (k0 : 0 ≤ c0) (j0 : c0 ≤ 255) (k1 : 0 ≤ c1) (j1 : c1 ≤ 255) (k2 : 0 ≤ c2) (j2 : c2 ≤ 255) (k3 : 0 ≤ c3) (j3 : c3 ≤ 255) :
    bits .or .i64 (bits .or .i64 (bits .or .i64 (putI 8 8 c0) (putI 16 8 c1)) (putI 24 8 c2)) (putI 0 8 c3) = c0 * 256 + c1 * 65536 + c2 * 16777216 + c3 * 1 := by
  have e0 : putI 8 8 c0 = c0 * 256 := put8 8 (by decide) c0
  have e1 : putI 16 8 c1 = c1 * 65536 := put8 16 (by decide) c1
  have e2 : putI 24 8 c2 = c2 * 16777216 := put8 24 (by decide) c2
  have e3 : putI 0 8 c3 = c3 * 1 := put8 0 (by decide) c3
  rw [e0, e1, e2, e3]
  have f1 : bits .or .i64 (c0 * 256) (c1 * 65536) = c0 * 256 + c1 * 65536 := (or_comm _ _).trans ((or_join 16 _ _ (by omega) (by omega) (by omega) (by omega) (by omega) (by decide)).trans (Int.add_comm _ _))
  have f2 : bits .or .i64 (c0 * 256 + c1 * 65536) (c2 * 16777216) = c0 * 256 + c1 * 65536 + c2 * 16777216 := (or_comm _ _).trans ((or_join 24 _ _ (by omega) (by omega) (by omega) (by omega) (by omega) (by decide)).trans (Int.add_comm _ _))
  rw [f1, f2]
  exact or_join 8 _ _ (by omega) (by omega) (by omega) (by omega) (by omega) (by decide)
set_option maxRecDepth 100000 in
set_option maxHeartbeats 4000000 in
theorem words_3a (c0 c1 c2 c3 order : Int) (k0 : 0 ≤ c0) (j0 : c0 ≤ 255) (k1 : 0 ≤ c1) (j1 : c1 ≤ 255) (k2 : 0 ≤ c2) (j2 : c2 ≤ 255) (k3 : 0 ≤ c3) (j3 : c3 ≤ 255) (l0 : 0 ≤ order) (l1 : order ≤ 255) (hb : order % 4 = 3) (w : World) :
    Calls Try.prog 9 #[.agg #[.int .u8 c0, .int .u8 c1, .int .u8 c2, .int .u8 c3], .int .u8 order, .bool true] w (True9 w) := by
  have f1 := words_3a_word c0 c1 c2 c3 k0 j0 k1 j1 k2 j2 k3 j3
  obtain ⟨wd, hwd⟩ : ∃ wd, c0 * 256 + c1 * 65536 + c2 * 16777216 + c3 * 1 = wd := ⟨_, rfl⟩
  rw [hwd] at f1
  have wl0 : 0 ≤ wd := by omega
  have wl1 : wd ≤ 4294967295 := by omega
  have HF := Lib.hid (fun w0 => four_of (quad 65280 16711680 4278190080 255) 32 8 8 16 8 24 8 0 8 (by decide +kernel) (by decide +kernel) (by decide +kernel) (by decide +kernel) (by decide +kernel) w0)
  rw [show quad 65280 16711680 4278190080 255 0 = 65280 from rfl, show quad 65280 16711680 4278190080 255 1 = 16711680 from rfl, show quad 65280 16711680 4278190080 255 2 = 4278190080 from rfl, show quad 65280 16711680 4278190080 255 3 = 255 from rfl] at HF
  have HW := Lib.hid (fun w0 => (sword_any 8 8 16 8 24 8 0 8 c0 c1 c2 c3 w0 k0 j0 k1 j1 k2 j2 k3 j3).mono (R' := fun e w' => e = .returned (.int .i64 wd) ∧ Below w0.heap.size w0 w') fun e w' hh => ⟨hh.1.trans (ret_int f1), hh.2⟩)
  have HC := Lib.hid (fun w0 => (color_any 8 8 16 8 24 8 0 8 wd w0 (Or.inr (by decide)) (Or.inr (by decide)) (Or.inr (by decide)) (Or.inr (by decide))).mono (R' := fun e w' => e = .returned (.agg #[.int .u8 c0, .int .u8 c1, .int .u8 c2, .int .u8 c3]) ∧ Below w0.heap.size w0 w') fun e w' hh => by
    have q0 : chI 8 8 wd 0 = c0 := ch8 8 (by decide) wd c0 0 (by omega) k0 j0
    have q1 : chI 16 8 wd 0 = c1 := ch8 16 (by decide) wd c1 0 (by omega) k1 j1
    have q2 : chI 24 8 wd 0 = c2 := ch8 24 (by decide) wd c2 0 (by omega) k2 j2
    have q3 : chI 0 8 wd 255 = c3 := ch8 0 (by decide) wd c3 255 (by omega) k3 j3
    rw [q0, q1, q2, q3] at hh; exact hh)
  have hAN : bits .andNot .i64 wd 4294967295 = 0 := andNot_fit wd (c0 * 256 + c1 * 65536 + c2 * 16777216 + c3 * 1) 32 0 4294967295 (by decide) (by omega) (by omega) (by omega) (by decide)
  have o1 : bits .or .i64 65280 16711680 = 16776960 := by decide +kernel
  have o2 : bits .or .i64 16776960 4278190080 = 4294967040 := by decide +kernel
  have o3 : bits .or .i64 4294967040 255 = 4294967295 := by decide +kernel
  clear f1 hwd
  go_enter Try.func9, Try.ntmps9
  go_wp2
  go_quiet (fail)
  generalize hWq : World.drewN _ nq = Wq
  have BQ : Below w.heap.size w Wq := by rw [← hWq]; (repeat' (first | (with_reducible exact Below.refl _ _) | (with_reducible assumption) | (with_reducible refine bdrew ?_ _) | (with_reducible refine Below.alloc ?_ ?_ _) | (with_reducible refine Below.drew ?_) | (with_reducible refine Below.setCell ?_ ?_ _) | go_size))
  have zq : w.heap.size < Wq.heap.size := by rw [← hWq]; simp; omega
  have cq0 : Wq.cell? ⟨w.heap.size, 0, none⟩ = some (.int .u8 c0) := by rw [← hWq]; simp [go_sem]
  have cq1 : Wq.cell? ⟨w.heap.size, 1, none⟩ = some (.int .u8 c1) := by rw [← hWq]; simp [go_sem]
  have cq2 : Wq.cell? ⟨w.heap.size, 2, none⟩ = some (.int .u8 c2) := by rw [← hWq]; simp [go_sem]
  have cq3 : Wq.cell? ⟨w.heap.size, 3, none⟩ = some (.int .u8 c3) := by rw [← hWq]; simp [go_sem]
  have fq3 : Wq.frozen? ⟨w.heap.size, 3, none⟩ = false := by rw [← hWq]; simp [go_sem]
  clear hWq
  go_wp2_with (first
    | (go_at_call 37; (with_reducible refine (HF.out _).mono ?_); rintro e w1 ⟨rfl, hb1⟩; obtain ⟨hc1, hf1⟩ := bcell hb1; have hzhb1_0 : w.heap.size < w1.heap.size := (by have h_ := bsz hb1; (try simp at h_); omega))
    | (go_at_call 36; (with_reducible refine (HW.out _).mono ?_); rintro e w2 ⟨rfl, hb2⟩; obtain ⟨hc2, hf2⟩ := bcell hb2; have hzhb2_0 : w1.heap.size < w2.heap.size := (by have h_ := bsz hb2; (try simp at h_); omega); have hzhb2_1 : w.heap.size < w2.heap.size := (by have h_ := bsz hb2; (try simp at h_); omega)))
  have B_hb1 : Below w.heap.size w w1 := bthen hb1 (by (repeat' (first | (with_reducible exact Below.refl _ _) | (with_reducible assumption) | (with_reducible refine bdrew ?_ _) | (with_reducible refine Below.alloc ?_ ?_ _) | (with_reducible refine Below.drew ?_) | (with_reducible refine Below.setCell ?_ ?_ _) | go_size))) (by go_size)
  have S_hb1 : w.heap.size ≤ w1.heap.size := B_hb1.size
  have B_hb2 : Below w.heap.size w w2 := bthen hb2 (by (repeat' (first | (with_reducible exact Below.refl _ _) | (with_reducible assumption) | (with_reducible refine bdrew ?_ _) | (with_reducible refine Below.alloc ?_ ?_ _) | (with_reducible refine Below.drew ?_) | (with_reducible refine Below.setCell ?_ ?_ _) | go_size))) (by go_size)
  have S_hb2 : w.heap.size ≤ w2.heap.size := B_hb2.size
  have p0 : w2.cell? ⟨w1.heap.size, 0, none⟩ = some (.int .i64 8) := by simp [go_sem, *]
  have p1 : w2.cell? ⟨w1.heap.size, 1, none⟩ = some (.int .i64 8) := by simp [go_sem, *]
  have p2 : w2.cell? ⟨w1.heap.size, 2, none⟩ = some (.int .i64 16) := by simp [go_sem, *]
  have p3 : w2.cell? ⟨w1.heap.size, 3, none⟩ = some (.int .i64 8) := by simp [go_sem, *]
  have p4 : w2.cell? ⟨w1.heap.size, 4, none⟩ = some (.int .i64 24) := by simp [go_sem, *]
  have p5 : w2.cell? ⟨w1.heap.size, 5, none⟩ = some (.int .i64 8) := by simp [go_sem, *]
  have p6 : w2.cell? ⟨w1.heap.size, 6, none⟩ = some (.int .i64 0) := by simp [go_sem, *]
  have p7 : w2.cell? ⟨w1.heap.size, 7, none⟩ = some (.int .i64 8) := by simp [go_sem, *]
  have r0 : w2.cell? ⟨w.heap.size, 0, none⟩ = some (.int .u8 c0) := by simp [go_sem, *]
  have r1 : w2.cell? ⟨w.heap.size, 1, none⟩ = some (.int .u8 c1) := by simp [go_sem, *]
  have r2 : w2.cell? ⟨w.heap.size, 2, none⟩ = some (.int .u8 c2) := by simp [go_sem, *]
  have r3 : w2.cell? ⟨w.heap.size, 3, none⟩ = some (.int .u8 c3) := by simp [go_sem, *]
  clear hc1 hf1 hc2 hf2
  go_region_held3 (fun w' => KP w2.heap.size w2 w') (first | exact kp_next (by assumption) hb3 | exact kp_drew (kp_refl (Nat.le_refl _)))
    (first
      | (go_at_call 28; (with_reducible refine (HC.out _).mono ?_); rintro e w3 ⟨rfl, hb3⟩)
      | (go_at_call 30; (with_reducible refine (awake9 _).mono ?_); rintro e w4 ⟨rfl, hb3⟩))
  rename_i hH
  have H1 := Lib.hid (bthen hH.1 B_hb2 (by omega))
  clear hH
  go_wp2
  go_ret
  exact ⟨rfl, H1.out⟩
theorem words_walk (c0 c1 c2 c3 b : Int) (al : Bool) (h0 : (Lit.int .u8 c0).wf = true) (h1 : (Lit.int .u8 c1).wf = true) (h2 : (Lit.int .u8 c2).wf = true) (h3 : (Lit.int .u8 c3).wf = true) (h4 : (Lit.int .u8 b).wf = true) (w : World) :
    Calls Try.prog 9 #[.agg #[.int .u8 c0, .int .u8 c1, .int .u8 c2, .int .u8 c3], .int .u8 b, .bool al] w fun e w' => e = .returned (.bool true) ∧ Below w.heap.size w w' := by
  obtain ⟨k0, j0⟩ := bounds_u8 h0
  obtain ⟨k1, j1⟩ := bounds_u8 h1
  obtain ⟨k2, j2⟩ := bounds_u8 h2
  obtain ⟨k3, j3⟩ := bounds_u8 h3
  obtain ⟨l0, l1⟩ := bounds_u8 h4
  rcases (show b % 4 = 0 ∨ b % 4 = 1 ∨ b % 4 = 2 ∨ b % 4 = 3 by omega) with h | h | h | h <;> cases al
  · exact words_0n c0 c1 c2 c3 b k0 j0 k1 j1 k2 j2 k3 j3 l0 l1 h w
  · exact words_0a c0 c1 c2 c3 b k0 j0 k1 j1 k2 j2 k3 j3 l0 l1 h w
  · exact words_1n c0 c1 c2 c3 b k0 j0 k1 j1 k2 j2 k3 j3 l0 l1 h w
  · exact words_1a c0 c1 c2 c3 b k0 j0 k1 j1 k2 j2 k3 j3 l0 l1 h w
  · exact words_2n c0 c1 c2 c3 b k0 j0 k1 j1 k2 j2 k3 j3 l0 l1 h w
  · exact words_2a c0 c1 c2 c3 b k0 j0 k1 j1 k2 j2 k3 j3 l0 l1 h w
  · exact words_3n c0 c1 c2 c3 b k0 j0 k1 j1 k2 j2 k3 j3 l0 l1 h w
  · exact words_3a c0 c1 c2 c3 b k0 j0 k1 j1 k2 j2 k3 j3 l0 l1 h w
end Go.Proofs.Ytobpocdpnkicnaa

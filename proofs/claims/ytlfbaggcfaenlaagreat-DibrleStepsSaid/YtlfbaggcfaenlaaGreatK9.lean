/- The walks of the small functions of layers 8 and 9 (scale, mask), and of their references. -/
import Derived.Test.YtlfbaggcfaenlaaGreatProg
import Derived.Test.YtlfbaggcfaenlaaGreatK0
import Derived.Deep.RegionHeld3
namespace Go.Proofs.YtlfbaggcfaenlaaGreat
open Go.RowKit

def rightB (s b : Int) : Bool := decide (0 ≤ s ∧ 1 ≤ b ∧ s < 32 ∧ b ≤ 32 - s)
theorem wrap_ones (n : Nat) (h1 : n ≤ 32) : wrap64 (wrap64 (2 ^ n) - 1) = 2 ^ n - 1 := by
  have := pow_pos' n; have h := pow_le' h1
  rw [IntWalk.wrap64_in (2 ^ n) ⟨by omega, by omega⟩, IntWalk.wrap64_in (2 ^ n - 1) ⟨by omega, by omega⟩]
theorem ones_any (n : Int) (w : World) (h0 : 0 ≤ n) (h1 : n ≤ 32) :
    Calls Tryz.prog 246 #[.int .i64 n] w fun e w' => e = .returned (.int .i64 (2 ^ n.toNat - 1)) ∧ w = w' := by
  have E := Lib.hid (wrap_ones n.toNat (by omega))
  go_enter Tryz.func246, Tryz.ntmps246
  go_wp2
  go_ret
  exact ⟨ret_int E.out, rfl⟩
end Go.Proofs.YtlfbaggcfaenlaaGreat

namespace Go.Proofs.YtlfbaggcfaenlaaGreat
open Go.RowKit

/-- The mask of a place. -/
def wordI (s b : Int) : Int := if rightB s b = true then (2 ^ b.toNat - 1) * 2 ^ s.toNat else 0
theorem common16 (w : World) : Calls Tryz.prog 69 #[.int .i64 16] w fun e w' => e = .returned (.tuple #[.agg #[.int .i64 10, .int .i64 5, .int .i64 5, .int .i64 5, .int .i64 0, .int .i64 5, .int .i64 0, .int .i64 0], .bool true]) ∧ Below w.heap.size w w' := by
  go_enter Tryz.func69, Tryz.ntmps69
  go_wp2
  refine bodyPost_ret (v := .tuple #[.agg #[.int .i64 10, .int .i64 5, .int .i64 5, .int .i64 5, .int .i64 0, .int .i64 5, .int .i64 0, .int .i64 0], .bool true]) (by simp [results, Tryz.results69, go_sem]) rfl ⟨rfl, by go_grown⟩
theorem common32 (w : World) : Calls Tryz.prog 69 #[.int .i64 32] w fun e w' => e = .returned (.tuple #[.agg #[.int .i64 16, .int .i64 8, .int .i64 8, .int .i64 8, .int .i64 0, .int .i64 8, .int .i64 0, .int .i64 0], .bool true]) ∧ Below w.heap.size w w' := by
  go_enter Tryz.func69, Tryz.ntmps69
  go_wp2
  refine bodyPost_ret (v := .tuple #[.agg #[.int .i64 16, .int .i64 8, .int .i64 8, .int .i64 8, .int .i64 0, .int .i64 8, .int .i64 0, .int .i64 0], .bool true]) (by simp [results, Tryz.results69, go_sem]) rfl ⟨rfl, by go_grown⟩
theorem common_no (n : Int) (w : World) (h1 : (n == 16) = false) (h2 : (n == 32) = false) : Calls Tryz.prog 69 #[.int .i64 n] w fun e w' => e = .returned (.tuple #[.agg #[.int .i64 0, .int .i64 0, .int .i64 0, .int .i64 0, .int .i64 0, .int .i64 0, .int .i64 0, .int .i64 0], .bool false]) ∧ Below w.heap.size w w' := by
  go_enter Tryz.func69, Tryz.ntmps69
  go_wp2
  refine bodyPost_ret (v := .tuple #[.agg #[.int .i64 0, .int .i64 0, .int .i64 0, .int .i64 0, .int .i64 0, .int .i64 0, .int .i64 0, .int .i64 0], .bool false]) (by simp [results, Tryz.results69, go_sem]) rfl ⟨rfl, by go_grown⟩

/-! ### Find -/
/-- How many bits of a number are 0 before the first that is 1; how many are 1 before the first that is 0. -/
def tzF : Nat → Int → Nat
  | 0, _ => 0
  | f + 1, w => if w % 2 = 0 then tzF f (w / 2) + 1 else 0
def toF : Nat → Int → Nat
  | 0, _ => 0
  | f + 1, w => if w % 2 = 1 then toF f (w / 2) + 1 else 0
theorem tzF_spec (f : Nat) : ∀ w : Int, 0 < w → w < 2 ^ f → tzF f w < f ∧ w / 2 ^ tzF f w % 2 = 1 ∧ ∀ i, i < tzF f w → w / 2 ^ i % 2 = 0 := by
  induction f with
  | zero => intro w h0 h1; simp at h1; omega
  | succ f ih =>
    intro w h0 h1
    rw [pow_succ'] at h1
    unfold tzF
    by_cases hm : w % 2 = 0
    · rw [if_pos hm]
      obtain ⟨a, b, c⟩ := ih (w / 2) (by omega) (by omega)
      refine ⟨by omega, ?_, ?_⟩
      · rw [Int.pow_succ, Int.mul_comm, ← Int.ediv_ediv_of_nonneg (by decide)]; exact b
      · intro i hi
        cases i with
        | zero => simpa using hm
        | succ i => rw [Int.pow_succ, Int.mul_comm, ← Int.ediv_ediv_of_nonneg (by decide)]; exact c i (by omega)
    · rw [if_neg hm]
      exact ⟨by omega, by simp; omega, fun i hi => by omega⟩
theorem toF_spec (f : Nat) : ∀ w : Int, 0 ≤ w → w < 2 ^ f → toF f w ≤ f ∧ w / 2 ^ toF f w % 2 = 0 ∧ ∀ i, i < toF f w → w / 2 ^ i % 2 = 1 := by
  induction f with
  | zero => intro w h0 h1; simp at h1; exact ⟨by simp [toF], by simp [toF]; omega, fun i hi => by simp [toF] at hi⟩
  | succ f ih =>
    intro w h0 h1
    rw [pow_succ'] at h1
    unfold toF
    by_cases hm : w % 2 = 1
    · rw [if_pos hm]
      obtain ⟨a, b, c⟩ := ih (w / 2) (by omega) (by omega)
      refine ⟨by omega, ?_, ?_⟩
      · rw [Int.pow_succ, Int.mul_comm, ← Int.ediv_ediv_of_nonneg (by decide)]; exact b
      · intro i hi
        cases i with
        | zero => simpa using hm
        | succ i => rw [Int.pow_succ, Int.mul_comm, ← Int.ediv_ediv_of_nonneg (by decide)]; exact c i (by omega)
    · rw [if_neg hm]
      exact ⟨by omega, by simp; omega, fun i hi => by omega⟩
def fS (w : Int) : Nat := tzF 32 w
def fB (w : Int) : Nat := toF 32 (w / 2 ^ fS w)
/-- What Find says: the place, and the error's number. -/
def findI (w width : Int) : Int × Int × Int :=
  if ¬ width = 16 ∧ ¬ width = 32 then (0, 0, 1)
  else if w < 0 ∨ 2 ^ width.toNat - 1 < w then (0, 0, 2)
  else if w = 0 then (0, 0, 0)
  else if w / 2 ^ (fS w + fB w) = 0 then (fS w, fB w, 0) else (0, 0, 6)
def FindPost (w : World) (r : Int × Int × Int) (e : Ending) (w' : World) : Prop := e = .returned (.tuple #[.agg #[.int .i64 r.1, .int .i64 r.2.1], .int .i64 r.2.2]) ∧ Below w.heap.size w w'
set_option maxHeartbeats 400000 in
theorem find_arg (m width : Int) (w : World) (h1 : ¬ width = 16) (h2 : ¬ width = 32) : Calls Tryz.prog 206 #[.int .i64 m, .int .i64 width] w (FindPost w (0, 0, 1)) := by
  have g1 : (width != 16) = true := by simpa using h1
  have g2 : (width != 32) = true := by simpa using h2
  clear h1 h2
  go_enter Tryz.func206, Tryz.ntmps206
  go_wp2
  exact bodyPost_ret (v := .tuple #[.agg #[.int .i64 0, .int .i64 0], .int .i64 1]) (by simp [results, Tryz.results206, go_sem]) rfl (show FindPost _ _ _ _ from ⟨rfl, by go_grown⟩)
theorem ones16 : (2 : Int) ^ (16 : Int).toNat - 1 = 65535 := by decide
theorem ones32 : (2 : Int) ^ (32 : Int).toNat - 1 = 4294967295 := by decide
end Go.Proofs.YtlfbaggcfaenlaaGreat

namespace Go.Proofs.YtlfbaggcfaenlaaGreat
open Go.RowKit
def FW (w wr : World) (k j : Nat) : Prop := Below w.heap.size w wr ∧ w.heap.size + 1 < wr.heap.size ∧ Slot w.heap.size 2 wr ∧ wr.cell? ⟨w.heap.size + 1, 0, none⟩ = some (.int .i64 k) ∧ wr.cell? ⟨w.heap.size + 1, 1, none⟩ = some (.int .i64 j) ∧ ∀ o, wr.frozen? ⟨w.heap.size + 1, o, none⟩ = false
theorem size_set (w : World) (a : Addr) (u : Value) : (w.setCell a u).heap.size = w.heap.size := by simp [World.setCell]
theorem fw_0 {w wr : World} {k j : Nat} (h : FW w wr k j) : FW w (wr.setCell ⟨w.heap.size + 1, 0, none⟩ (.int .i64 (↑k + 1))) (k + 1) j := by
  obtain ⟨f1, f2, f3, f4, f5, f6⟩ := h
  exact ⟨f1.setCell (by simp) _, by rw [size_set]; exact f2, slot_set f3 _ _, World.cell?_setCell_same _ _ _ f4, (slot_ne (by decide)).trans f5, fun o => by rw [World.frozen?_setCell]; exact f6 o⟩
theorem fw_1 {w wr : World} {k j : Nat} (h : FW w wr k j) : FW w (wr.setCell ⟨w.heap.size + 1, 1, none⟩ (.int .i64 (↑j + 1))) k (j + 1) := by
  obtain ⟨f1, f2, f3, f4, f5, f6⟩ := h
  exact ⟨f1.setCell (by simp) _, by rw [size_set]; exact f2, slot_set f3 _ _, (slot_ne (by decide)).trans f4, World.cell?_setCell_same _ _ _ f5, fun o => by rw [World.frozen?_setCell]; exact f6 o⟩
theorem div_step (m : Int) (k : Nat) : m / 2 ^ k / 2 = m / 2 ^ (k + 1) := (div_pow_succ m k).symm
theorem half_lt {x : Int} (h : 1 ≤ x) : (x / 2).toNat < x.toNat := by omega
theorem findI_go (m width : Int) (h1 : width = 16 ∨ width = 32) (h2 : 1 ≤ m) (h3 : m ≤ 2 ^ width.toNat - 1) : findI m width = if m / 2 ^ fS m / 2 ^ fB m = 0 then ((fS m : Int), (fB m : Int), 0) else (0, 0, 6) := by
  unfold findI
  rw [if_neg (by omega), if_neg (by omega), if_neg (by omega), Int.pow_add, ← Int.ediv_ediv_of_nonneg (Int.le_of_lt (pow_pos' _))]
set_option maxHeartbeats 2000000 in
theorem find_go (m width : Int) (w : World) (h1 : width = 16 ∨ width = 32) (h2 : 1 ≤ m) (h3 : m ≤ 2 ^ width.toNat - 1) : Calls Tryz.prog 206 #[.int .i64 m, .int .i64 width] w (FindPost w (findI m width)) := by
  have hm : m < 2 ^ 32 := by have := pow_le' (show width.toNat ≤ 32 by omega); omega
  have T0 := Lib.hid (findI_go m width h1 h2 h3)
  obtain ⟨t1, t2, t3⟩ := tzF_spec 32 m (by omega) hm
  have hd0 : 0 ≤ m / 2 ^ fS m := Int.ediv_nonneg (by omega) (Int.le_of_lt (pow_pos' _))
  have hd1 : m / 2 ^ fS m ≤ m := Int.ediv_le_self _ (by omega)
  obtain ⟨u1, u2, u3⟩ := toF_spec 32 (m / 2 ^ fS m) hd0 (by omega)
  have T1 := Lib.hid (show fS m < 32 from t1); have T2 := Lib.hid (show m / 2 ^ fS m % 2 = 1 from t2); have T3 := Lib.hid (show ∀ i, i < fS m → m / 2 ^ i % 2 = 0 from t3)
  have U1 := Lib.hid (show fB m ≤ 32 from u1); have U2 := Lib.hid (show m / 2 ^ fS m / 2 ^ fB m % 2 = 0 from u2); have U3 := Lib.hid (show ∀ i, i < fB m → m / 2 ^ fS m / 2 ^ i % 2 = 1 from u3)
  clear t1 t2 t3 u1 u2 u3 hd0 hd1
  have hne : (m == 0) = false := by simp; omega
  have hM : m ≤ 4294967295 := by omega
  rcases h1 with rfl | rfl
  rw [ones16] at h3
  rotate_left
  rw [ones32] at h3
  all_goals
    go_enter Tryz.func206, Tryz.ntmps206
    go_wp2_with (go_at_call 246; (with_reducible refine (ones_any _ _ (by omega) (by omega)).mono ?_); rintro e w1 ⟨rfl, rfl⟩)
    go_loopw [0] (fun mv wr => ∃ k : Nat, k ≤ fS m ∧ mv = .int .i64 (m / 2 ^ k) ∧ FW w wr k 0) (fun mv _ => (intOf mv).toNat)
    case atStart => 
      exact ⟨0, by omega, by simp, by go_grown, by simp, slot_next (B := w.heap.size + 1) (slot_alloc' (t := 33) (cs := #[.int .i64 0, .int .i64 0]) (w := w) rfl rfl) (by go_grown) (by simp), by simp [go_sem], by simp [go_sem], by simp [go_sem]⟩
    case round =>
      obtain ⟨k, hk, rfl, hF⟩ := hrel
      have hF2 := Lib.hid hF
      obtain ⟨f1, f2, f3, f4, f5, f6⟩ := hF
      have hk30 : k < 32 := by have := T1.out; omega
      by_cases hlt : k < fS m
      · have hb0 : m / 2 ^ k % 2 = 0 := T3.out k hlt
        have hpos : 1 ≤ m / 2 ^ k := by
          have hle : (2 : Int) ^ fS m ≤ m := by
            rcases Int.lt_or_le m (2 ^ fS m) with h | h
            · have := T2.out; rw [Int.ediv_eq_zero_of_lt (by omega) h] at this; simp at this
            · exact h
          have := pow_le' (Nat.le_of_lt hlt)
          exact Int.le_ediv_of_mul_le (pow_pos' k) (by omega)
        have hd : (bits BinOp.and IntKind.i64 (m / 2 ^ k) 1 == 0) = true := by rw [i64_and_one, hb0]; rfl
        have hP := Lib.hid hpos
        clear hb0 hpos
        go_wp2
        go_roundw
        case rel => exact ⟨k + 1, by omega, by rw [div_step], fw_0 hF2.out⟩
        case measure => exact half_lt hP.out
      · obtain rfl : k = fS m := by omega
        have hd : (bits BinOp.and IntKind.i64 (m / 2 ^ fS m) 1 == 0) = false := by rw [i64_and_one, T2.out]; rfl
        clear hlt hk
        go_wp2
        go_loopw [0] (fun mv wr => ∃ j : Nat, j ≤ fB m ∧ mv = .int .i64 (m / 2 ^ fS m / 2 ^ j) ∧ FW w wr (fS m) j) (fun mv _ => (intOf mv).toNat)
        case atStart => exact ⟨0, by omega, by simp, hF2.out⟩
        case round =>
          obtain ⟨j, hj, rfl, hF⟩ := hrel
          clear f1 f2 f3 f4 f5 f6 hF2 hd
          have hF2 := Lib.hid hF
          obtain ⟨f1, f2, f3, f4, f5, f6⟩ := hF
          have hj30 : j ≤ 32 := by have := U1.out; omega
          by_cases hlt : j < fB m
          · have hb0 : m / 2 ^ fS m / 2 ^ j % 2 = 1 := U3.out j hlt
            have hpos : 1 ≤ m / 2 ^ fS m / 2 ^ j := by
              have h0 : 0 ≤ m / 2 ^ fS m / 2 ^ j := Int.ediv_nonneg (Int.ediv_nonneg (by omega) (Int.le_of_lt (pow_pos' _))) (Int.le_of_lt (pow_pos' _))
              omega
            have hd : (bits BinOp.and IntKind.i64 (m / 2 ^ fS m / 2 ^ j) 1 == 1) = true := by rw [i64_and_one, hb0]; rfl
            have hP := Lib.hid hpos
            clear hb0 hpos
            go_wp2
            go_roundw
            case rel => exact ⟨j + 1, by omega, by rw [div_step], fw_1 hF2.out⟩
            case measure => exact half_lt hP.out
          · obtain rfl : j = fB m := by omega
            have hd : (bits BinOp.and IntKind.i64 (m / 2 ^ fS m / 2 ^ fB m) 1 == 1) = false := by rw [i64_and_one, U2.out]; rfl
            clear hlt hj
            have S2 := Lib.hid f3
            by_cases hz : m / 2 ^ fS m / 2 ^ fB m = 0
            · have hz' : (m / 2 ^ fS m / 2 ^ fB m != 0) = false := by rw [hz]; rfl
              have E := Lib.hid (T0.out.trans (if_pos hz))
              clear hz
              go_wp2
              obtain ⟨q0, q1⟩ := slot2 (a := .int .i64 (fS m)) (b := .int .i64 (fB m)) S2.out
              refine bodyPost_ret (v := .tuple #[.agg #[.int .i64 (fS m), .int .i64 (fB m)], .int .i64 0]) (by simp [results, Tryz.results206, go_sem, q0, q1]) rfl (show FindPost _ _ _ _ from ⟨by rw [E.out], ?_⟩)
              exact (hF2.out.1.setCell (by simp) _).setCell (by simp) _
            · have hz' : (m / 2 ^ fS m / 2 ^ fB m != 0) = true := by simpa using hz
              have E := Lib.hid (T0.out.trans (if_neg hz))
              clear hz
              go_wp2
              obtain ⟨q0, q1⟩ := slot2 (a := .int .i64 0) (b := .int .i64 0) S2.out
              refine bodyPost_ret (v := .tuple #[.agg #[.int .i64 0, .int .i64 0], .int .i64 6]) (by simp [results, Tryz.results206, go_sem, q0, q1]) rfl (show FindPost _ _ _ _ from ⟨by rw [E.out], ?_⟩)
              exact (hF2.out.1.setCell (by simp) _).setCell (by simp) _
end Go.Proofs.YtlfbaggcfaenlaaGreat

namespace Go.Proofs.YtlfbaggcfaenlaaGreat
open Go.RowKit
set_option maxHeartbeats 1000000 in
theorem find_range (m width : Int) (w : World) (h1 : width = 16 ∨ width = 32) (h2 : m < 0 ∨ 2 ^ width.toNat - 1 < m) : Calls Tryz.prog 206 #[.int .i64 m, .int .i64 width] w (FindPost w (0, 0, 2)) := by
  rcases h1 with rfl | rfl
  rw [ones16] at h2
  rotate_left
  rw [ones32] at h2
  all_goals
    rcases h2 with h2 | h2
    all_goals
      go_enter Tryz.func206, Tryz.ntmps206
      go_wp2_with (go_at_call 246; (with_reducible refine (ones_any _ _ (by omega) (by omega)).mono ?_); rintro e w1 ⟨rfl, rfl⟩)
      exact bodyPost_ret (v := .tuple #[.agg #[.int .i64 0, .int .i64 0], .int .i64 2]) (by simp [results, Tryz.results206, go_sem]) rfl (show FindPost _ _ _ _ from ⟨rfl, by go_grown⟩)
set_option maxHeartbeats 1000000 in
theorem find_zero (width : Int) (w : World) (h1 : width = 16 ∨ width = 32) : Calls Tryz.prog 206 #[.int .i64 0, .int .i64 width] w (FindPost w (0, 0, 0)) := by
  rcases h1 with rfl | rfl
  all_goals
    go_enter Tryz.func206, Tryz.ntmps206
    go_wp2_with (go_at_call 246; (with_reducible refine (ones_any _ _ (by omega) (by omega)).mono ?_); rintro e w1 ⟨rfl, rfl⟩)
    exact bodyPost_ret (v := .tuple #[.agg #[.int .i64 0, .int .i64 0], .int .i64 0]) (by simp [results, Tryz.results206, go_sem]) rfl (show FindPost _ _ _ _ from ⟨rfl, by go_grown⟩)
/-- mask.Find, of all numbers. -/
theorem find_any (m width : Int) (w : World) : Calls Tryz.prog 206 #[.int .i64 m, .int .i64 width] w (FindPost w (findI m width)) := by
  by_cases h1 : width = 16 ∨ width = 32
  · by_cases h2 : m < 0 ∨ 2 ^ width.toNat - 1 < m
    · have : findI m width = (0, 0, 2) := by unfold findI; rw [if_neg (by omega), if_pos h2]
      rw [this]; exact find_range m width w h1 h2
    · by_cases h3 : m = 0
      · have : findI m width = (0, 0, 0) := by unfold findI; rw [if_neg (by omega), if_neg h2, if_pos h3]
        rw [this, h3]; exact find_zero width w h1
      · exact find_go m width w h1 (by omega) (by omega)
  · have : findI m width = (0, 0, 1) := by unfold findI; rw [if_pos (by omega)]
    rw [this]; exact find_arg m width w (by omega) (by omega)

/-! ### the references -/
theorem power_any (n : Int) (w : World) (h0 : 0 ≤ n) (h1 : n ≤ 62) : Calls Tryz.prog 40 #[.int .i64 n] w fun e w' => e = .returned (.int .i64 (2 ^ n.toNat)) ∧ w = w' := by
  obtain ⟨n, rfl⟩ := Int.eq_ofNat_of_zero_le h0
  go_enter Tryz.func40, Tryz.ntmps40
  go_wp2
  go_loop [3, 4] (fun v i => ∃ k : Nat, k ≤ n ∧ i = .int .i64 k ∧ v = .int .i64 (2 ^ k)) (fun _ i => n - (intOf i).toNat)
  case atStart => exact ⟨0, by omega, rfl, rfl⟩
  case round =>
    obtain ⟨k, hk, rfl, rfl⟩ := hrel
    by_cases hlt : k < n
    · have hb := pow_le' (show k ≤ 61 by omega)
      have hp := pow_pos' k
      go_wp2
      go_round
      case rel => exact ⟨k + 1, by omega, by go_num, by rw [pow_succ']⟩
      case measure => simp [intOf]; omega
    · obtain rfl : k = n := by omega
      go_wp2
      go_ret
      exact ⟨by simp, rfl⟩
end Go.Proofs.YtlfbaggcfaenlaaGreat

namespace Go.Proofs.YtlfbaggcfaenlaaGreat
open Go.RowKit
/-- Have two words a bit in common, among the first k? -/
def bothF (v u : Int) : Nat → Bool
  | 0 => false
  | k + 1 => bothF v u k || (bitB v k && bitB u k)
theorem bothF_succ (v u : Int) (k : Nat) : bothF v u (k + 1) = (bothF v u k || (bitB v k && bitB u k)) := rfl
end Go.Proofs.YtlfbaggcfaenlaaGreat

namespace Go.Proofs.YtlfbaggcfaenlaaGreat
open Go.RowKit
/-- From, how many, how many runs, of the first k bits. -/
def rfAcc (v : Int) : Nat → Int × Int × Int
  | 0 => (0, 0, 0)
  | k + 1 => if bitB v k = true then (if k = 0 ∨ bitB v (k - 1) = false then (k, (rfAcc v k).2.1 + 1, (rfAcc v k).2.2 + 1) else ((rfAcc v k).1, (rfAcc v k).2.1 + 1, (rfAcc v k).2.2)) else rfAcc v k
theorem rfAcc_succ (v : Int) (k : Nat) : rfAcc v (k + 1) = if bitB v k = true then (if k = 0 ∨ bitB v (k - 1) = false then ((k : Int), (rfAcc v k).2.1 + 1, (rfAcc v k).2.2 + 1) else ((rfAcc v k).1, (rfAcc v k).2.1 + 1, (rfAcc v k).2.2)) else rfAcc v k := rfl
def rfindI (v width : Int) : Int × Int × Int :=
  if ¬ width = 16 ∧ ¬ width = 32 then (0, 0, 1)
  else if v < 0 ∨ 2 ^ width.toNat ≤ v then (0, 0, 2)
  else if 1 < (rfAcc v width.toNat).2.2 then (0, 0, 6) else ((rfAcc v width.toNat).1, (rfAcc v width.toNat).2.1, 0)
end Go.Proofs.YtlfbaggcfaenlaaGreat

namespace Go.Proofs.YtlfbaggcfaenlaaGreat
open Go.RowKit
/-- The first of four that is wrong. -/
def scan4 (f : Nat → Int) : Int × Int := if f 0 ≠ 0 then (0, f 0) else if f 1 ≠ 0 then (1, f 1) else if f 2 ≠ 0 then (2, f 2) else if f 3 ≠ 0 then (3, f 3) else (0, 0)
theorem scan4_at (f : Nat → Int) (k : Nat) (hk : k < 4) (h : ∀ j, j < k → f j = 0) (h2 : f k ≠ 0) : scan4 f = ((k : Int), f k) := by
  unfold scan4
  rcases (show k = 0 ∨ k = 1 ∨ k = 2 ∨ k = 3 by omega) with rfl | rfl | rfl | rfl
  · rw [if_pos h2]; rfl
  · rw [if_neg (by simp [h 0]), if_pos h2]; rfl
  · rw [if_neg (by simp [h 0]), if_neg (by simp [h 1]), if_pos h2]; rfl
  · rw [if_neg (by simp [h 0]), if_neg (by simp [h 1]), if_neg (by simp [h 2]), if_pos h2]; rfl
theorem scan4_none (f : Nat → Int) (h : ∀ j, j < 4 → f j = 0) : scan4 f = (0, 0) := by
  unfold scan4
  rw [if_neg (by simp [h 0]), if_neg (by simp [h 1]), if_neg (by simp [h 2]), if_neg (by simp [h 3])]
/-- Has the k-th of some words a bit in common with one of the first j? -/
def anyBoth (l : Nat → Int) (k : Nat) : Nat → Bool
  | 0 => false
  | j + 1 => anyBoth l k j || bothF (l k) (l j) 32
theorem anyBoth_succ (l : Nat → Int) (k j : Nat) : anyBoth l k (j + 1) = (anyBoth l k j || bothF (l k) (l j) 32) := rfl
def rstep (l : Nat → Int) (width : Int) (k : Nat) : Int := if (rfindI (l k) width).2.2 ≠ 0 then (rfindI (l k) width).2.2 else if anyBoth l k k = true then 11 else 0
end Go.Proofs.YtlfbaggcfaenlaaGreat


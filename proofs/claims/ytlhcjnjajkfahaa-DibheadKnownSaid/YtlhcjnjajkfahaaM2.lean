/- mask.Find, the mask that is one of numbers: two loops. -/
import Derived.Test.YtlhcjnjajkfahaaM1
namespace Go.Proofs.Ytlhcjnjajkfahaa
open Go.RowKit
def FW (w wr : World) (k j : Nat) : Prop := Below w.heap.size w wr ∧ w.heap.size + 1 < wr.heap.size ∧ Slot w.heap.size 2 wr ∧ wr.cell? ⟨w.heap.size + 1, 0, none⟩ = some (.int .i64 k) ∧ wr.cell? ⟨w.heap.size + 1, 1, none⟩ = some (.int .i64 j) ∧ ∀ o, wr.frozen? ⟨w.heap.size + 1, o, none⟩ = false
theorem size_set (w : World) (a : Addr) (u : Value) : (w.setCell a u).heap.size = w.heap.size := by simp [World.setCell]
theorem fw_0 {w wr : World} {k j : Nat} (h : FW w wr k j) : FW w (wr.setCell ⟨w.heap.size + 1, 0, none⟩ (.int .i64 (↑k + 1))) (k + 1) j := by
  obtain ⟨f1, f2, f3, f4, f5, f6⟩ := h
  exact ⟨f1.setCell (by simp) _, by rw [size_set]; exact f2, slot_set f3 _ _, World.cell?_setCell_same _ _ _ f4, (slot_ne (by decide)).trans f5, fun o => by rw [World.frozen?_setCell]; exact f6 o⟩
theorem fw_1 {w wr : World} {k j : Nat} (h : FW w wr k j) : FW w (wr.setCell ⟨w.heap.size + 1, 1, none⟩ (.int .i64 (↑j + 1))) k (j + 1) := by
  obtain ⟨f1, f2, f3, f4, f5, f6⟩ := h
  exact ⟨f1.setCell (by simp) _, by rw [size_set]; exact f2, slot_set f3 _ _, (slot_ne (by decide)).trans f4, World.cell?_setCell_same _ _ _ f5, fun o => by rw [World.frozen?_setCell]; exact f6 o⟩
theorem div_step (m : Int) (k : Nat) : m / 2 ^ k / 2 = m / 2 ^ (k + 1) := (div_pow_succ m k).symm
theorem half_lt {x : Int} (h : 1 ≤ x) : (x / 2).toNat < x.toNat := by omega
theorem findI_go (m width : Int) (h1 : width = 16 ∨ width = 32) (h2 : 1 ≤ m) (h3 : m ≤ 2 ^ width.toNat - 1) : findI m width = if m / 2 ^ fS m / 2 ^ fB m = 0 then ((fS m : Int), (fB m : Int), 0) else (0, 0, 6) := by
  unfold findI
  rw [if_neg (by omega), if_neg (by omega), if_neg (by omega), Int.pow_add, ← Int.ediv_ediv_of_nonneg (Int.le_of_lt (pow_pos' _))]
set_option maxHeartbeats 2000000 in
theorem find_go (m width : Int) (w : World) (h1 : width = 16 ∨ width = 32) (h2 : 1 ≤ m) (h3 : m ≤ 2 ^ width.toNat - 1) : Calls Try.prog 121 #[.int .i64 m, .int .i64 width] w (FindPost w (findI m width)) := by
  have hm : m < 2 ^ 32 := by have := pow_le' (show width.toNat ≤ 32 by omega); omega
  have T0 := Lib.hid (findI_go m width h1 h2 h3)
  obtain ⟨t1, t2, t3⟩ := tzF_spec 32 m (by omega) hm
  have hd0 : 0 ≤ m / 2 ^ fS m := Int.ediv_nonneg (by omega) (Int.le_of_lt (pow_pos' _))
  have hd1 : m / 2 ^ fS m ≤ m := Int.ediv_le_self _ (by omega)
  obtain ⟨u1, u2, u3⟩ := toF_spec 32 (m / 2 ^ fS m) hd0 (by omega)
  have T1 := Lib.hid (show fS m < 32 from t1); have T2 := Lib.hid (show m / 2 ^ fS m % 2 = 1 from t2); have T3 := Lib.hid (show ∀ i, i < fS m → m / 2 ^ i % 2 = 0 from t3)
  have U1 := Lib.hid (show fB m ≤ 32 from u1); have U2 := Lib.hid (show m / 2 ^ fS m / 2 ^ fB m % 2 = 0 from u2); have U3 := Lib.hid (show ∀ i, i < fB m → m / 2 ^ fS m / 2 ^ i % 2 = 1 from u3)
  clear t1 t2 t3 u1 u2 u3 hd0 hd1
  have hne : (m == 0) = false := by simp; omega
  have hM : m ≤ 4294967295 := by omega
  rcases h1 with rfl | rfl
  rw [ones16] at h3
  rotate_left
  rw [ones32] at h3
  all_goals
    go_enter Try.func121, Try.ntmps121
    go_wp2_with (go_at_call 105; (with_reducible refine (ones_any _ _ (by omega) (by omega)).mono ?_); rintro e w1 ⟨rfl, rfl⟩)
    go_loopw [0] (fun mv wr => ∃ k : Nat, k ≤ fS m ∧ mv = .int .i64 (m / 2 ^ k) ∧ FW w wr k 0) (fun mv _ => (intOf mv).toNat)
    case atStart => 
      exact ⟨0, by omega, by simp, by go_grown, by simp, slot_next (B := w.heap.size + 1) (slot_alloc' (t := 57) (cs := #[.int .i64 0, .int .i64 0]) (w := w) rfl rfl) (by go_grown) (by simp), by simp [go_sem], by simp [go_sem], by simp [go_sem]⟩
    case round =>
      obtain ⟨k, hk, rfl, hF⟩ := hrel
      have hF2 := Lib.hid hF
      obtain ⟨f1, f2, f3, f4, f5, f6⟩ := hF
      have hk30 : k < 32 := by have := T1.out; omega
      by_cases hlt : k < fS m
      · have hb0 : m / 2 ^ k % 2 = 0 := T3.out k hlt
        have hpos : 1 ≤ m / 2 ^ k := by
          have hle : (2 : Int) ^ fS m ≤ m := by
            rcases Int.lt_or_le m (2 ^ fS m) with h | h
            · have := T2.out; rw [Int.ediv_eq_zero_of_lt (by omega) h] at this; simp at this
            · exact h
          have := pow_le' (Nat.le_of_lt hlt)
          exact Int.le_ediv_of_mul_le (pow_pos' k) (by omega)
        have hd : (bits BinOp.and IntKind.i64 (m / 2 ^ k) 1 == 0) = true := by rw [i64_and_one, hb0]; rfl
        have hP := Lib.hid hpos
        clear hb0 hpos
        go_wp2
        go_roundw
        case rel => exact ⟨k + 1, by omega, by rw [div_step], fw_0 hF2.out⟩
        case measure => exact half_lt hP.out
      · obtain rfl : k = fS m := by omega
        have hd : (bits BinOp.and IntKind.i64 (m / 2 ^ fS m) 1 == 0) = false := by rw [i64_and_one, T2.out]; rfl
        clear hlt hk
        go_wp2
        go_loopw [0] (fun mv wr => ∃ j : Nat, j ≤ fB m ∧ mv = .int .i64 (m / 2 ^ fS m / 2 ^ j) ∧ FW w wr (fS m) j) (fun mv _ => (intOf mv).toNat)
        case atStart => exact ⟨0, by omega, by simp, hF2.out⟩
        case round =>
          obtain ⟨j, hj, rfl, hF⟩ := hrel
          clear f1 f2 f3 f4 f5 f6 hF2 hd
          have hF2 := Lib.hid hF
          obtain ⟨f1, f2, f3, f4, f5, f6⟩ := hF
          have hj30 : j ≤ 32 := by have := U1.out; omega
          by_cases hlt : j < fB m
          · have hb0 : m / 2 ^ fS m / 2 ^ j % 2 = 1 := U3.out j hlt
            have hpos : 1 ≤ m / 2 ^ fS m / 2 ^ j := by
              have h0 : 0 ≤ m / 2 ^ fS m / 2 ^ j := Int.ediv_nonneg (Int.ediv_nonneg (by omega) (Int.le_of_lt (pow_pos' _))) (Int.le_of_lt (pow_pos' _))
              omega
            have hd : (bits BinOp.and IntKind.i64 (m / 2 ^ fS m / 2 ^ j) 1 == 1) = true := by rw [i64_and_one, hb0]; rfl
            have hP := Lib.hid hpos
            clear hb0 hpos
            go_wp2
            go_roundw
            case rel => exact ⟨j + 1, by omega, by rw [div_step], fw_1 hF2.out⟩
            case measure => exact half_lt hP.out
          · obtain rfl : j = fB m := by omega
            have hd : (bits BinOp.and IntKind.i64 (m / 2 ^ fS m / 2 ^ fB m) 1 == 1) = false := by rw [i64_and_one, U2.out]; rfl
            clear hlt hj
            have S2 := Lib.hid f3
            by_cases hz : m / 2 ^ fS m / 2 ^ fB m = 0
            · have hz' : (m / 2 ^ fS m / 2 ^ fB m != 0) = false := by rw [hz]; rfl
              have E := Lib.hid (T0.out.trans (if_pos hz))
              clear hz
              go_wp2
              obtain ⟨q0, q1⟩ := slot2 (a := .int .i64 (fS m)) (b := .int .i64 (fB m)) S2.out
              refine bodyPost_ret (v := .tuple #[.agg #[.int .i64 (fS m), .int .i64 (fB m)], .int .i64 0]) (by simp [results, Try.results121, go_sem, q0, q1]) rfl (show FindPost _ _ _ _ from ⟨by rw [E.out], ?_⟩)
              exact (hF2.out.1.setCell (by simp) _).setCell (by simp) _
            · have hz' : (m / 2 ^ fS m / 2 ^ fB m != 0) = true := by simpa using hz
              have E := Lib.hid (T0.out.trans (if_neg hz))
              clear hz
              go_wp2
              obtain ⟨q0, q1⟩ := slot2 (a := .int .i64 0) (b := .int .i64 0) S2.out
              refine bodyPost_ret (v := .tuple #[.agg #[.int .i64 0, .int .i64 0], .int .i64 6]) (by simp [results, Try.results121, go_sem, q0, q1]) rfl (show FindPost _ _ _ _ from ⟨by rw [E.out], ?_⟩)
              exact (hF2.out.1.setCell (by simp) _).setCell (by simp) _
end Go.Proofs.Ytlhcjnjajkfahaa

/- num.Mul, Ceil, Stride; dibhead.Head.Stride: of small numbers, walked. -/
import Derived.Test.YtlhcjnjajkfahaaHC
import Derived.Test.YtlhcjnjajkfahaaH7
namespace Go.Proofs.Ytlhcjnjajkfahaa
open Go.RowKit
set_option linter.unusedVariables false
set_option linter.unusedSimpArgs false
theorem isN_nat (a : Nat) (h : a ≤ 1000000) : isN a = true := by unfold isN; rw [decide_eq_true (by omega), decide_eq_true (by omega)]; rfl
set_option maxRecDepth 100000 in
theorem nmul_any (a b : Nat) (w : World) (ha : a ≤ 1000000) (hb : b ≤ 1000000) : Calls Try.prog 107 #[.int .i64 a, .int .i64 b] w fun e w' => e = .returned (.tuple #[.int .i64 ((a * b : Nat) : Int), .bool true]) ∧ Below w.heap.size w w' := by
  have hab : a * b ≤ 1000000000000 := Nat.mul_le_mul ha hb
  have HIS := Lib.hid (fun (w0 : World) (B : Nat) (ho : Obj1 w0 B #[.int .i64 a, .int .i64 b] 3) => (show Calls Try.prog 106 #[.slice (some ⟨B, 0, none⟩) (2 : Nat) 2] w0 (fun e w' => e = .returned (.bool true) ∧ w' = w0) from (is_any [a, b] 2 B 2 w0 rfl (by decide) (Obj1.range0 (cs := [.int .i64 a, .int .i64 b]) ho)).mono fun e w' hh => ⟨hh.1.trans (by simp [isN_nat a ha, isN_nat b hb]), hh.2⟩))
  have HM := Lib.hid (fun w0 => (show Calls Try.prog 122 #[.int .u64 a, .int .u64 b] w0 (fun e w' => e = .returned (.tuple #[.int .u64 0, .int .u64 ((a * b : Nat) : Int)]) ∧ w' = w0) from (mul64_any a b (by omega) (by omega) w0).mono fun e w' hh => ⟨hh.1.trans (by rw [Nat.div_eq_of_lt (by omega), Nat.mod_eq_of_lt (by omega)]; rfl), hh.2⟩))
  obtain ⟨c, hc⟩ : ∃ c, a * b = c := ⟨_, rfl⟩
  rw [hc] at HM hab ⊢
  have e1 : (a : Int) % 18446744073709551616 = a := by omega
  have e2 : (b : Int) % 18446744073709551616 = b := by omega
  have D : decide ((c : Int) > 4611686018427387904) = false := by rw [decide_eq_false_iff_not]; omega
  have BL := Lib.hid ((Below.refl w.heap.size w).alloc (Nat.le_refl _) (.cells #[.int .i64 a, .int .i64 b] 3))
  clear hc
  go_enter Try.func107, Try.ntmps107
  go_wp2_with (first
    | ((with_reducible refine skip_g rfl ?_ ?_); rfl; intro _)
    | ((go_at_call 106; (with_reducible refine (HIS.out _ _ (obj1_new _ _ _)).mono ?_); rintro e wq ⟨rfl, rfl⟩))
    | ((go_at_call 122; (with_reducible refine (HM.out _).mono ?_); rintro e wq ⟨rfl, rfl⟩)))
  go_ret2
  exact ⟨rfl, BL.out⟩
set_option maxRecDepth 100000 in
theorem nceil_any (a : Nat) (w : World) (ha : a ≤ 1000000) : Calls Try.prog 108 #[.int .i64 a, .int .i64 32] w fun e w' => e = .returned (.tuple #[.int .i64 (((a + 31) / 32 : Nat) : Int), .bool true]) ∧ Below w.heap.size w w' := by
  have HIS := Lib.hid (fun (w0 : World) (B : Nat) (ho : Obj1 w0 B #[.int .i64 a, .int .i64 32] 3) => (show Calls Try.prog 106 #[.slice (some ⟨B, 0, none⟩) (2 : Nat) 2] w0 (fun e w' => e = .returned (.bool true) ∧ w' = w0) from (is_any [a, 32] 2 B 2 w0 rfl (by decide) (Obj1.range0 (cs := [.int .i64 a, .int .i64 32]) ho)).mono fun e w' hh => ⟨hh.1.trans (by rw [List.all_cons, isN_nat a ha]; rfl), hh.2⟩))
  have BL := Lib.hid ((Below.refl w.heap.size w).alloc (Nat.le_refl _) (.cells #[.int .i64 a, .int .i64 32] 3))
  by_cases h : a % 32 = 0
  · have D : ((a : Int) % 32 != 0) = false := by rw [bne_eq_false_iff_eq]; omega
    have E := Lib.hid (show ((a : Int) / 32) = (((a + 31) / 32 : Nat) : Int) by omega)
    go_enter Try.func108, Try.ntmps108
    go_wp2_with (first
      | ((with_reducible refine skip_g rfl ?_ ?_); rfl; intro _)
      | ((go_at_call 106; (with_reducible refine (HIS.out _ _ (obj1_new _ _ _)).mono ?_); rintro e wq ⟨rfl, rfl⟩)))
    go_ret2
    exact ⟨by rw [← E.out]; rfl, BL.out⟩
  · have D : ((a : Int) % 32 != 0) = true := by rw [bne_iff_ne]; omega
    have E := Lib.hid (show ((a : Int) / 32 + 1) = (((a + 31) / 32 : Nat) : Int) by omega)
    go_enter Try.func108, Try.ntmps108
    go_wp2_with (first
      | ((with_reducible refine skip_g rfl ?_ ?_); rfl; intro _)
      | ((go_at_call 106; (with_reducible refine (HIS.out _ _ (obj1_new _ _ _)).mono ?_); rintro e wq ⟨rfl, rfl⟩)))
    go_ret2
    exact ⟨by rw [← E.out]; rfl, BL.out⟩
def strideN (a b : Nat) : Nat := (a * b + 31) / 32 * 32 / 8
set_option maxRecDepth 100000 in
theorem nstride_any (a b : Nat) (w : World) (ha : a ≤ 16384) (hb0 : 1 ≤ b) (hb : b ≤ 32) : Calls Try.prog 79 #[.int .i64 a, .int .i64 b, .int .i64 32] w fun e w' => e = .returned (.tuple #[.int .i64 (strideN a b : Int), .bool true]) ∧ Below w.heap.size w w' := by
  have hab : a * b ≤ 16384 * 32 := Nat.mul_le_mul ha hb
  have HIS := Lib.hid (fun (w0 : World) (B : Nat) (ho : Obj1 w0 B #[.int .i64 a, .int .i64 b, .int .i64 32] 3) => (show Calls Try.prog 106 #[.slice (some ⟨B, 0, none⟩) (3 : Nat) 3] w0 (fun e w' => e = .returned (.bool true) ∧ w' = w0) from (is_any [a, b, 32] 3 B 3 w0 rfl (by decide) (Obj1.range0 (cs := [.int .i64 a, .int .i64 b, .int .i64 32]) ho)).mono fun e w' hh => ⟨hh.1.trans (by rw [List.all_cons, isN_nat a (by omega), List.all_cons, isN_nat b (by omega)]; rfl), hh.2⟩))
  have H1 := Lib.hid (fun w0 => nmul_any a b w0 (by omega) (by omega))
  obtain ⟨c, hc⟩ : ∃ c, a * b = c := ⟨_, rfl⟩
  have H2 := Lib.hid (fun w0 => nceil_any c w0 (by omega))
  obtain ⟨d, hd⟩ : ∃ d, (c + 31) / 32 = d := ⟨_, rfl⟩
  have H3 := Lib.hid (fun w0 => (show Calls Try.prog 107 #[.int .i64 d, .int .i64 32] w0 (fun e w' => e = .returned (.tuple #[.int .i64 ((d * 32 : Nat) : Int), .bool true]) ∧ Below w0.heap.size w0 w') from nmul_any d 32 w0 (by omega) (by omega)))
  rw [hc] at H1
  rw [hd] at H2
  obtain ⟨f, hf⟩ : ∃ f, d * 32 = f := ⟨_, rfl⟩
  rw [hf] at H3
  have E := Lib.hid (show (f : Int) / 8 = (strideN a b : Int) by unfold strideN; rw [hc, hd, hf]; omega)
  have D : ((b : Int) == 0) = false := by rw [beq_eq_false_iff_ne]; omega
  have BL := Lib.hid ((Below.refl w.heap.size w).alloc (Nat.le_refl _) (.cells #[.int .i64 a, .int .i64 b, .int .i64 32] 3))
  have EF := Lib.hid (show wrap64 ((f : Int) / 8) = (f : Int) / 8 from IntWalk.wrap64_in _ ⟨by omega, by omega⟩)
  clear hc hd hf hab
  go_enter Try.func79, Try.ntmps79
  go_wp2_with (first
    | ((with_reducible refine skip_g rfl ?_ ?_); rfl; intro _)
    | ((go_at_call 106; (with_reducible refine (HIS.out _ _ (obj1_new _ _ _)).mono ?_); rintro e wq ⟨rfl, rfl⟩))
    | ((go_at_call 107; (with_reducible refine (H1.out _).mono ?_); rintro e wq ⟨rfl, hb⟩); have BL := Lib.hid (bthen hb BL.out BL.out.size); clear hb)
    | ((go_at_call 108; (with_reducible refine (H2.out _).mono ?_); rintro e wq ⟨rfl, hb⟩); have BL := Lib.hid (bthen hb BL.out BL.out.size); clear hb)
    | ((go_at_call 107; (with_reducible refine (H3.out _).mono ?_); rintro e wq ⟨rfl, hb⟩); have BL := Lib.hid (bthen hb BL.out BL.out.size); clear hb))
  go_ret2
  exact ⟨(show _ = Ending.returned (.tuple #[.int .i64 (wrap64 ((f : Int) / 8)), .bool true]) from rfl).trans (by rw [EF.out, E.out]), BL.out⟩
set_option maxRecDepth 100000 in
theorem hstride_any (sz : Int) (a : Nat) (H : Int) (top : Bool) (b : Nat) (mt co k0 k1 k2 k3 k4 k5 k6 k7 fr : Int) (w : World) (ha : a ≤ 16384) (hb0 : 1 ≤ b) (hb : b ≤ 32) :
    Calls Try.prog 36 #[.agg (List.toArray [.int .i64 sz, .int .i64 a, .int .i64 H, .bool top, .int .i64 b, .int .i64 mt, .int .i64 co, .int .i64 k0, .int .i64 k1, .int .i64 k2, .int .i64 k3, .int .i64 k4, .int .i64 k5, .int .i64 k6, .int .i64 k7, .int .i64 fr])] w fun e w' => e = .returned (.int .i64 (strideN a b : Int)) ∧ Below w.heap.size w w' := by
  have HS := Lib.hid (fun w0 => nstride_any a b w0 ha hb0 hb)
  have O1 := Lib.hid (obj1_new w (List.toArray [.int .i64 sz, .int .i64 a, .int .i64 H, .bool top, .int .i64 b, .int .i64 mt, .int .i64 co, .int .i64 k0, .int .i64 k1, .int .i64 k2, .int .i64 k3, .int .i64 k4, .int .i64 k5, .int .i64 k6, .int .i64 k7, .int .i64 fr]) 61)
  have BL := Lib.hid ((Below.refl w.heap.size w).alloc (Nat.le_refl _) (.cells (List.toArray [.int .i64 sz, .int .i64 a, .int .i64 H, .bool top, .int .i64 b, .int .i64 mt, .int .i64 co, .int .i64 k0, .int .i64 k1, .int .i64 k2, .int .i64 k3, .int .i64 k4, .int .i64 k5, .int .i64 k6, .int .i64 k7, .int .i64 fr]) 61))
  obtain ⟨d, hd⟩ : ∃ d, (strideN a b : Int) = d := ⟨_, rfl⟩
  rw [hd] at HS ⊢
  clear hd ha hb hb0
  go_enter Try.func36, Try.ntmps36
  go_upto_region 1 with (fail)
  generalize World.alloc _ _ = w1 at O1 BL ⊢
  have c1 : w1.cell? ⟨w.heap.size, 1, none⟩ = some (.int .i64 a) := (O1.out.cell 1).trans rfl
  have c4 : w1.cell? ⟨w.heap.size, 4, none⟩ = some (.int .i64 b) := (O1.out.cell 4).trans rfl
  go_wp2_with ((go_at_call 79; (with_reducible refine (HS.out _).mono ?_); rintro e wq ⟨rfl, hb⟩); have BL := Lib.hid (bthen hb BL.out BL.out.size); clear hb)
  go_ret
  exact ⟨rfl, BL.out⟩
end Go.Proofs.Ytlhcjnjajkfahaa

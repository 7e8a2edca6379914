/- need.readers, need.ofPNM, walked. -/
import Derived.Test.YtcjjfnghgajefaaGreatK8
import Derived.Maps.OwnSet
import Derived.Maps.Keyed
import Derived.Test.YtcjjfnghgajefaaGreatK0
namespace Go.Proofs.YtcjjfnghgajefaaGreat
open Go.RowKit Go.Maps
set_option linter.unusedVariables false
set_option linter.unusedSimpArgs false
def fnElem (v : Value) : Option (DataW Unit × List MemPlace) :=
  match v with
  | .func (.func n) a b => if a.size = 0 ∧ b.size = 0 then some (.lit (.int .i64 n), []) else none
  | .nilFunc => some (.lit (.int .i64 (-1)), [])
  | _ => none
theorem fnElem_inv {v : Value} {n : Nat} {ps : List MemPlace} (h : fnElem v = some (.lit (.int .i64 n), ps)) : v = .func (.func n) #[] #[] := by
  unfold fnElem at h
  split at h
  · next m a b =>
    by_cases hc : a.size = 0 ∧ b.size = 0
    · rw [if_pos hc] at h
      simp only [Option.some.injEq, Prod.mk.injEq, DataW.lit.injEq, Lit.int.injEq, true_and] at h
      have hm : m = n := Int.ofNat_inj.1 h.1
      rw [hm, Array.eq_empty_of_size_eq_zero hc.1, Array.eq_empty_of_size_eq_zero hc.2]
    · rw [if_neg hc] at h; cases h
  · simp only [Option.some.injEq, Prod.mk.injEq, DataW.lit.injEq, Lit.int.injEq, true_and] at h
    omega
  · cases h
def fnD (n : Nat) : DataW Unit := .lit (.int .i64 n)
def rdD : DataW Unit := ((((((((DataW.map []).put (.int .i64 1) (fnD 18)).put (.int .i64 2) (fnD 19)).put (.int .i64 3) (fnD 20)).put (.int .i64 4) (fnD 21)).put (.int .i64 5) (fnD 22)).put (.int .i64 6) (fnD 23)).put (.int .i64 7) (fnD 24)).put (.int .i64 8) (fnD 25)
theorem lawI : Keyed Tryz.prog 3 := int_keyed Tryz.underlying3
theorem zeroF (w : World) : (zeroValue 42).run Tryz.prog w = .ok .nilFunc w := by kernel_rfl
set_option maxRecDepth 100000 in
set_option maxHeartbeats 4000000 in
theorem readers_any (w : World) : Calls Tryz.prog 14 #[] w fun e w' => e = .returned (.map (some w.heap.size)) ∧ w'.ownsMap Tryz.prog 3 fnElem w.heap.size 8 rdD ∧ Below w.heap.size w w' := by
  have hmm := @run_makeMap Tryz.prog
  have o0 := World.ownsMap_made w Tryz.prog 3 fnElem
  have B0 := (Below.refl w.heap.size w).alloc (Nat.le_refl _) (.map #[] 0)
  obtain ⟨w1, r1, o1, g1⟩ := o0.update (t := 44) (key := .int .i64 1) (val := .func (.func 18) #[] #[]) lawI Tryz.underlying44 (by unfold maxLen; omega) (keyOf_int_mk Tryz.underlying3 (by decide)) (show fnElem _ = some (fnD 18, []) from rfl)
  have B1 := B0.grown g1 (B0.size) (fun j hj => by cases hj; exact Nat.le_refl _)
  obtain ⟨w2, r2, o2, g2⟩ := o1.update (t := 44) (key := .int .i64 2) (val := .func (.func 19) #[] #[]) lawI Tryz.underlying44 (by unfold maxLen; omega) (keyOf_int_mk Tryz.underlying3 (by decide)) (show fnElem _ = some (fnD 19, []) from rfl)
  have B2 := B1.grown g2 (B1.size) (fun j hj => by cases hj; exact Nat.le_refl _)
  obtain ⟨w3, r3, o3, g3⟩ := o2.update (t := 44) (key := .int .i64 3) (val := .func (.func 20) #[] #[]) lawI Tryz.underlying44 (by unfold maxLen; omega) (keyOf_int_mk Tryz.underlying3 (by decide)) (show fnElem _ = some (fnD 20, []) from rfl)
  have B3 := B2.grown g3 (B2.size) (fun j hj => by cases hj; exact Nat.le_refl _)
  obtain ⟨w4, r4, o4, g4⟩ := o3.update (t := 44) (key := .int .i64 4) (val := .func (.func 21) #[] #[]) lawI Tryz.underlying44 (by unfold maxLen; omega) (keyOf_int_mk Tryz.underlying3 (by decide)) (show fnElem _ = some (fnD 21, []) from rfl)
  have B4 := B3.grown g4 (B3.size) (fun j hj => by cases hj; exact Nat.le_refl _)
  obtain ⟨w5, r5, o5, g5⟩ := o4.update (t := 44) (key := .int .i64 5) (val := .func (.func 22) #[] #[]) lawI Tryz.underlying44 (by unfold maxLen; omega) (keyOf_int_mk Tryz.underlying3 (by decide)) (show fnElem _ = some (fnD 22, []) from rfl)
  have B5 := B4.grown g5 (B4.size) (fun j hj => by cases hj; exact Nat.le_refl _)
  obtain ⟨w6, r6, o6, g6⟩ := o5.update (t := 44) (key := .int .i64 6) (val := .func (.func 23) #[] #[]) lawI Tryz.underlying44 (by unfold maxLen; omega) (keyOf_int_mk Tryz.underlying3 (by decide)) (show fnElem _ = some (fnD 23, []) from rfl)
  have B6 := B5.grown g6 (B5.size) (fun j hj => by cases hj; exact Nat.le_refl _)
  obtain ⟨w7, r7, o7, g7⟩ := o6.update (t := 44) (key := .int .i64 7) (val := .func (.func 24) #[] #[]) lawI Tryz.underlying44 (by unfold maxLen; omega) (keyOf_int_mk Tryz.underlying3 (by decide)) (show fnElem _ = some (fnD 24, []) from rfl)
  have B7 := B6.grown g7 (B6.size) (fun j hj => by cases hj; exact Nat.le_refl _)
  obtain ⟨w8, r8, o8, g8⟩ := o7.update (t := 44) (key := .int .i64 8) (val := .func (.func 25) #[] #[]) lawI Tryz.underlying44 (by unfold maxLen; omega) (keyOf_int_mk Tryz.underlying3 (by decide)) (show fnElem _ = some (fnD 25, []) from rfl)
  have B8 := B7.grown g8 (B7.size) (fun j hj => by cases hj; exact Nat.le_refl _)
  have HO := Hi o8
  have BL := Hi B8
  clear o0 o1 o2 o3 o4 o5 o6 o7 o8 g1 g2 g3 g4 g5 g6 g7 g8
  go_enter Tryz.func14, Tryz.ntmps14
  go_wp2
  go_ret
  exact ⟨rfl, HO.out, BL.out⟩
theorem rdD_has : Maps.has rdD (.int .i64 3) = true := by kernel_rfl
theorem rdD_at (z : DataW Unit) : rdD.atKey (.int .i64 3) z = fnD 20 := by kernel_rfl
end Go.Proofs.YtcjjfnghgajefaaGreat

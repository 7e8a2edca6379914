/- icodir.Get, walked. -/
import Derived.Test.YtomikbecbbjhoaaI2
namespace Go.Proofs.Ytomikbecbbjhoaa
open Go.RowKit
set_option linter.unusedVariables false
set_option linter.unusedSimpArgs false
def zero6 : List Value := [.int .i64 0, .int .i64 0, .int .i64 0, .int .i64 0, .int .i64 0, .int .i64 0]
def GetPost (w : World) (L : List Value) (ok : Bool) (e : Ending) (w' : World) : Prop := e = .returned (.tuple #[.agg L.toArray, .bool ok]) ∧ Below w.heap.size w w'
set_option maxRecDepth 100000 in
set_option maxHeartbeats 4000000 in
theorem iget_no (s : ByteArray) (i : Int) (w : World) (h : i < 0 ∨ (s.size : Int) < 22 + 16 * i) (hs : s.size ≤ 100000) : Calls Try.prog 42 #[.string s, .int .i64 i] w (GetPost w zero6 false) := by
  have O0 := Lib.hid (obj1_new w zero6.toArray 59)
  have B0 := Lib.hid ((Below.refl w.heap.size w).alloc (Nat.le_refl _) (.cells zero6.toArray 59))
  obtain ⟨q, hq⟩ : ∃ q, ((s.size : Int) - 6).tdiv 16 = q := ⟨_, rfl⟩
  have hqq : (i < 0 ∨ i ≥ q) ∧ -1 ≤ q ∧ q ≤ 100000 := by
    by_cases h6 : s.size < 6
    · have : q = 0 ∨ True := Or.inr trivial
      have hq0 : -1 < q ∧ q < 1 := by
        rw [← hq]
        have h1 := Int.tdiv_nonneg (a := 6 - (s.size : Int)) (b := 16) (by omega) (by omega)
        have h2 : ((s.size : Int) - 6).tdiv 16 = - ((6 - (s.size : Int)).tdiv 16) := by rw [← Int.neg_tdiv]; congr 1; omega
        have h3 : (6 - (s.size : Int)).tdiv 16 = (6 - (s.size : Int)) / 16 := Int.tdiv_eq_ediv_of_nonneg (by omega)
        omega
      omega
    · have : q = ((s.size : Int) - 6) / 16 := by rw [← hq]; exact Int.tdiv_eq_ediv_of_nonneg (by omega)
      omega
  obtain ⟨hqi, hq1, hq2⟩ := hqq
  have hwq : wrap64 q = q := IntWalk.wrap64_in q (by omega)
  go_enter Try.func42, Try.ntmps42
  by_cases h0 : i < 0
  · have D1 : decide (i < 0) = true := by rw [decide_eq_true_iff]; exact h0
    go_wp2_with (refine store_o rfl 59 6 _ _ rfl w.heap.size zero6 rfl rfl (by kernel_rfl) (by kernel_rfl) (by kernel_rfl) O0.out (by first | rfl | simp) ?_; intro w3 hst hO; have HO := Lib.hid hO; have B9 := Lib.hid (hst.below B0.out (Nat.le_refl _)); clear hst hO)
    refine bodyPost_ret (v := .tuple #[.agg (List.toArray zero6), .bool false]) ?_ rfl ⟨rfl, B9.out⟩
    exact results_c1 Try.results42 _ _ _ zero6 _ rfl HO.out.range0 Try.underlying59 rfl (by kernel_rfl)
  · have D1 : decide (i < 0) = false := by rw [decide_eq_false_iff_not]; exact h0
    have D2 : decide (i ≥ q) = true := by rw [decide_eq_true_iff]; omega
    clear h hqi h0 hq1 hq2
    go_wp2_with (refine store_o rfl 59 6 _ _ rfl w.heap.size zero6 rfl rfl (by kernel_rfl) (by kernel_rfl) (by kernel_rfl) O0.out (by first | rfl | simp) ?_; intro w3 hst hO; have HO := Lib.hid hO; have B9 := Lib.hid (hst.below B0.out (Nat.le_refl _)); clear hst hO)
    refine bodyPost_ret (v := .tuple #[.agg (List.toArray zero6), .bool false]) ?_ rfl ⟨rfl, B9.out⟩
    exact results_c1 Try.results42 _ _ _ zero6 _ rfl HO.out.range0 Try.underlying59 rfl (by kernel_rfl)
set_option maxRecDepth 100000 in
set_option maxHeartbeats 4000000 in
theorem iget_yes (s : ByteArray) (i : Nat) (w : World) (h : 22 + 16 * i ≤ s.size) (hs : s.size ≤ 100000) : Calls Try.prog 42 #[.string s, .int .i64 i] w (GetPost w (entL s (6 + 16 * i)) true) := by
  have O0 := Lib.hid (obj1_new w zero6.toArray 59)
  have B0 := Lib.hid ((Below.refl w.heap.size w).alloc (Nat.le_refl _) (.cells zero6.toArray 59))
  obtain ⟨q, hq⟩ : ∃ q, ((s.size : Int) - 6).tdiv 16 = q := ⟨_, rfl⟩
  have hq2 : q = ((s.size : Int) - 6) / 16 := by rw [← hq]; exact Int.tdiv_eq_ediv_of_nonneg (by omega)
  have hwq : wrap64 q = q := IntWalk.wrap64_in q (by omega)
  have D1 : decide ((i : Int) < 0) = false := by rw [decide_eq_false_iff_not]; omega
  have D2 : decide ((i : Int) ≥ q) = false := by rw [decide_eq_false_iff_not]; omega
  have D3 : decide ((s.size : Int) < 6) = false := by rw [decide_eq_false_iff_not]; omega
  have i3 : ((6 : Int) + 16 * (i : Int)).toNat = 6 + 16 * i := by omega
  have i4 : ((6 : Int) + 16 * ((i : Int) + 1)).toNat = 6 + 16 * (i + 1) := by omega
  have bz : (s.extract (6 + 16 * i) (6 + 16 * (i + 1))).size = 16 := by rw [ByteArray.size_extract]; omega
  have E0 := entL_ext s (6 + 16 * i) (6 + 16 * (i + 1)) (by omega) (by omega)
  have HE := Lib.hid (fun w0 => (entry_any (s.extract (6 + 16 * i) (6 + 16 * (i + 1))) w0 bz).mono (R' := RA w0 (entL s (6 + 16 * i))) fun e w' hh => ⟨hh.1.trans (by rw [E0]), hh.2⟩)
  obtain ⟨EL, hEL⟩ : ∃ L, entL s (6 + 16 * i) = L := ⟨_, rfl⟩
  have ELn : EL.length = 6 := by rw [← hEL]; rfl
  have ELo : EL.all (·.oneCell') = true := by rw [← hEL]; rfl
  have ELi : (Try.prog.info? 59).map (·.size) = some EL.length := by rw [ELn]; kernel_rfl
  rw [hEL] at HE ⊢
  clear hEL E0 bz hq2
  go_enter Try.func42, Try.ntmps42
  go_wp2_with (first
    | ((go_at_call 78; (with_reducible refine (HE.out _).mono ?_); rintro e w2 ⟨rfl, hb⟩); have O0 := Lib.hid (O0.out.below hb (by simp)); have B0 := Lib.hid (bthen hb B0.out (by simp)); clear hb)
    | (refine store_o rfl 59 6 _ _ rfl w.heap.size EL ELn ELo (by kernel_rfl) (by kernel_rfl) (by kernel_rfl) O0.out (by first | rfl | simp) ?_; intro w3 hst hO; have HO := Lib.hid hO; have B9 := Lib.hid (hst.below B0.out (Nat.le_refl _)); clear hst hO))
  refine bodyPost_ret (v := .tuple #[.agg (List.toArray EL), .bool true]) ?_ rfl ⟨rfl, B9.out⟩
  exact results_c1 Try.results42 _ _ _ EL _ rfl HO.out.range0 Try.underlying59 rfl ELi
end Go.Proofs.Ytomikbecbbjhoaa

/- Layer 24: an entry as the program has it; the chapter's example; walked. -/
import Derived.Test.YtomikbecbbjhoaaIC
import Derived.Test.YtomikbecbbjhoaaT8
namespace Go.Proofs.Ytomikbecbbjhoaa
open Go.RowKit
set_option linter.unusedVariables false
set_option linter.unusedSimpArgs false
set_option maxRecDepth 100000 in
set_option maxHeartbeats 4000000 in
theorem plain24_any (e : Ent) (w : World) : Calls Try.prog 40 #[.agg (List.toArray e.cells)] w (RA w e.cells) := by
  have O1 := Lib.hid ((obj1_new w (List.toArray e.cells) 65).alloc (.cells #[.int .i64 0, .int .i64 0, .int .i64 0, .int .i64 0, .int .i64 0, .int .i64 0] 59))
  have O2 := Lib.hid (obj1_new (w.alloc (.cells (List.toArray e.cells) 65)) #[.int .i64 0, .int .i64 0, .int .i64 0, .int .i64 0, .int .i64 0, .int .i64 0] 59)
  rw [show (w.alloc (.cells (List.toArray e.cells) 65)).heap.size = w.heap.size + 1 by simp] at O2
  have HB := Lib.hid (((Below.refl w.heap.size w).alloc (Nat.le_refl _) (.cells (List.toArray e.cells) 65)).alloc (by simp) (.cells #[.int .i64 0, .int .i64 0, .int .i64 0, .int .i64 0, .int .i64 0, .int .i64 0] 59))
  go_enter Try.func40, Try.ntmps40
  go_upto_region 1 with (fail)
  generalize World.alloc _ _ = w1 at O1 O2 HB ⊢
  have k0 : w1.cell? ⟨w.heap.size, 0, none⟩ = some (.int .i64 e.W) := (O1.out.cell 0).trans rfl
  have k1 : w1.cell? ⟨w.heap.size, 1, none⟩ = some (.int .i64 e.H) := (O1.out.cell 1).trans rfl
  have k2 : w1.cell? ⟨w.heap.size, 2, none⟩ = some (.int .i64 e.A) := (O1.out.cell 2).trans rfl
  have k3 : w1.cell? ⟨w.heap.size, 3, none⟩ = some (.int .i64 e.B) := (O1.out.cell 3).trans rfl
  have k4 : w1.cell? ⟨w.heap.size, 4, none⟩ = some (.int .i64 e.Z) := (O1.out.cell 4).trans rfl
  have k5 : w1.cell? ⟨w.heap.size, 5, none⟩ = some (.int .i64 e.P) := (O1.out.cell 5).trans rfl
  go_wp2_with (refine store_o rfl 59 6 _ _ rfl (w.heap.size + 1) e.cells rfl rfl (by kernel_rfl) (by kernel_rfl) (by kernel_rfl) O2.out (by first | rfl | simp) ?_; intro w3 hst hO; have HO := Lib.hid hO; have B9 := Lib.hid (hst.below HB.out (by omega)); clear hst hO; refine gen_frame 2 (.pointer (some ⟨w.heap.size + 1, 0, none⟩)) (by kernel_rfl) (by kernel_rfl) ?_; intro A hA hAd)
  refine bodyPost_ret (v := .agg (List.toArray e.cells)) ?_ hAd ⟨rfl, B9.out⟩
  exact results_c Try.results40 _ _ _ e.cells _ hA HO.out.range0 Try.underlying59 rfl (by kernel_rfl)
def E24 (i : Nat) : Ent := if i = 0 then ⟨16, 16, 0, 0, 0, 38⟩ else ⟨32, 32, 0, 0, 0, 38⟩
def z24 : ByteArray := strOf (dirB false 2 E24 2)
theorem z24_size : z24.size = 38 := rfl
theorem bytes24 (B : Nat) (w : World) (h : EntsAt w (some ⟨B, 0, none⟩) 2 E24) : Calls Try.prog 44 #[.bool false, .slice (some ⟨B, 0, none⟩) 2 2] w fun e w' => e = .returned (.tuple #[.string z24, .int .i64 0]) ∧ Below w.heap.size w w' :=
  (ibytes_any false _ 2 2 E24 w (by decide) h).mono fun e w' hh => ⟨hh.1.trans (by kernel_rfl), hh.2⟩
theorem read24 (L : Nat) : (dRead ⟨L, z24, 0, 38, 0⟩ (Led.new 0 0 0 9)).1 = (dCells false 2 1 ⟨32, 32, 0, 0, 0, 38⟩, [.int .i64 0, .int .i64 0, .int .i64 0]) := by kernel_rfl
set_option maxRecDepth 100000 in
set_option maxHeartbeats 4000000 in
theorem awake24 (w : World) : Calls Try.prog 37 #[] w fun e w' => e = .returned (.bool true) ∧ Below w.heap.size w w' := by
  have O1 := Lib.hid (obj1_new w #[.int .i64 16, .int .i64 16, .int .i64 0, .int .i64 0, .int .i64 0, .int .i64 38, .int .i64 32, .int .i64 32, .int .i64 0, .int .i64 0, .int .i64 0, .int .i64 38] 59)
  have HE := Lib.hid (show EntsAt (w.alloc (.cells #[.int .i64 16, .int .i64 16, .int .i64 0, .int .i64 0, .int .i64 0, .int .i64 38, .int .i64 32, .int .i64 32, .int .i64 0, .int .i64 0, .int .i64 0, .int .i64 38] 59)) (some ⟨w.heap.size, 0, none⟩) 2 E24 from Or.inr ⟨w.heap.size, 0, rfl, by simp, fun i hi => by
    match i, hi with
    | 0, _ => exact O1.out.range 0 _ rfl
    | 1, _ => exact O1.out.range 6 _ rfl⟩)
  have HB := Lib.hid ((Below.refl w.heap.size w).alloc (Nat.le_refl _) (.cells #[.int .i64 16, .int .i64 16, .int .i64 0, .int .i64 0, .int .i64 0, .int .i64 38, .int .i64 32, .int .i64 32, .int .i64 0, .int .i64 0, .int .i64 0, .int .i64 38] 59))
  clear O1
  go_enter Try.func37, Try.ntmps37
  go_upto_region 2 with ((go_at_call 44; (with_reducible refine (bytes24 _ _ HE.out).mono ?_); rintro e w2 ⟨rfl, hb⟩); have HB := Lib.hid (bthen hb HB.out (by simp)); clear hb)
  clear HE
  have hw2 := HB.out.size
  go_upto_region 5 with (first
    | ((go_at_call 27; (with_reducible refine (lnew_k 9 _ (Or.inl rfl)).mono ?_); rintro e w3 ⟨L, rfl, hL, hs3, hC3⟩); have LA := Lib.hid hL; have HB := Lib.hid (HB.out.trans ((chg_none hC3).mono hw2)); have hwL : w.heap.size ≤ L := (by omega); have hw3 := hC3.size; clear hL hC3)
    | ((go_at_call 26; (with_reducible refine (snew_c7 L z24 _ _ (by decide) LA.out).mono ?_); rintro e w4 ⟨X, rfl, hP, hsX, hB4⟩); have PX := Lib.hid hP; have HB := Lib.hid (HB.out.trans (hB4.mono (by omega))); have hw4 := hB4.size; clear hP hB4)
    | ((with_reducible refine skip_g rfl ?_ ?_); rfl; intro _))
  have PX := Lib.hid (show Pair w4 X ⟨L, z24, 0, 38, 0⟩ (Led.new 0 0 0 9) from PX.out)
  go_wp2_with fail
  refine (iread_any X _ _ _ PX.out).mono ?_
  rintro e w5 ⟨rfl, hP, hC⟩
  rw [read24 L]
  have HB := Lib.hid (chg_two HB.out hC (by omega) hwL)
  clear hP hC
  have hw5 := HB.out.size
  have O5 := Lib.hid ((obj1_new w5 #[.bool false, .int .i64 0, .int .i64 0, .int .i64 0, .int .i64 0, .int .i64 0, .int .i64 0, .int .i64 0, .int .i64 0] 61).alloc (.cells #[.int .i64 0, .int .i64 0, .int .i64 0] 46))
  have O6 := Lib.hid (obj1_new (w5.alloc (.cells #[.bool false, .int .i64 0, .int .i64 0, .int .i64 0, .int .i64 0, .int .i64 0, .int .i64 0, .int .i64 0, .int .i64 0] 61)) #[.int .i64 0, .int .i64 0, .int .i64 0] 46)
  rw [show (w5.alloc (.cells #[.bool false, .int .i64 0, .int .i64 0, .int .i64 0, .int .i64 0, .int .i64 0, .int .i64 0, .int .i64 0, .int .i64 0] 61)).heap.size = w5.heap.size + 1 by simp] at O6
  have HB := Lib.hid ((HB.out.alloc HB.out.size (.cells #[.bool false, .int .i64 0, .int .i64 0, .int .i64 0, .int .i64 0, .int .i64 0, .int .i64 0, .int .i64 0, .int .i64 0] 61)).alloc (Nat.le_trans HB.out.size (by simp)) (.cells #[.int .i64 0, .int .i64 0, .int .i64 0] 46))
  go_upto_region 6 with (first
    | (refine store_o rfl 61 9 _ _ rfl w5.heap.size (dCells false 2 1 ⟨32, 32, 0, 0, 0, 38⟩) rfl rfl (by kernel_rfl) (by kernel_rfl) (by kernel_rfl) O5.out (by first | rfl | simp) ?_; intro ws hst hO; have O5 := Lib.hid hO; have O6 := Lib.hid (hst.oth O6.out (by omega)); have HB := Lib.hid (hst.below HB.out (by omega)); clear hst hO)
    | (refine store_o rfl 46 3 _ _ rfl (w5.heap.size + 1) [.int .i64 0, .int .i64 0, .int .i64 0] rfl rfl (by kernel_rfl) (by kernel_rfl) (by kernel_rfl) O6.out (by first | rfl | simp) ?_; intro ws hst hO; have O6 := Lib.hid hO; have O5 := Lib.hid (hst.oth O5.out (by omega)); have HB := Lib.hid (hst.below HB.out (by omega)); clear hst hO))
  have k1 : ws.cell? ⟨w5.heap.size, 1, none⟩ = some (.int .i64 2) := (O5.out.cell 1).trans rfl
  have k2 : ws.cell? ⟨w5.heap.size, 2, none⟩ = some (.int .i64 1) := (O5.out.cell 2).trans rfl
  have k3 : ws.cell? ⟨w5.heap.size, 3, none⟩ = some (.int .i64 32) := (O5.out.cell 3).trans rfl
  go_wp2_with (refine load_u (by kernel_rfl) 46 3 _ rfl (w5.heap.size + 1) [.int .i64 0, .int .i64 0, .int .i64 0] rfl rfl O6.out Try.underlying46 rfl (by kernel_rfl) ?_; intro _)
  go_ret
  exact ⟨rfl, HB.out⟩
end Go.Proofs.Ytomikbecbbjhoaa

/- DibheadBytes, walked. -/
import Derived.Test.YtlhcjnjajkfahaaK31
import Derived.Test.YtlhcjnjajkfahaaK32
import Derived.Test.YtlhcjnjajkfahaaK33
namespace Go.Proofs.Ytlhcjnjajkfahaa
open Go.RowKit
set_option linter.unusedVariables false
set_option linter.unusedSimpArgs false
/-- What a good answer of Bytes says, told by the head's own numbers. -/
theorem good_is {S : ByteArray} {HD : Hd} {m : List Int} {r g b q en : Int} {sz W H : Int} {top : Bool} {dp mt co k0 k1 k2 k3 k4 k5 k6 k7 : Int} {h' c' W' : Int} (hG : GoodAgain S HD m r g b q en) (hO : OutIs S W' h' dp mt c') (hE : HD.at m 0 = [.int .i64 sz, .int .i64 W, .int .i64 H, .bool top, .int .i64 dp, .int .i64 mt, .int .i64 co, .int .i64 k0, .int .i64 k1, .int .i64 k2, .int .i64 k3, .int .i64 k4, .int .i64 k5, .int .i64 k6, .int .i64 k7, .int .i64 0]) :
    rRead20 S 0 = [.int .i64 sz, .int .i64 W, .int .i64 H, .bool top, .int .i64 dp, .int .i64 mt, .int .i64 co, .int .i64 r, .int .i64 g, .int .i64 b, .int .i64 q, .int .i64 0, .int .i64 (S.size : Int), .int .i64 0, .int .i64 0] ∧ wordI k0 k1 = r ∧ wordI k2 k3 = g ∧ wordI k4 k5 = b ∧ wordI k6 k7 = q ∧ sz = 40 := by
  obtain ⟨g1, g2, ⟨j0, j1, j2, j3, j4, j5, j6, j7, rfl, w0, w1, w2, w3⟩, g4, g5, g6, g7⟩ := hG
  obtain ⟨sz1, W1, H1, top1, dp1, mt1, co1, m1, fr1⟩ := HD
  have hE : ([.int .i64 sz1, .int .i64 W1, .int .i64 H1, .bool top1, .int .i64 dp1, .int .i64 mt1, .int .i64 co1, .int .i64 j0, .int .i64 j1, .int .i64 j2, .int .i64 j3, .int .i64 j4, .int .i64 j5, .int .i64 j6, .int .i64 j7, .int .i64 0] : List Value) = [.int .i64 sz, .int .i64 W, .int .i64 H, .bool top, .int .i64 dp, .int .i64 mt, .int .i64 co, .int .i64 k0, .int .i64 k1, .int .i64 k2, .int .i64 k3, .int .i64 k4, .int .i64 k5, .int .i64 k6, .int .i64 k7, .int .i64 0] := hE
  simp only [List.cons.injEq, Value.int.injEq, Value.bool.injEq, true_and, and_true] at hE
  obtain ⟨rfl, rfl, rfl, rfl, rfl, rfl, rfl, rfl, rfl, rfl, rfl, rfl, rfl, rfl, rfl⟩ := hE
  have hs : sz1 = 40 := g4.trans hO.f0
  have he : en = (S.size : Int) := by
    rw [g5, hO.z]
    by_cases h3 : mt1 = 3
    · rw [if_pos h3, if_pos ⟨hs, h3⟩]; rfl
    · rw [if_neg h3, if_neg (fun h => h3 h.2)]; show (0 : Int) + sz1 = _; rw [hs]; rfl
  exact ⟨by rw [g2, he]; rfl, w0, w1, w2, w3, hs⟩
set_option maxRecDepth 100000 in
set_option maxHeartbeats 16000000 in
theorem bytes20_law (sz W H : Int) (top : Bool) (dp mt co k0 k1 k2 k3 k4 k5 k6 k7 fr : Int) (w : World) : Calls Try.prog 9 #[.agg (List.toArray [.int .i64 sz, .int .i64 W, .int .i64 H, .bool top, .int .i64 dp, .int .i64 mt, .int .i64 co, .int .i64 k0, .int .i64 k1, .int .i64 k2, .int .i64 k3, .int .i64 k4, .int .i64 k5, .int .i64 k6, .int .i64 k7, .int .i64 fr])] w (Yes20 w) := by
  have HBY := Lib.hid (fun w0 => hbytes_any sz W H top dp mt co k0 k1 k2 k3 k4 k5 k6 k7 fr w0)
  have HOI := Lib.hid (outS_is W H top dp mt co k0 k1 k2 k3 k4 k5)
  obtain ⟨S, hS⟩ : ∃ S, outS W H top dp mt co k0 k1 k2 k3 k4 k5 = S := ⟨_, rfl⟩
  rw [hS] at HBY HOI
  clear hS
  have O1 := Lib.hid (obj1_new w (List.toArray [.int .i64 sz, .int .i64 W, .int .i64 H, .bool top, .int .i64 dp, .int .i64 mt, .int .i64 co, .int .i64 k0, .int .i64 k1, .int .i64 k2, .int .i64 k3, .int .i64 k4, .int .i64 k5, .int .i64 k6, .int .i64 k7, .int .i64 fr]) 61)
  have HB := Lib.hid ((Below.refl w.heap.size w).alloc (Nat.le_refl _) (.cells (List.toArray [.int .i64 sz, .int .i64 W, .int .i64 H, .bool top, .int .i64 dp, .int .i64 mt, .int .i64 co, .int .i64 k0, .int .i64 k1, .int .i64 k2, .int .i64 k3, .int .i64 k4, .int .i64 k5, .int .i64 k6, .int .i64 k7, .int .i64 fr]) 61))
  have hSz : S.size ≤ 52 := by rw [HOI.out.z]; split <;> omega
  go_enter Try.func9, Try.ntmps9
  go_upto_region 1 with (fail)
  generalize World.alloc _ _ = w1 at O1 HB ⊢
  go_wp2_with (refine load_u (by kernel_rfl) 61 16 _ rfl w.heap.size [.int .i64 sz, .int .i64 W, .int .i64 H, .bool top, .int .i64 dp, .int .i64 mt, .int .i64 co, .int .i64 k0, .int .i64 k1, .int .i64 k2, .int .i64 k3, .int .i64 k4, .int .i64 k5, .int .i64 k6, .int .i64 k7, .int .i64 fr] rfl rfl O1.out Try.underlying61 rfl (by kernel_rfl) ?_; intro _)
  refine (HBY.out _).mono ?_
  rintro e w2 ⟨h, hb⟩
  have O1 := Lib.hid (O1.out.below hb O1.out.lt)
  have HB := Lib.hid (bthen hb HB.out HB.out.size)
  clear hb
  rcases h with ⟨HD, m, r, gg, b, q, en, hG, hE, rfl⟩ | ⟨-, rfl⟩
  rotate_left
  · go_wp2_with (first | ((with_reducible refine skip_g rfl ?_ ?_); rfl; intro _) | ((go_at_call 30; (with_reducible refine (awake20 _).mono ?_); rintro x w11 ⟨rfl, hb11⟩); have HB := Lib.hid (bthen hb11 HB.out HB.out.size); clear hb11))
    go_ret
    exact ⟨rfl, HB.out⟩
  obtain ⟨hR, m0, m1, m2, m3, -⟩ := good_is hG HOI.out hE
  have HRR := Lib.hid (fun w0 => (show Calls Try.prog 16 #[.string S, .int .i64 0, .int .i64 S.size] w0 (RA w0 [.int .i64 sz, .int .i64 W, .int .i64 H, .bool top, .int .i64 dp, .int .i64 mt, .int .i64 co, .int .i64 r, .int .i64 gg, .int .i64 b, .int .i64 q, .int .i64 0, .int .i64 (S.size : Int), .int .i64 0, .int .i64 0]) from hR ▸ rread20_any S 0 w0 (Nat.zero_le _) (Nat.zero_le _) (by omega)))
  have HSM := Lib.hid (fun w0 => same20_yes sz W H top dp mt co k0 k1 k2 k3 k4 k5 k6 k7 0 r gg b q (S.size : Int) m0 m1 m2 m3 w0)
  clear hG hE hR m0 m1 m2 m3 HBY HOI
  go_upto_region 5 with (first
    | ((go_at_call 16; (with_reducible refine (HRR.out _).mono ?_); rintro x w3 ⟨rfl, hb⟩); have l3 := O1.out.lt; have O5 := Lib.hid (obj1_new w3 #[.int .i64 0, .int .i64 0, .int .i64 0, .bool false, .int .i64 0, .int .i64 0, .int .i64 0, .int .i64 0, .int .i64 0, .int .i64 0, .int .i64 0, .int .i64 0, .int .i64 0, .int .i64 0, .int .i64 0] 31); have O1 := Lib.hid (O1.out.below hb O1.out.lt); have HB := Lib.hid (bthen hb HB.out HB.out.size); have l1 := O1.out.lt; have O1 := Lib.hid (O1.out.alloc (.cells #[.int .i64 0, .int .i64 0, .int .i64 0, .bool false, .int .i64 0, .int .i64 0, .int .i64 0, .int .i64 0, .int .i64 0, .int .i64 0, .int .i64 0, .int .i64 0, .int .i64 0, .int .i64 0, .int .i64 0] 31)); have HB := Lib.hid (HB.out.alloc HB.out.size (.cells #[.int .i64 0, .int .i64 0, .int .i64 0, .bool false, .int .i64 0, .int .i64 0, .int .i64 0, .int .i64 0, .int .i64 0, .int .i64 0, .int .i64 0, .int .i64 0, .int .i64 0, .int .i64 0, .int .i64 0] 31)); clear hb)
    | (refine store_o rfl 31 15 _ _ rfl w3.heap.size [.int .i64 sz, .int .i64 W, .int .i64 H, .bool top, .int .i64 dp, .int .i64 mt, .int .i64 co, .int .i64 r, .int .i64 gg, .int .i64 b, .int .i64 q, .int .i64 0, .int .i64 (S.size : Int), .int .i64 0, .int .i64 0] rfl rfl (by kernel_rfl) (by kernel_rfl) (by kernel_rfl) O5.out (by first | rfl | simp) ?_; intro wt hst hO; have O5 := Lib.hid hO; have O1 := Lib.hid (hst.oth O1.out (by omega)); have HB := Lib.hid (hst.below HB.out (by omega)); clear hst hO))
  have c15 : wt.cell? ⟨w.heap.size, 15, none⟩ = some (.int .i64 fr) := (O1.out.cell 15).trans rfl
  have f15 : wt.frozen? ⟨w.heap.size, 15, none⟩ = false := O1.out.frozen 15
  go_upto_region 6 with (fail)
  have O1 := Lib.hid ((O1.out.set 15 (.int .i64 0)).cells (show _ = List.toArray [.int .i64 sz, .int .i64 W, .int .i64 H, .bool top, .int .i64 dp, .int .i64 mt, .int .i64 co, .int .i64 k0, .int .i64 k1, .int .i64 k2, .int .i64 k3, .int .i64 k4, .int .i64 k5, .int .i64 k6, .int .i64 k7, .int .i64 0] from rfl))
  have O5 := Lib.hid (O5.out.set_other ⟨w.heap.size, 15, none⟩ (.int .i64 0) (by simp; omega))
  have HB := Lib.hid (HB.out.setCell (p := ⟨w.heap.size, 15, none⟩) (Nat.le_refl _) (.int .i64 0))
  clear c15 f15
  generalize World.setCell _ _ _ = wv at O1 O5 HB ⊢
  have c13 : wv.cell? ⟨w3.heap.size, 13, none⟩ = some (.int .i64 0) := (O5.out.cell 13).trans rfl
  go_wp2_with (first
    | ((with_reducible refine skip_g rfl ?_ ?_); rfl; intro _)
    | (refine load_u (by kernel_rfl) 61 16 _ rfl w.heap.size [.int .i64 sz, .int .i64 W, .int .i64 H, .bool top, .int .i64 dp, .int .i64 mt, .int .i64 co, .int .i64 k0, .int .i64 k1, .int .i64 k2, .int .i64 k3, .int .i64 k4, .int .i64 k5, .int .i64 k6, .int .i64 k7, .int .i64 0] rfl rfl O1.out Try.underlying61 rfl (by kernel_rfl) ?_; intro _)
    | (refine load_u (by kernel_rfl) 31 15 _ rfl w3.heap.size [.int .i64 sz, .int .i64 W, .int .i64 H, .bool top, .int .i64 dp, .int .i64 mt, .int .i64 co, .int .i64 r, .int .i64 gg, .int .i64 b, .int .i64 q, .int .i64 0, .int .i64 (S.size : Int), .int .i64 0, .int .i64 0] rfl rfl O5.out Try.underlying31 rfl (by kernel_rfl) ?_; intro _)
    | ((go_at_call 34; (with_reducible refine (HSM.out _).mono ?_); rintro x w7 ⟨rfl, hb⟩); have O1 := Lib.hid (O1.out.below hb O1.out.lt); have O5 := Lib.hid (O5.out.below hb O5.out.lt); have HB := Lib.hid (bthen hb HB.out HB.out.size); clear hb; have c12 : w7.cell? ⟨w3.heap.size, 12, none⟩ = some (.int .i64 (S.size : Int)) := (O5.out.cell 12).trans rfl)
    | ((go_at_call 30; (with_reducible refine (awake20 _).mono ?_); rintro x w11 ⟨rfl, hb11⟩); have HB := Lib.hid (bthen hb11 HB.out HB.out.size); clear hb11))
  go_ret
  exact ⟨rfl, HB.out⟩
end Go.Proofs.Ytlhcjnjajkfahaa

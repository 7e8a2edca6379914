/- need.Of at the chapter's example; the example. -/
import Derived.Test.YtcjjfnghgajefaaGreatK10
import Derived.Test.YtcjjfnghgajefaaGreatK11
import Derived.Test.YtcjjfnghgajefaaGreatK12
import Derived.WalkKit
import Derived.Test.YtcjjfnghgajefaaGreatK0
namespace Go.Proofs.YtcjjfnghgajefaaGreat
open Go.RowKit Go.Maps
set_option linter.unusedVariables false
set_option linter.unusedSimpArgs false
def exS : ByteArray := ⟨#[80, 53, 32, 50, 32, 51, 32, 50, 53, 53, 10, 97, 98, 99, 100, 101, 102]⟩
theorem ex_plan (L : Nat) : ((⟨L, exS, 0, 17, 0⟩ : Sr).ppnm (Led.new 0 0 0 1125899906842624)).2 = ([.int .i64 0, .int .i64 2, .int .i64 3, .int .i64 8, .int .i64 0, .int .i64 0], (0, 0)) := by kernel_rfl
set_option maxRecDepth 100000 in
set_option maxHeartbeats 4000000 in
theorem ofex_any (w : World) : Calls Tryz.prog 12 #[.string exS] w fun e w' => e = .returned (.tuple #[.agg (List.toArray [.int .i64 3, .int .i64 2, .int .i64 3, .int .i64 8, .int .i64 0, .int .i64 0]), .agg (List.toArray [.int .i64 0, .int .i64 0, .int .i64 0])]) ∧ Below w.heap.size w w' := by
  have H1 := Hi (fun w0 => (show Calls Tryz.prog 13 #[.string exS] w0 (fun e w' => e = .returned (.int .i64 3) ∧ Below w0.heap.size w0 w') from (sformat_any exS w0 (by decide +kernel)).mono fun e w' hh => ⟨hh.1.trans (by rw [show firstOf (allTo exS 8) = 3 by decide +kernel]), hh.2⟩))
  have H2 := Hi (fun w0 => readers_any w0)
  have H3 := Hi (fun w0 => lnew_any 0 0 0 1125899906842624 w0 (by decide) (by decide))
  have H4 := Hi (fun L w0 hL => snew_any L exS w0 (by decide +kernel) hL)
  have H5 := Hi (fun L X (w0 : World) (h0 : Pair w0 X ⟨L, exS, 0, 17, 0⟩ (Led.new 0 0 0 1125899906842624)) => (ofpnm_any (Rdr.of h0)).mono (R' := fun e w' => e = .returned (.tuple #[.agg (List.toArray [.int .i64 0, .int .i64 2, .int .i64 3, .int .i64 8, .int .i64 0, .int .i64 0]), .agg (List.toArray [.int .i64 0, .int .i64 0, .int .i64 0])]) ∧ Chg (two X ⟨L, exS, 0, 17, 0⟩) w0 w') fun e w' hh => ⟨hh.1.trans (by rw [ex_plan]; rfl), hh.2.2⟩)
  have O2 := Hi ((obj1_new w #[.int .i64 0, .int .i64 0, .int .i64 0, .int .i64 0, .int .i64 0, .int .i64 0] 23).alloc (.cells #[.int .i64 0, .int .i64 0, .int .i64 0] 36))
  have O3 := Hi (obj1_new (w.alloc (.cells #[.int .i64 0, .int .i64 0, .int .i64 0, .int .i64 0, .int .i64 0, .int .i64 0] 23)) #[.int .i64 0, .int .i64 0, .int .i64 0] 36)
  have BL := Hi (((Below.refl w.heap.size w).alloc (Nat.le_refl _) (.cells #[.int .i64 0, .int .i64 0, .int .i64 0, .int .i64 0, .int .i64 0, .int .i64 0] 23)).alloc (by simp) (.cells #[.int .i64 0, .int .i64 0, .int .i64 0] 36))
  obtain ⟨d, hd⟩ : ∃ d, w.heap.size = d := ⟨_, rfl⟩
  rw [show (w.alloc (.cells #[.int .i64 0, .int .i64 0, .int .i64 0, .int .i64 0, .int .i64 0, .int .i64 0] 23)).heap.size = d + 1 by rw [← hd]; simp] at O3
  rw [hd] at O2
  have HDe := Hi hd
  obtain ⟨s, hs⟩ : ∃ s, exS = s := ⟨_, rfl⟩
  rw [hs] at H1 H4 H5 ⊢
  have HSZ := Hi (show s.size = 17 by rw [← hs]; rfl)
  clear hs
  go_enter Tryz.func12, Tryz.ntmps12
  go_upto_region 1 with (fail)
  clear hd
  generalize World.alloc (World.alloc _ _) _ = wr at O2 O3 BL ⊢
  go_upto_region 3 with (first
    | ((go_at_call 13; (with_reducible refine (H1.out _).mono ?_); rintro e w3 ⟨rfl, hb⟩); have O2 := Hi (O2.out.below hb O2.out.lt); have O3 := Hi (O3.out.below hb O3.out.lt); have BL := Hi (bthen hb BL.out BL.out.size); clear hb)
    | ((go_at_call 14; (with_reducible refine (H2.out _).mono ?_); rintro e w4 ⟨rfl, hown, hb⟩); have O2 := Hi (O2.out.below hb O2.out.lt); have O3 := Hi (O3.out.below hb O3.out.lt); have BL := Hi (bthen hb BL.out BL.out.size); clear hb)
    | (at_lookup; refine wpList_lookup_own_ok _ rfl _ _ 44 rfl 3 42 lawI Tryz.underlying44 fnElem (zeroF _) (.lit (.int .i64 (-1))) [] rfl _ _ _ rfl hown _ _ rfl (keyOf_int_mk Tryz.underlying3 (by decide)) ?_; intro v ps hv; rw [rdD_has]; rw [rdD_at] at hv; have hv := fnElem_inv hv; subst hv))
  try clear hown
  go_upto_region 6 with (first
    | ((go_at_call 15; (with_reducible refine (H3.out _).mono ?_); rintro e w5 ⟨L, rfl, hL, hLw, hC⟩); have lw5 := Nat.le_trans BL.out.size hLw))
  have lL3 := Nat.lt_of_lt_of_le O3.out.lt hLw
  have BL := Hi (bchg BL.out hC (BL.out.size) (fun k h => h.elim))
  have O2 := Hi (hC.obj O2.out (fun h => h))
  have O3 := Hi (hC.obj O3.out (fun h => h))
  clear hC hLw
  go_upto_region 7 with (first
    | ((go_at_call 16; (with_reducible refine (H4.out L _ hL.lt).mono ?_); rintro e w6 ⟨X, rfl, hX, hXw, hC⟩)))
  have lX := Nat.le_trans BL.out.size hXw
  have lX3 := Nat.lt_of_lt_of_le O3.out.lt hXw
  clear hXw
  have HP := Hi (show Pair w6 X ⟨L, s, 0, 17, 0⟩ (Led.new 0 0 0 1125899906842624) from ⟨by have := hX; rw [HSZ.out] at this; exact this, hL.chg hC (fun h => h)⟩)
  have BL := Hi (bchg BL.out hC (BL.out.size) (fun k h => h.elim))
  have O2 := Hi (hC.obj O2.out (fun h => h))
  have O3 := Hi (hC.obj O3.out (fun h => h))
  have lz3 := O3.out.lt
  clear hC hX hL
  go_wp2_with fail
  with_reducible refine (H5.out L X _ HP.out).mono ?_
  rintro e w7 ⟨rfl, hC⟩
  have BL := Hi (bchg BL.out hC (BL.out.size) (fun k h => h.elim (fun h => by rw [h]; exact lX) (fun h => by rw [h]; exact lw5)))
  have O2 := Hi (hC.obj O2.out (fun h => h.elim (fun h => by omega) (fun h => by have : d = L := h; omega)))
  have O3 := Hi (hC.obj O3.out (fun h => h.elim (fun h => by omega) (fun h => by have : d + 1 = L := h; omega)))
  have lz3 := O3.out.lt
  clear hC HP lX lw5 lX3 lL3
  obtain ⟨g, hg⟩ : ∃ b, w7.heap.size = b := ⟨_, rfl⟩
  have O4 := Hi ((obj1_new w7 #[.int .i64 0, .int .i64 0, .int .i64 0, .int .i64 0, .int .i64 0, .int .i64 0] 23).alloc (.cells #[.int .i64 0, .int .i64 0, .int .i64 0] 36))
  have lzz : (w7.alloc (Obj.cells #[.int .i64 0, .int .i64 0, .int .i64 0, .int .i64 0, .int .i64 0, .int .i64 0] 23)).heap.size = g + 1 := by rw [World.size_alloc, hg]
  have O5 := Hi (obj1_new (w7.alloc (Obj.cells #[.int .i64 0, .int .i64 0, .int .i64 0, .int .i64 0, .int .i64 0, .int .i64 0] 23)) #[.int .i64 0, .int .i64 0, .int .i64 0] 36)
  rw [lzz] at O5
  rw [hg] at O4 lz3
  have BL := Hi ((BL.out.alloc BL.out.size (.cells #[.int .i64 0, .int .i64 0, .int .i64 0, .int .i64 0, .int .i64 0, .int .i64 0] 23)).alloc (by have := BL.out.size; rw [lzz]; omega) (.cells #[.int .i64 0, .int .i64 0, .int .i64 0] 36))
  have O2 := Hi ((O2.out.alloc (.cells #[.int .i64 0, .int .i64 0, .int .i64 0, .int .i64 0, .int .i64 0, .int .i64 0] 23)).alloc (.cells #[.int .i64 0, .int .i64 0, .int .i64 0] 36))
  have O3 := Hi ((O3.out.alloc (.cells #[.int .i64 0, .int .i64 0, .int .i64 0, .int .i64 0, .int .i64 0, .int .i64 0] 23)).alloc (.cells #[.int .i64 0, .int .i64 0, .int .i64 0] 36))
  clear lzz
  go_upto_region 8 with (first
    | (refine store_o rfl 23 6 _ _ rfl g [.int .i64 0, .int .i64 2, .int .i64 3, .int .i64 8, .int .i64 0, .int .i64 0] rfl rfl (by kernel_rfl) (by kernel_rfl) (by kernel_rfl) O4.out (by first | rfl | simp) ?_; intro w8 hst hO; have O4 := Hi hO; have O2 := Hi (hst.oth O2.out (by omega)); have O3 := Hi (hst.oth O3.out (by omega)); have O5 := Hi (hst.oth O5.out (by omega)); have BL := Hi (hst.below BL.out (by have := HDe.out; omega)); clear hst hO)
    | (refine store_o rfl 36 3 _ _ rfl (g + 1) [.int .i64 0, .int .i64 0, .int .i64 0] rfl rfl (by kernel_rfl) (by kernel_rfl) (by kernel_rfl) O5.out (by first | rfl | simp) ?_; intro w9 hst hO; have O5 := Hi hO; have O2 := Hi (hst.oth O2.out (by omega)); have O3 := Hi (hst.oth O3.out (by omega)); have O4 := Hi (hst.oth O4.out (by omega)); have BL := Hi (hst.below BL.out (by have := HDe.out; omega)); clear hst hO))
  clear hg
  have c0 := (O5.out.cell 0).trans (show _ = some (.int .i64 0) from rfl)
  go_upto_region 11 with (first
    | (refine store_c rfl 3 _ _ rfl (g) 0 (.int .i64 3) rfl rfl (by kernel_rfl) (by kernel_rfl) (by kernel_rfl) O4.out (show 0 < 6 by decide) (cs' := List.toArray ([.int .i64 3, .int .i64 2, .int .i64 3, .int .i64 8, .int .i64 0, .int .i64 0])) rfl ?_; intro ws hst hO; have O4 := Hi hO; have O2 := Hi (hst.oth O2.out (by omega)); have O3 := Hi (hst.oth O3.out (by omega)); have O5 := Hi (hst.oth O5.out (by omega)); have BL := Hi (hst.below BL.out (by have := HDe.out; omega)); clear hst hO))
  clear c0
  go_wp2_with (first
    | (refine load_u (by kernel_rfl) 23 6 _ rfl g [.int .i64 3, .int .i64 2, .int .i64 3, .int .i64 8, .int .i64 0, .int .i64 0] rfl rfl O4.out Tryz.underlying23 rfl (by kernel_rfl) ?_; intro _)
    | (refine store_o rfl 23 6 _ _ rfl d [.int .i64 3, .int .i64 2, .int .i64 3, .int .i64 8, .int .i64 0, .int .i64 0] rfl rfl (by kernel_rfl) (by kernel_rfl) (by kernel_rfl) O2.out (by first | rfl | simp) ?_; intro ws hst hO; have O2 := Hi hO; have O3 := Hi (hst.oth O3.out (by omega)); have O4 := Hi (hst.oth O4.out (by omega)); have O5 := Hi (hst.oth O5.out (by omega)); have BL := Hi (hst.below BL.out (by have := HDe.out; omega)); clear hst hO)
    | (refine store_o rfl 36 3 _ _ rfl (d + 1) [.int .i64 0, .int .i64 0, .int .i64 0] rfl rfl (by kernel_rfl) (by kernel_rfl) (by kernel_rfl) O3.out (by first | rfl | simp) ?_; intro ws hst hO; have O3 := Hi hO; have O2 := Hi (hst.oth O2.out (by omega)); have O4 := Hi (hst.oth O4.out (by omega)); have O5 := Hi (hst.oth O5.out (by omega)); have BL := Hi (hst.below BL.out (by have := HDe.out; omega)); clear hst hO))
  refine bodyPost_ret (v := .tuple #[.agg (List.toArray [.int .i64 3, .int .i64 2, .int .i64 3, .int .i64 8, .int .i64 0, .int .i64 0]), .agg (List.toArray [.int .i64 0, .int .i64 0, .int .i64 0])]) ?_ rfl ⟨rfl, BL.out⟩
  exact results_cc Tryz.results12 _ _ _ _ [.int .i64 3, .int .i64 2, .int .i64 3, .int .i64 8, .int .i64 0, .int .i64 0] [.int .i64 0, .int .i64 0, .int .i64 0] _ _ rfl O2.out.range0 Tryz.underlying23 rfl (by kernel_rfl) rfl O3.out.range0 Tryz.underlying36 rfl (by kernel_rfl)
set_option maxRecDepth 100000 in
set_option maxHeartbeats 4000000 in
theorem awake31 (w : World) : Calls Tryz.prog 6 #[] w fun e w' => e = .returned (.bool true) ∧ Below w.heap.size w w' := by
  have H1 := Hi (fun w0 => ofex_any w0)
  unfold exS at H1
  have H2 := Hi (fun w0 => (pneed_yes 3 2 3 8 0 0 17 w0 (by decide)).mono (R' := fun e w' => e = .returned (.agg (List.toArray [.int .i64 2, .int .i64 3, .int .i64 24, .int .i64 1352])) ∧ Below w0.heap.size w0 w') fun e w' hh => hh)
  have BL := Hi (Below.refl w.heap.size w)
  go_enter Tryz.func6, Tryz.ntmps6
  go_wp2_with fail
  with_reducible refine (H1.out _).mono ?_
  rintro e w1 ⟨rfl, hb⟩
  have BL := Hi (bthen hb BL.out BL.out.size)
  clear hb
  obtain ⟨d, hg⟩ : ∃ b, w1.heap.size = b := ⟨_, rfl⟩
  have HDe := Hi (show w.heap.size ≤ d by rw [← hg]; exact BL.out.size)
  have O1 := Hi ((obj1_new w1 #[.int .i64 0, .int .i64 0, .int .i64 0, .int .i64 0, .int .i64 0, .int .i64 0] 23).alloc (.cells #[.int .i64 0, .int .i64 0, .int .i64 0] 36))
  have lzz : (w1.alloc (Obj.cells #[.int .i64 0, .int .i64 0, .int .i64 0, .int .i64 0, .int .i64 0, .int .i64 0] 23)).heap.size = d + 1 := by rw [World.size_alloc, hg]
  have O2 := Hi (obj1_new (w1.alloc (Obj.cells #[.int .i64 0, .int .i64 0, .int .i64 0, .int .i64 0, .int .i64 0, .int .i64 0] 23)) #[.int .i64 0, .int .i64 0, .int .i64 0] 36)
  rw [lzz] at O2
  rw [hg] at O1
  have BL := Hi ((BL.out.alloc BL.out.size (.cells #[.int .i64 0, .int .i64 0, .int .i64 0, .int .i64 0, .int .i64 0, .int .i64 0] 23)).alloc (by have := BL.out.size; rw [lzz]; omega) (.cells #[.int .i64 0, .int .i64 0, .int .i64 0] 36))
  clear lzz
  go_upto_region 2 with (first
    | (refine store_o rfl 23 6 _ _ rfl d [.int .i64 3, .int .i64 2, .int .i64 3, .int .i64 8, .int .i64 0, .int .i64 0] rfl rfl (by kernel_rfl) (by kernel_rfl) (by kernel_rfl) O1.out (by first | rfl | simp) ?_; intro w2 hst hO; have O1 := Hi hO; have O2 := Hi (hst.oth O2.out (by omega)); have BL := Hi (hst.below BL.out (by have := HDe.out; omega)); clear hst hO)
    | (refine store_o rfl 36 3 _ _ rfl (d + 1) [.int .i64 0, .int .i64 0, .int .i64 0] rfl rfl (by kernel_rfl) (by kernel_rfl) (by kernel_rfl) O2.out (by first | rfl | simp) ?_; intro w3 hst hO; have O2 := Hi hO; have O1 := Hi (hst.oth O1.out (by omega)); have BL := Hi (hst.below BL.out (by have := HDe.out; omega)); clear hst hO))
  clear hg
  go_wp2_with (refine load_u (by kernel_rfl) 23 6 _ rfl d [.int .i64 3, .int .i64 2, .int .i64 3, .int .i64 8, .int .i64 0, .int .i64 0] rfl rfl O1.out Tryz.underlying23 rfl (by kernel_rfl) ?_; intro _)
  with_reducible refine (H2.out _).mono ?_
  rintro e w4 ⟨rfl, hb⟩
  have BL := Hi (bthen hb BL.out BL.out.size)
  have O1 := Hi (O1.out.below hb O1.out.lt)
  have O2 := Hi (O2.out.below hb O2.out.lt)
  clear hb
  have lz := O2.out.lt
  obtain ⟨g, hg⟩ : ∃ b, w4.heap.size = b := ⟨_, rfl⟩
  have O3 := Hi (obj1_new w4 #[.int .i64 0, .int .i64 0, .int .i64 0, .int .i64 0] 25)
  rw [hg] at O3 lz
  have BL := Hi (BL.out.alloc BL.out.size (.cells #[.int .i64 0, .int .i64 0, .int .i64 0, .int .i64 0] 25))
  have O1 := Hi (O1.out.alloc (.cells #[.int .i64 0, .int .i64 0, .int .i64 0, .int .i64 0] 25))
  have O2 := Hi (O2.out.alloc (.cells #[.int .i64 0, .int .i64 0, .int .i64 0, .int .i64 0] 25))
  go_upto_region 3 with (first
    | (refine store_o rfl 25 4 _ _ rfl g [.int .i64 2, .int .i64 3, .int .i64 24, .int .i64 1352] rfl rfl (by kernel_rfl) (by kernel_rfl) (by kernel_rfl) O3.out (by first | rfl | simp) ?_; intro w5 hst hO; have O3 := Hi hO; have O1 := Hi (hst.oth O1.out (by omega)); have O2 := Hi (hst.oth O2.out (by omega)); have BL := Hi (hst.below BL.out (by have := HDe.out; omega)); clear hst hO))
  clear hg
  have k2 := (O3.out.cell 2).trans (show _ = some (.int .i64 24) from rfl)
  have k3 := (O3.out.cell 3).trans (show _ = some (.int .i64 1352) from rfl)
  go_wp2_with (first
    | (refine load_u (by kernel_rfl) 36 3 _ rfl (d + 1) [.int .i64 0, .int .i64 0, .int .i64 0] rfl rfl O2.out Tryz.underlying36 rfl (by kernel_rfl) ?_; intro _)
    | (refine load_u (by kernel_rfl) 23 6 _ rfl d [.int .i64 3, .int .i64 2, .int .i64 3, .int .i64 8, .int .i64 0, .int .i64 0] rfl rfl O1.out Tryz.underlying23 rfl (by kernel_rfl) ?_; intro _))
  go_ret
  exact ⟨rfl, BL.out⟩
end Go.Proofs.YtcjjfnghgajefaaGreat

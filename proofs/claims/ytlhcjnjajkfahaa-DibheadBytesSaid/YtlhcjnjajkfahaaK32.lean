/- Head.Entry; the reference's Stride; what the law compares: walked. -/
import Derived.Test.YtlhcjnjajkfahaaK21
import Derived.Test.YtlhcjnjajkfahaaK24
import Derived.Test.YtlhcjnjajkfahaaK16
namespace Go.Proofs.Ytlhcjnjajkfahaa
open Go.RowKit
set_option linter.unusedVariables false
set_option linter.unusedSimpArgs false
set_option maxRecDepth 100000 in
theorem hentry_any (sz W H : Int) (top : Bool) (dp mt co k0 k1 k2 k3 k4 k5 k6 k7 fr : Int) (w : World) :
    Calls Try.prog 38 #[.agg (List.toArray [.int .i64 sz, .int .i64 W, .int .i64 H, .bool top, .int .i64 dp, .int .i64 mt, .int .i64 co, .int .i64 k0, .int .i64 k1, .int .i64 k2, .int .i64 k3, .int .i64 k4, .int .i64 k5, .int .i64 k6, .int .i64 k7, .int .i64 fr])] w fun e w' => e = .returned (.int .i64 (if sz = 12 then 3 else 4)) ∧ Below w.heap.size w w' := by
  have O1 := Lib.hid (obj1_new w (List.toArray [.int .i64 sz, .int .i64 W, .int .i64 H, .bool top, .int .i64 dp, .int .i64 mt, .int .i64 co, .int .i64 k0, .int .i64 k1, .int .i64 k2, .int .i64 k3, .int .i64 k4, .int .i64 k5, .int .i64 k6, .int .i64 k7, .int .i64 fr]) 61)
  have BL := Lib.hid ((Below.refl w.heap.size w).alloc (Nat.le_refl _) (.cells (List.toArray [.int .i64 sz, .int .i64 W, .int .i64 H, .bool top, .int .i64 dp, .int .i64 mt, .int .i64 co, .int .i64 k0, .int .i64 k1, .int .i64 k2, .int .i64 k3, .int .i64 k4, .int .i64 k5, .int .i64 k6, .int .i64 k7, .int .i64 fr]) 61))
  obtain ⟨x, hx⟩ : ∃ x, (if sz = 12 then (3 : Int) else 4) = x := ⟨_, rfl⟩
  rw [hx]
  by_cases h : sz = 12
  · have e : (sz == 12) = true := by rw [h]; rfl
    have E := Lib.hid (show x = 3 by rw [← hx, if_pos h])
    clear hx
    clear h
    go_enter Try.func38, Try.ntmps38
    go_upto_region 1 with (fail)
    generalize World.alloc _ _ = w1 at O1 BL ⊢
    have c0 : w1.cell? ⟨w.heap.size, 0, none⟩ = some (.int .i64 sz) := (O1.out.cell 0).trans rfl
    go_wp2_with fail
    go_ret
    exact ⟨ret_i E.out.symm, BL.out⟩
  · have e : (sz == 12) = false := eqf h
    have E := Lib.hid (show x = 4 by rw [← hx, if_neg h])
    clear hx
    clear h
    go_enter Try.func38, Try.ntmps38
    go_upto_region 1 with (fail)
    generalize World.alloc _ _ = w1 at O1 BL ⊢
    have c0 : w1.cell? ⟨w.heap.size, 0, none⟩ = some (.int .i64 sz) := (O1.out.cell 0).trans rfl
    go_wp2_with fail
    go_ret
    exact ⟨ret_i E.out.symm, BL.out⟩
set_option maxRecDepth 100000 in
theorem rstride_any (sz : Int) (a : Nat) (H : Int) (top : Bool) (b : Nat) (mt co k0 k1 k2 k3 fr en : Int) (w : World) (ha : a ≤ 16384) (hb : b ≤ 32) :
    Calls Try.prog 37 #[.agg (List.toArray [.int .i64 sz, .int .i64 (a : Nat), .int .i64 H, .bool top, .int .i64 (b : Nat), .int .i64 mt, .int .i64 co, .int .i64 k0, .int .i64 k1, .int .i64 k2, .int .i64 k3, .int .i64 fr, .int .i64 en, .int .i64 0, .int .i64 0])] w fun e w' => e = .returned (.int .i64 (strideN a b : Int)) ∧ Below w.heap.size w w' := by
  have O1 := Lib.hid (obj1_new w (List.toArray [.int .i64 sz, .int .i64 (a : Nat), .int .i64 H, .bool top, .int .i64 (b : Nat), .int .i64 mt, .int .i64 co, .int .i64 k0, .int .i64 k1, .int .i64 k2, .int .i64 k3, .int .i64 fr, .int .i64 en, .int .i64 0, .int .i64 0]) 31)
  have BL := Lib.hid ((Below.refl w.heap.size w).alloc (Nat.le_refl _) (.cells (List.toArray [.int .i64 sz, .int .i64 (a : Nat), .int .i64 H, .bool top, .int .i64 (b : Nat), .int .i64 mt, .int .i64 co, .int .i64 k0, .int .i64 k1, .int .i64 k2, .int .i64 k3, .int .i64 fr, .int .i64 en, .int .i64 0, .int .i64 0]) 31))
  have hm : a * b ≤ 16384 * 32 := Nat.mul_le_mul ha hb
  obtain ⟨n, hn⟩ : ∃ n, a * b = n := ⟨_, rfl⟩
  have hnI : (a : Int) * (b : Int) = (n : Int) := by rw [← hn]; exact (Int.natCast_mul a b).symm
  have eW : IntKind.i64.wrap ((a : Int) * (b : Int)) = (n : Int) := by rw [hnI]; exact i64_wraps _ (by omega) (by omega)
  obtain ⟨st, hst⟩ : ∃ st : Nat, strideN a b = st := ⟨_, rfl⟩
  have E := Lib.hid (show st = (n + 31) / 32 * 32 / 8 by rw [← hst]; unfold strideN; rw [hn])
  rw [hst]
  clear hst
  rw [hn] at hm
  clear hn ha hb
  go_enter Try.func37, Try.ntmps37
  go_upto_region 1 with (fail)
  generalize World.alloc _ _ = w1 at O1 BL ⊢
  have c1 : w1.cell? ⟨w.heap.size, 1, none⟩ = some (.int .i64 (a : Nat)) := (O1.out.cell 1).trans rfl
  have c4 : w1.cell? ⟨w.heap.size, 4, none⟩ = some (.int .i64 (b : Nat)) := (O1.out.cell 4).trans rfl
  go_wp2_with fail
  go_loop [3] (fun v => ∃ k : Nat, n ≤ k ∧ k ≤ (n + 31) / 32 * 32 ∧ v = .int .i64 k) (fun v => (n + 31) / 32 * 32 - (intOf v).toNat)
  case atStart => exact ⟨n, by omega, by omega, by first | rfl | rw [hnI]⟩
  case round =>
    obtain ⟨k, hk0, hk1, rfl⟩ := hrel
    have eT : ((k : Int) % 32) = ((k % 32 : Nat) : Int) := rfl
    by_cases hz : k % 32 = 0
    · have D : ((k : Int) % 32 != 0) = false := by rw [eT, hz]; rfl
      have eQ : ((k : Int) / 8) = (st : Int) := by
        rw [E.out, show k = (n + 31) / 32 * 32 by omega]; rfl
      clear hz eT
      go_wp2_with fail
      go_ret
      exact ⟨rfl, BL.out⟩
    · have D : ((k : Int) % 32 != 0) = true := by rw [eT]; simp; omega
      have eW2 : IntKind.i64.wrap ((k : Int) + 1) = ((k + 1 : Nat) : Int) := by rw [show (k : Int) + 1 = ((k + 1 : Nat) : Int) by omega]; exact i64_wraps _ (by omega) (by omega)
      have hk2 : k + 1 ≤ (n + 31) / 32 * 32 := by omega
      clear hz eT
      go_wp2_with fail
      go_round
      case rel => exact ⟨k + 1, by omega, hk2, by first | rfl | go_num⟩
      case measure => simp [intOf]; omega
set_option maxRecDepth 100000 in
set_option maxHeartbeats 8000000 in
theorem same20_yes (sz W H : Int) (top : Bool) (dp mt co k0 k1 k2 k3 k4 k5 k6 k7 fr r g b q en : Int) (h0 : wordI k0 k1 = r) (h1 : wordI k2 k3 = g) (h2 : wordI k4 k5 = b) (h3 : wordI k6 k7 = q) (w : World) :
    Calls Try.prog 34 #[.agg (List.toArray [.int .i64 sz, .int .i64 W, .int .i64 H, .bool top, .int .i64 dp, .int .i64 mt, .int .i64 co, .int .i64 k0, .int .i64 k1, .int .i64 k2, .int .i64 k3, .int .i64 k4, .int .i64 k5, .int .i64 k6, .int .i64 k7, .int .i64 fr]), .agg (List.toArray [.int .i64 sz, .int .i64 W, .int .i64 H, .bool top, .int .i64 dp, .int .i64 mt, .int .i64 co, .int .i64 r, .int .i64 g, .int .i64 b, .int .i64 q, .int .i64 fr, .int .i64 en, .int .i64 0, .int .i64 0])] w (Yes20 w) := by
  have M0 := Lib.hid (fun w0 => h0 ▸ mword_any k0 k1 w0)
  have M1 := Lib.hid (fun w0 => h1 ▸ mword_any k2 k3 w0)
  have M2 := Lib.hid (fun w0 => h2 ▸ mword_any k4 k5 w0)
  have M3 := Lib.hid (fun w0 => h3 ▸ mword_any k6 k7 w0)
  have O2 := Lib.hid ((obj1_new w (List.toArray [.int .i64 sz, .int .i64 W, .int .i64 H, .bool top, .int .i64 dp, .int .i64 mt, .int .i64 co, .int .i64 k0, .int .i64 k1, .int .i64 k2, .int .i64 k3, .int .i64 k4, .int .i64 k5, .int .i64 k6, .int .i64 k7, .int .i64 fr]) 61).alloc (.cells (List.toArray [.int .i64 sz, .int .i64 W, .int .i64 H, .bool top, .int .i64 dp, .int .i64 mt, .int .i64 co, .int .i64 r, .int .i64 g, .int .i64 b, .int .i64 q, .int .i64 fr, .int .i64 en, .int .i64 0, .int .i64 0]) 31))
  have O3 := Lib.hid (obj1_new (w.alloc (.cells (List.toArray [.int .i64 sz, .int .i64 W, .int .i64 H, .bool top, .int .i64 dp, .int .i64 mt, .int .i64 co, .int .i64 k0, .int .i64 k1, .int .i64 k2, .int .i64 k3, .int .i64 k4, .int .i64 k5, .int .i64 k6, .int .i64 k7, .int .i64 fr]) 61)) (List.toArray [.int .i64 sz, .int .i64 W, .int .i64 H, .bool top, .int .i64 dp, .int .i64 mt, .int .i64 co, .int .i64 r, .int .i64 g, .int .i64 b, .int .i64 q, .int .i64 fr, .int .i64 en, .int .i64 0, .int .i64 0]) 31)
  rw [show (w.alloc (.cells (List.toArray [.int .i64 sz, .int .i64 W, .int .i64 H, .bool top, .int .i64 dp, .int .i64 mt, .int .i64 co, .int .i64 k0, .int .i64 k1, .int .i64 k2, .int .i64 k3, .int .i64 k4, .int .i64 k5, .int .i64 k6, .int .i64 k7, .int .i64 fr]) 61)).heap.size = w.heap.size + 1 by simp] at O3
  have BL := Lib.hid (((Below.refl w.heap.size w).alloc (Nat.le_refl _) (.cells (List.toArray [.int .i64 sz, .int .i64 W, .int .i64 H, .bool top, .int .i64 dp, .int .i64 mt, .int .i64 co, .int .i64 k0, .int .i64 k1, .int .i64 k2, .int .i64 k3, .int .i64 k4, .int .i64 k5, .int .i64 k6, .int .i64 k7, .int .i64 fr]) 61)).alloc (by simp) (.cells (List.toArray [.int .i64 sz, .int .i64 W, .int .i64 H, .bool top, .int .i64 dp, .int .i64 mt, .int .i64 co, .int .i64 r, .int .i64 g, .int .i64 b, .int .i64 q, .int .i64 fr, .int .i64 en, .int .i64 0, .int .i64 0]) 31))
  clear h0 h1 h2 h3
  go_enter Try.func34, Try.ntmps34
  go_upto_region 1 with (fail)
  generalize World.alloc _ _ = w1 at O2 O3 BL ⊢
  obtain ⟨d, hd⟩ : ∃ d, w.heap.size = d := ⟨_, rfl⟩
  rw [hd] at O2 O3 ⊢
  refine wp_region_noPanic ?_
  refine wp_region_held_drew (S := fun w' => w'.rangeAt d 0 [.int .i64 sz, .int .i64 W, .int .i64 H, .bool top, .int .i64 dp, .int .i64 mt, .int .i64 co, .int .i64 k0, .int .i64 k1, .int .i64 k2, .int .i64 k3, .int .i64 k4, .int .i64 k5, .int .i64 k6, .int .i64 k7, .int .i64 fr] ∧ w'.rangeAt (d + 1) 0 [.int .i64 sz, .int .i64 W, .int .i64 H, .bool top, .int .i64 dp, .int .i64 mt, .int .i64 co, .int .i64 r, .int .i64 g, .int .i64 b, .int .i64 q, .int .i64 fr, .int .i64 en, .int .i64 0, .int .i64 0]) (by kernel_rfl) ⟨O2.out.range0, O3.out.range0⟩ (fun hHeld => ?_)
  refine wpAnyH_take (i := 0) (v := .pointer (some ⟨d, 7, none⟩)) rfl (by kernel_rfl) (by kernel_rfl) (by kernel_rfl) (fun _ _ _ h => h) (Or.inl ⟨by rfl, fun w hS => by go_simp⟩) hHeld ?_
  simp only [Act.put, List.setIfInBounds_toArray, List.set_cons_zero, List.set_cons_succ, List.getElem_toArray, List.getElem_cons_zero, List.getElem_cons_succ]
  refine wpAnyH_take (i := 1) (v := .pointer (some ⟨d, 7, none⟩)) rfl (by kernel_rfl) (by kernel_rfl) (by kernel_rfl) (fun _ _ _ h => h) (Or.inl ⟨by rfl, fun w hS => by go_simp⟩) hHeld ?_
  simp only [Act.put, List.setIfInBounds_toArray, List.set_cons_zero, List.set_cons_succ, List.getElem_toArray, List.getElem_cons_zero, List.getElem_cons_succ]
  refine wpAnyH_take (i := 2) rfl (by kernel_rfl) (by kernel_rfl) (by kernel_rfl) (fun _ _ _ h => h) (yieldsIf_load_mid (by rfl) 57 _ rfl (d) 7 rfl [.int .i64 k0, .int .i64 k1] _ (fun _ h => (fun i v hv => (show _ = some v by have := h.1 (7 + i) v; match i, hv with | 0, hv => exact this hv | 1, hv => exact this hv))) Try.underlying57 rfl (by kernel_rfl)) hHeld ?_
  simp only [Act.put, List.setIfInBounds_toArray, List.set_cons_zero, List.set_cons_succ, List.getElem_toArray, List.getElem_cons_zero, List.getElem_cons_succ]
  refine wpAnyH_take (i := 4) (v := .pointer (some ⟨d, 7, none⟩)) rfl (by kernel_rfl) (by kernel_rfl) (by kernel_rfl) (fun _ _ _ h => h) (Or.inl ⟨by rfl, fun w hS => by go_simp⟩) hHeld ?_
  simp only [Act.put, List.setIfInBounds_toArray, List.set_cons_zero, List.set_cons_succ, List.getElem_toArray, List.getElem_cons_zero, List.getElem_cons_succ]
  refine wpAnyH_take (i := 5) (v := .pointer (some ⟨d, 9, none⟩)) rfl (by kernel_rfl) (by kernel_rfl) (by kernel_rfl) (fun _ _ _ h => h) (Or.inl ⟨by rfl, fun w hS => by go_simp⟩) hHeld ?_
  simp only [Act.put, List.setIfInBounds_toArray, List.set_cons_zero, List.set_cons_succ, List.getElem_toArray, List.getElem_cons_zero, List.getElem_cons_succ]
  refine wpAnyH_take (i := 6) rfl (by kernel_rfl) (by kernel_rfl) (by kernel_rfl) (fun _ _ _ h => h) (yieldsIf_load_mid (by rfl) 57 _ rfl (d) 9 rfl [.int .i64 k2, .int .i64 k3] _ (fun _ h => (fun i v hv => (show _ = some v by have := h.1 (9 + i) v; match i, hv with | 0, hv => exact this hv | 1, hv => exact this hv))) Try.underlying57 rfl (by kernel_rfl)) hHeld ?_
  simp only [Act.put, List.setIfInBounds_toArray, List.set_cons_zero, List.set_cons_succ, List.getElem_toArray, List.getElem_cons_zero, List.getElem_cons_succ]
  refine wpAnyH_take (i := 8) (v := .pointer (some ⟨d, 7, none⟩)) rfl (by kernel_rfl) (by kernel_rfl) (by kernel_rfl) (fun _ _ _ h => h) (Or.inl ⟨by rfl, fun w hS => by go_simp⟩) hHeld ?_
  simp only [Act.put, List.setIfInBounds_toArray, List.set_cons_zero, List.set_cons_succ, List.getElem_toArray, List.getElem_cons_zero, List.getElem_cons_succ]
  refine wpAnyH_take (i := 9) (v := .pointer (some ⟨d, 11, none⟩)) rfl (by kernel_rfl) (by kernel_rfl) (by kernel_rfl) (fun _ _ _ h => h) (Or.inl ⟨by rfl, fun w hS => by go_simp⟩) hHeld ?_
  simp only [Act.put, List.setIfInBounds_toArray, List.set_cons_zero, List.set_cons_succ, List.getElem_toArray, List.getElem_cons_zero, List.getElem_cons_succ]
  refine wpAnyH_take (i := 10) rfl (by kernel_rfl) (by kernel_rfl) (by kernel_rfl) (fun _ _ _ h => h) (yieldsIf_load_mid (by rfl) 57 _ rfl (d) 11 rfl [.int .i64 k4, .int .i64 k5] _ (fun _ h => (fun i v hv => (show _ = some v by have := h.1 (11 + i) v; match i, hv with | 0, hv => exact this hv | 1, hv => exact this hv))) Try.underlying57 rfl (by kernel_rfl)) hHeld ?_
  simp only [Act.put, List.setIfInBounds_toArray, List.set_cons_zero, List.set_cons_succ, List.getElem_toArray, List.getElem_cons_zero, List.getElem_cons_succ]
  refine wpAnyH_take (i := 12) (v := .pointer (some ⟨d, 7, none⟩)) rfl (by kernel_rfl) (by kernel_rfl) (by kernel_rfl) (fun _ _ _ h => h) (Or.inl ⟨by rfl, fun w hS => by go_simp⟩) hHeld ?_
  simp only [Act.put, List.setIfInBounds_toArray, List.set_cons_zero, List.set_cons_succ, List.getElem_toArray, List.getElem_cons_zero, List.getElem_cons_succ]
  refine wpAnyH_take (i := 13) (v := .pointer (some ⟨d, 13, none⟩)) rfl (by kernel_rfl) (by kernel_rfl) (by kernel_rfl) (fun _ _ _ h => h) (Or.inl ⟨by rfl, fun w hS => by go_simp⟩) hHeld ?_
  simp only [Act.put, List.setIfInBounds_toArray, List.set_cons_zero, List.set_cons_succ, List.getElem_toArray, List.getElem_cons_zero, List.getElem_cons_succ]
  refine wpAnyH_take (i := 14) rfl (by kernel_rfl) (by kernel_rfl) (by kernel_rfl) (fun _ _ _ h => h) (yieldsIf_load_mid (by rfl) 57 _ rfl (d) 13 rfl [.int .i64 k6, .int .i64 k7] _ (fun _ h => (fun i v hv => (show _ = some v by have := h.1 (13 + i) v; match i, hv with | 0, hv => exact this hv | 1, hv => exact this hv))) Try.underlying57 rfl (by kernel_rfl)) hHeld ?_
  simp only [Act.put, List.setIfInBounds_toArray, List.set_cons_zero, List.set_cons_succ, List.getElem_toArray, List.getElem_cons_zero, List.getElem_cons_succ]
  have O2 := Lib.hid (O2.out.drew)
  have O3 := Lib.hid (O3.out.drew)
  have BL := Lib.hid BL.out.drew
  generalize World.drew _ = wk at O2 O3 BL ⊢
  refine wpAnyH_ready (rs := [3]) (by kernel_rfl) (by simp) ?_
  refine AllReadyH.cons (o := _) rfl (fun K' hK => ?_) AllReadyH.nil
  go_simp
  refine (M0.out _).mono ?_
  rintro x w3 ⟨rfl, hb⟩
  have O2 := Lib.hid (O2.out.below hb O2.out.lt)
  have O3 := Lib.hid (O3.out.below hb O3.out.lt)
  have BL := Lib.hid (bthen hb BL.out BL.out.size)
  clear hb
  go_wp2_with fail
  refine hK _ _ ⟨O2.out.range0, O3.out.range0⟩ (fun hC1 => ?_)
  clear hK K'
  try simp only [Act.put, List.setIfInBounds_toArray, List.set_cons_zero, List.set_cons_succ, List.getElem_toArray, List.getElem_cons_zero, List.getElem_cons_succ]
  refine wpAnyH_ready (rs := [7]) (by kernel_rfl) (by simp) ?_
  refine AllReadyH.cons (o := _) rfl (fun K' hK => ?_) AllReadyH.nil
  go_simp
  refine (M1.out _).mono ?_
  rintro x w4 ⟨rfl, hb⟩
  have O2 := Lib.hid (O2.out.below hb O2.out.lt)
  have O3 := Lib.hid (O3.out.below hb O3.out.lt)
  have BL := Lib.hid (bthen hb BL.out BL.out.size)
  clear hb
  go_wp2_with fail
  refine hK _ _ ⟨O2.out.range0, O3.out.range0⟩ (fun hC2 => ?_)
  clear hK K'
  try simp only [Act.put, List.setIfInBounds_toArray, List.set_cons_zero, List.set_cons_succ, List.getElem_toArray, List.getElem_cons_zero, List.getElem_cons_succ]
  refine wpAnyH_ready (rs := [11]) (by kernel_rfl) (by simp) ?_
  refine AllReadyH.cons (o := _) rfl (fun K' hK => ?_) AllReadyH.nil
  go_simp
  refine (M2.out _).mono ?_
  rintro x w5 ⟨rfl, hb⟩
  have O2 := Lib.hid (O2.out.below hb O2.out.lt)
  have O3 := Lib.hid (O3.out.below hb O3.out.lt)
  have BL := Lib.hid (bthen hb BL.out BL.out.size)
  clear hb
  go_wp2_with fail
  refine hK _ _ ⟨O2.out.range0, O3.out.range0⟩ (fun hC3 => ?_)
  clear hK K'
  try simp only [Act.put, List.setIfInBounds_toArray, List.set_cons_zero, List.set_cons_succ, List.getElem_toArray, List.getElem_cons_zero, List.getElem_cons_succ]
  refine wpAnyH_ready (rs := [15]) (by kernel_rfl) (by simp) ?_
  refine AllReadyH.cons (o := _) rfl (fun K' hK => ?_) AllReadyH.nil
  go_simp
  refine (M3.out _).mono ?_
  rintro x w6 ⟨rfl, hb⟩
  have O2 := Lib.hid (O2.out.below hb O2.out.lt)
  have O3 := Lib.hid (O3.out.below hb O3.out.lt)
  have BL := Lib.hid (bthen hb BL.out BL.out.size)
  clear hb
  go_wp2_with fail
  refine hK _ _ ⟨O2.out.range0, O3.out.range0⟩ (fun hC4 => ?_)
  clear hK K'
  try simp only [Act.put, List.setIfInBounds_toArray, List.set_cons_zero, List.set_cons_succ, List.getElem_toArray, List.getElem_cons_zero, List.getElem_cons_succ]
  refine wpAnyH_take (i := 16) (v := .int .i64 r) rfl (by kernel_rfl) (by kernel_rfl) (by kernel_rfl) (fun _ _ _ h => h) (Or.inl ⟨by rfl, fun w hS => by go_simp⟩) hC4 ?_
  simp only [Act.put, List.setIfInBounds_toArray, List.set_cons_zero, List.set_cons_succ, List.getElem_toArray, List.getElem_cons_zero, List.getElem_cons_succ]
  refine wpAnyH_take (i := 17) (v := .int .i64 g) rfl (by kernel_rfl) (by kernel_rfl) (by kernel_rfl) (fun _ _ _ h => h) (Or.inl ⟨by rfl, fun w hS => by go_simp⟩) hC4 ?_
  simp only [Act.put, List.setIfInBounds_toArray, List.set_cons_zero, List.set_cons_succ, List.getElem_toArray, List.getElem_cons_zero, List.getElem_cons_succ]
  refine wpAnyH_take (i := 18) (v := .int .i64 b) rfl (by kernel_rfl) (by kernel_rfl) (by kernel_rfl) (fun _ _ _ h => h) (Or.inl ⟨by rfl, fun w hS => by go_simp⟩) hC4 ?_
  simp only [Act.put, List.setIfInBounds_toArray, List.set_cons_zero, List.set_cons_succ, List.getElem_toArray, List.getElem_cons_zero, List.getElem_cons_succ]
  refine wpAnyH_take (i := 19) (v := .int .i64 q) rfl (by kernel_rfl) (by kernel_rfl) (by kernel_rfl) (fun _ _ _ h => h) (Or.inl ⟨by rfl, fun w hS => by go_simp⟩) hC4 ?_
  simp only [Act.put, List.setIfInBounds_toArray, List.set_cons_zero, List.set_cons_succ, List.getElem_toArray, List.getElem_cons_zero, List.getElem_cons_succ]
  refine wpAnyH_done (by kernel_rfl) ?_ _
  refine NoPanic.normal ?_
  have a0 : w6.cell? ⟨d, 0, none⟩ = some (.int .i64 sz) := (O2.out.cell 0).trans rfl
  have a1 : w6.cell? ⟨d, 1, none⟩ = some (.int .i64 W) := (O2.out.cell 1).trans rfl
  have a2 : w6.cell? ⟨d, 2, none⟩ = some (.int .i64 H) := (O2.out.cell 2).trans rfl
  have a3 : w6.cell? ⟨d, 3, none⟩ = some (.bool top) := (O2.out.cell 3).trans rfl
  have a4 : w6.cell? ⟨d, 4, none⟩ = some (.int .i64 dp) := (O2.out.cell 4).trans rfl
  have a5 : w6.cell? ⟨d, 5, none⟩ = some (.int .i64 mt) := (O2.out.cell 5).trans rfl
  have a6 : w6.cell? ⟨d, 6, none⟩ = some (.int .i64 co) := (O2.out.cell 6).trans rfl
  have a15 : w6.cell? ⟨d, 15, none⟩ = some (.int .i64 fr) := (O2.out.cell 15).trans rfl
  have b0 : w6.cell? ⟨d + 1, 0, none⟩ = some (.int .i64 sz) := (O3.out.cell 0).trans rfl
  have b1 : w6.cell? ⟨d + 1, 1, none⟩ = some (.int .i64 W) := (O3.out.cell 1).trans rfl
  have b2 : w6.cell? ⟨d + 1, 2, none⟩ = some (.int .i64 H) := (O3.out.cell 2).trans rfl
  have b3 : w6.cell? ⟨d + 1, 3, none⟩ = some (.bool top) := (O3.out.cell 3).trans rfl
  have b4 : w6.cell? ⟨d + 1, 4, none⟩ = some (.int .i64 dp) := (O3.out.cell 4).trans rfl
  have b5 : w6.cell? ⟨d + 1, 5, none⟩ = some (.int .i64 mt) := (O3.out.cell 5).trans rfl
  have b6 : w6.cell? ⟨d + 1, 6, none⟩ = some (.int .i64 co) := (O3.out.cell 6).trans rfl
  have b7 : w6.cell? ⟨d + 1, 7, none⟩ = some (.int .i64 r) := (O3.out.cell 7).trans rfl
  have b8 : w6.cell? ⟨d + 1, 8, none⟩ = some (.int .i64 g) := (O3.out.cell 8).trans rfl
  have b9 : w6.cell? ⟨d + 1, 9, none⟩ = some (.int .i64 b) := (O3.out.cell 9).trans rfl
  have b10 : w6.cell? ⟨d + 1, 10, none⟩ = some (.int .i64 q) := (O3.out.cell 10).trans rfl
  have b11 : w6.cell? ⟨d + 1, 11, none⟩ = some (.int .i64 fr) := (O3.out.cell 11).trans rfl
  go_wp2_with fail
  go_ret
  exact ⟨rfl, BL.out⟩
end Go.Proofs.Ytlhcjnjajkfahaa

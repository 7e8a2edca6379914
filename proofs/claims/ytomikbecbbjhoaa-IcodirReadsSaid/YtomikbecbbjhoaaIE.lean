/- IcodirGets, walked. -/
import Derived.Test.YtomikbecbbjhoaaID
import Derived.Test.YtomikbecbbjhoaaN4
namespace Go.Proofs.Ytomikbecbbjhoaa
open Go.RowKit
set_option linter.unusedVariables false
set_option linter.unusedSimpArgs false
def Yes24 (w : World) (e : Ending) (w' : World) : Prop := e = .returned (.bool true) ∧ Below w.heap.size w w'
set_option maxRecDepth 100000 in
set_option maxHeartbeats 8000000 in
theorem igets_law (s : ByteArray) (i : Int) (hs : s.size ≤ maxLen) (hi : (Lit.int .i64 i).wf = true) (w : World) : Calls Try.prog 10 #[.string s, .int .i64 i] w (Yes24 w) := by
  unfold maxLen at hs
  by_cases h1 : 600 < s.size
  · have D1 : decide ((s.size : Int) > 600) = true := by rw [decide_eq_true_iff]; omega
    go_enter Try.func10, Try.ntmps10
    go_wp2_with (go_at_call 37; (with_reducible refine (awake24 _).mono ?_); rintro e w1 ⟨rfl, hb⟩)
    go_ret
    exact ⟨rfl, hb⟩
  have D1 : decide ((s.size : Int) > 600) = false := by rw [decide_eq_false_iff_not]; omega
  have HIS := Lib.hid (fun w0 => iis_any s w0 (by omega))
  obtain ⟨IS, hIS⟩ : ∃ b, isIco s = b := ⟨_, rfl⟩
  rw [hIS] at HIS
  have HC := Lib.hid (show ((i < 0 ∨ (s.size : Int) < 22 + 16 * i) ∧ (i < 0 ∨ (0 ≤ i ∧ i > 100) ∨ (0 ≤ i ∧ i ≤ 100 ∧ (s.size : Int) < 22 + 16 * i))) ∨ (∃ n : Nat, i = n ∧ n ≤ 100 ∧ 22 + 16 * n ≤ s.size) by
    by_cases hn : i < 0
    · exact Or.inl ⟨Or.inl hn, Or.inl hn⟩
    by_cases h2 : i > 100
    · exact Or.inl ⟨Or.inr (by omega), Or.inr (Or.inl ⟨by omega, h2⟩)⟩
    by_cases h3 : (s.size : Int) < 22 + 16 * i
    · exact Or.inl ⟨Or.inr h3, Or.inr (Or.inr ⟨by omega, by omega, h3⟩)⟩
    · exact Or.inr ⟨i.toNat, by omega, by omega, by omega⟩)
  have hs6 : s.size ≤ 600 := by omega
  clear hi
  have HSZ := Lib.hid hs6
  go_enter Try.func10, Try.ntmps10
  go_upto_region 3 with (fail)
  go_cut [5] from 12 to 54 (fun c wx => wx = w ∧ c = .bool IS)
  case first =>
    clear HC HIS
    by_cases h : 10 ≤ s.size
    rotate_left
    · have D0 : decide ((s.size : Int) ≥ 10) = false := by rw [decide_eq_false_iff_not]; omega
      have E := Lib.hid (show IS = false by rw [← hIS]; unfold isIco; rw [decide_eq_false h]; rfl)
      go_wp2_with ((with_reducible refine skip_g rfl ?_ ?_); rfl; intro _)
      go_meet
      exact ⟨rfl, by rw [E.out]⟩
    have D0 : decide ((s.size : Int) ≥ 10) = true := by rw [decide_eq_true_iff]; omega
    have i0 : 0 < s.size := by omega
    have i1 : 1 < s.size := by omega
    have i2 : 2 < s.size := by omega
    have i3 : 3 < s.size := by omega
    have i4 : 4 < s.size := by omega
    have i5 : 5 < s.size := by omega
    have i9 : 9 < s.size := by omega
    have E0 := isIco_eq s h
    rw [hIS] at E0
    have g0 := byN_get s 0 i0
    obtain ⟨x0, hx0⟩ : ∃ x, byN s 0 = x := ⟨_, rfl⟩
    rw [hx0] at g0 E0
    have g1 := byN_get s 1 i1
    obtain ⟨x1, hx1⟩ : ∃ x, byN s 1 = x := ⟨_, rfl⟩
    rw [hx1] at g1 E0
    have g2 := byN_get s 2 i2
    obtain ⟨x2, hx2⟩ : ∃ x, byN s 2 = x := ⟨_, rfl⟩
    rw [hx2] at g2 E0
    have g3 := byN_get s 3 i3
    obtain ⟨x3, hx3⟩ : ∃ x, byN s 3 = x := ⟨_, rfl⟩
    rw [hx3] at g3 E0
    have g4 := byN_get s 4 i4
    obtain ⟨x4, hx4⟩ : ∃ x, byN s 4 = x := ⟨_, rfl⟩
    rw [hx4] at g4 E0
    have g5 := byN_get s 5 i5
    obtain ⟨x5, hx5⟩ : ∃ x, byN s 5 = x := ⟨_, rfl⟩
    rw [hx5] at g5 E0
    have g9 := byN_get s 9 i9
    obtain ⟨x9, hx9⟩ : ∃ x, byN s 9 = x := ⟨_, rfl⟩
    rw [hx9] at g9 E0
    obtain ⟨z0, ez0⟩ : ∃ b, (x0 == 0) = b := ⟨_, rfl⟩
    rw [ez0] at E0
    obtain ⟨z1, ez1⟩ : ∃ b, (x1 == 0) = b := ⟨_, rfl⟩
    rw [ez1] at E0
    obtain ⟨k1, ek1⟩ : ∃ b, (x2 == 1) = b := ⟨_, rfl⟩
    rw [ek1] at E0
    obtain ⟨k2, ek2⟩ : ∃ b, (x2 == 2) = b := ⟨_, rfl⟩
    rw [ek2] at E0
    obtain ⟨z3, ez3⟩ : ∃ b, (x3 == 0) = b := ⟨_, rfl⟩
    rw [ez3] at E0
    obtain ⟨n4, en4⟩ : ∃ b, (x4 != 0) = b := ⟨_, rfl⟩
    rw [en4] at E0
    obtain ⟨n5, en5⟩ : ∃ b, (x5 != 0) = b := ⟨_, rfl⟩
    rw [en5] at E0
    obtain ⟨z9, ez9⟩ : ∃ b, (x9 == 0) = b := ⟨_, rfl⟩
    rw [ez9] at E0
    have E := Lib.hid E0
    clear E0 h hIS hx0 hx1 hx2 hx3 hx4 hx5 hx9
    cases z0
    · skip
      go_wp2_with ((with_reducible refine skip_g rfl ?_ ?_); rfl; intro _)
      go_meet
      exact ⟨rfl, by rw [E.out]; first | rfl | simp⟩
    cases z1
    · skip
      go_wp2_with ((with_reducible refine skip_g rfl ?_ ?_); rfl; intro _)
      go_meet
      exact ⟨rfl, by rw [E.out]; first | rfl | simp⟩
    cases k1 <;> cases k2 <;> cases z3 <;> cases n4 <;> cases n5
    all_goals go_wp2_with ((with_reducible refine skip_g rfl ?_ ?_); rfl; intro _)
    all_goals go_meet
    all_goals exact ⟨rfl, by rw [E.out]; first | rfl | simp⟩
  case rest =>
    obtain ⟨rfl, rfl⟩ := hcut
    have O6 := fun w0 => obj1_new w0 #[.int .i64 0, .int .i64 0, .int .i64 0, .int .i64 0, .int .i64 0, .int .i64 0] 59
    go_upto_region 6 with ((go_at_call 41; (with_reducible refine (HIS.out _).mono ?_); rintro e w2 ⟨rfl, rfl⟩))
    rcases HC.out with ⟨hno, hcs⟩ | ⟨n, rfl, hn, hsz⟩
    · have HG := Lib.hid (fun w0 => iget_no s i w0 hno (by omega))
      clear HC HIS hno hIS h1 D1 hs
      rcases hcs with hcs | ⟨h0, hcs⟩ | ⟨h0, h100, hcs⟩
      · skip
        have D1 : decide (i < 0) = true := by rw [decide_eq_true_iff]; exact hcs
        clear hcs
        go_wp2_with (first
          | ((go_at_call 42; (with_reducible refine (HG.out _).mono ?_); rintro e w3 ⟨rfl, hb⟩); have hb3 := hb.size; have O6 := Lib.hid (obj1_new w3 #[.int .i64 0, .int .i64 0, .int .i64 0, .int .i64 0, .int .i64 0, .int .i64 0] 59); have HB := Lib.hid (hb.alloc hb.size (.cells #[.int .i64 0, .int .i64 0, .int .i64 0, .int .i64 0, .int .i64 0, .int .i64 0] 59)); clear hb)
          | (refine store_o rfl 59 6 _ _ rfl w3.heap.size [.int .i64 0, .int .i64 0, .int .i64 0, .int .i64 0, .int .i64 0, .int .i64 0] rfl rfl (by kernel_rfl) (by kernel_rfl) (by kernel_rfl) O6.out (by first | rfl | simp) ?_; intro ws hst hO; have O6 := Lib.hid hO; have HB := Lib.hid (hst.below HB.out (by omega)); clear hst hO)
          | ((with_reducible refine skip_g rfl ?_ ?_); rfl; intro _)
          | (refine load_u (by kernel_rfl) 59 6 _ rfl w3.heap.size [.int .i64 0, .int .i64 0, .int .i64 0, .int .i64 0, .int .i64 0, .int .i64 0] rfl rfl O6.out Try.underlying59 rfl (by kernel_rfl) ?_; intro _)
          | ((go_at_call 37; (with_reducible refine (awake24 _).mono ?_); rintro e w9 ⟨rfl, hb⟩); have HB := Lib.hid (bthen hb HB.out (by have := HB.out.size; omega)); clear hb))
        go_ret
        exact ⟨rfl, HB.out⟩
      · skip
        have D1 : decide (i < 0) = false := by rw [decide_eq_false_iff_not]; omega
        have D2 : decide (i > 100) = true := by rw [decide_eq_true_iff]; exact hcs
        clear h0
        clear hcs
        go_wp2_with (first
          | ((go_at_call 42; (with_reducible refine (HG.out _).mono ?_); rintro e w3 ⟨rfl, hb⟩); have hb3 := hb.size; have O6 := Lib.hid (obj1_new w3 #[.int .i64 0, .int .i64 0, .int .i64 0, .int .i64 0, .int .i64 0, .int .i64 0] 59); have HB := Lib.hid (hb.alloc hb.size (.cells #[.int .i64 0, .int .i64 0, .int .i64 0, .int .i64 0, .int .i64 0, .int .i64 0] 59)); clear hb)
          | (refine store_o rfl 59 6 _ _ rfl w3.heap.size [.int .i64 0, .int .i64 0, .int .i64 0, .int .i64 0, .int .i64 0, .int .i64 0] rfl rfl (by kernel_rfl) (by kernel_rfl) (by kernel_rfl) O6.out (by first | rfl | simp) ?_; intro ws hst hO; have O6 := Lib.hid hO; have HB := Lib.hid (hst.below HB.out (by omega)); clear hst hO)
          | ((with_reducible refine skip_g rfl ?_ ?_); rfl; intro _)
          | (refine load_u (by kernel_rfl) 59 6 _ rfl w3.heap.size [.int .i64 0, .int .i64 0, .int .i64 0, .int .i64 0, .int .i64 0, .int .i64 0] rfl rfl O6.out Try.underlying59 rfl (by kernel_rfl) ?_; intro _)
          | ((go_at_call 37; (with_reducible refine (awake24 _).mono ?_); rintro e w9 ⟨rfl, hb⟩); have HB := Lib.hid (bthen hb HB.out (by have := HB.out.size; omega)); clear hb))
        go_ret
        exact ⟨rfl, HB.out⟩
      · skip
        have D1 : decide (i < 0) = false := by rw [decide_eq_false_iff_not]; omega
        have D2 : decide (i > 100) = false := by rw [decide_eq_false_iff_not]; omega
        have eW1 : IntKind.i64.wrap (16 * i) = 16 * i := i64_wraps _ (by omega) (by omega)
        have eW2 : IntKind.i64.wrap (22 + 16 * i) = 22 + 16 * i := i64_wraps _ (by omega) (by omega)
        have D3 : decide ((s.size : Int) < 22 + 16 * i) = true := by rw [decide_eq_true_iff]; exact hcs
        clear h0 h100
        clear hcs
        go_wp2_with (first
          | ((go_at_call 42; (with_reducible refine (HG.out _).mono ?_); rintro e w3 ⟨rfl, hb⟩); have hb3 := hb.size; have O6 := Lib.hid (obj1_new w3 #[.int .i64 0, .int .i64 0, .int .i64 0, .int .i64 0, .int .i64 0, .int .i64 0] 59); have HB := Lib.hid (hb.alloc hb.size (.cells #[.int .i64 0, .int .i64 0, .int .i64 0, .int .i64 0, .int .i64 0, .int .i64 0] 59)); clear hb)
          | (refine store_o rfl 59 6 _ _ rfl w3.heap.size [.int .i64 0, .int .i64 0, .int .i64 0, .int .i64 0, .int .i64 0, .int .i64 0] rfl rfl (by kernel_rfl) (by kernel_rfl) (by kernel_rfl) O6.out (by first | rfl | simp) ?_; intro ws hst hO; have O6 := Lib.hid hO; have HB := Lib.hid (hst.below HB.out (by omega)); clear hst hO)
          | ((with_reducible refine skip_g rfl ?_ ?_); rfl; intro _)
          | (refine load_u (by kernel_rfl) 59 6 _ rfl w3.heap.size [.int .i64 0, .int .i64 0, .int .i64 0, .int .i64 0, .int .i64 0, .int .i64 0] rfl rfl O6.out Try.underlying59 rfl (by kernel_rfl) ?_; intro _)
          | ((go_at_call 37; (with_reducible refine (awake24 _).mono ?_); rintro e w9 ⟨rfl, hb⟩); have HB := Lib.hid (bthen hb HB.out (by have := HB.out.size; omega)); clear hb))
        go_ret
        exact ⟨rfl, HB.out⟩
    · obtain ⟨e, he⟩ : ∃ e, entE s (6 + 16 * n) = e := ⟨_, rfl⟩
      have HG := Lib.hid (fun w0 => (show Calls Try.prog 42 #[.string s, .int .i64 n] w0 (GetPost w0 [.int .i64 e.W, .int .i64 e.H, .int .i64 e.A, .int .i64 e.B, .int .i64 e.Z, .int .i64 e.P] true) from (iget_yes s n w0 hsz (by omega)).mono fun x w' hh => ⟨hh.1.trans (by rw [entL_cells, he]; rfl), hh.2⟩))
      have HR := Lib.hid (fun w0 => (show Calls Try.prog 43 #[.string s, .int .i64 n] w0 (RA w0 [.int .i64 e.W, .int .i64 e.H, .int .i64 e.A, .int .i64 e.B, .int .i64 e.Z, .int .i64 e.P]) from (rget_any s n w0 hsz (by omega)).mono fun x w' hh => ⟨hh.1.trans (by rw [entL_cells, he]; rfl), hh.2⟩))
      have HPL := Lib.hid (fun w0 => (show Calls Try.prog 40 #[.agg (List.toArray [.int .i64 e.W, .int .i64 e.H, .int .i64 e.A, .int .i64 e.B, .int .i64 e.Z, .int .i64 e.P])] w0 (RA w0 [.int .i64 e.W, .int .i64 e.H, .int .i64 e.A, .int .i64 e.B, .int .i64 e.Z, .int .i64 e.P]) from plain24_any e w0))
      have D1 : decide ((n : Int) < 0) = false := by rw [decide_eq_false_iff_not]; omega
      have D2 : decide ((n : Int) > 100) = false := by rw [decide_eq_false_iff_not]; omega
      have eW1 : IntKind.i64.wrap (16 * (n : Int)) = 16 * (n : Int) := i64_wraps _ (by omega) (by omega)
      have eW2 : IntKind.i64.wrap (22 + 16 * (n : Int)) = 22 + 16 * (n : Int) := i64_wraps _ (by omega) (by omega)
      have D3 : decide ((s.size : Int) < 22 + 16 * (n : Int)) = false := by rw [decide_eq_false_iff_not]; omega
      clear HC HIS hIS h1 hs he hsz hn
      go_upto_region 9 with (first
        | ((go_at_call 42; (with_reducible refine (HG.out _).mono ?_); rintro e w3 ⟨rfl, hb⟩); have hb3 := hb.size; have O6 := Lib.hid (obj1_new w3 #[.int .i64 0, .int .i64 0, .int .i64 0, .int .i64 0, .int .i64 0, .int .i64 0] 59); have HB := Lib.hid (hb.alloc hb.size (.cells #[.int .i64 0, .int .i64 0, .int .i64 0, .int .i64 0, .int .i64 0, .int .i64 0] 59)); clear hb)
        | (refine store_o rfl 59 6 _ _ rfl w3.heap.size [.int .i64 e.W, .int .i64 e.H, .int .i64 e.A, .int .i64 e.B, .int .i64 e.Z, .int .i64 e.P] rfl rfl (by kernel_rfl) (by kernel_rfl) (by kernel_rfl) O6.out (by first | rfl | simp) ?_; intro ws hst hO; have O6 := Lib.hid hO; have HB := Lib.hid (hst.below HB.out (by omega)); clear hst hO))
      refine wp_region_noPanic ?_
      refine wp_region_held_drew (S := fun w' => w'.rangeAt w3.heap.size 0 [.int .i64 e.W, .int .i64 e.H, .int .i64 e.A, .int .i64 e.B, .int .i64 e.Z, .int .i64 e.P]) (by kernel_rfl) O6.out.range0 (fun hHeld => ?_)
      refine wpAnyH_take (i := 0) (v := .bool true) rfl (by kernel_rfl) (by kernel_rfl) (by kernel_rfl) (fun _ _ _ h => h) (Or.inl ⟨by rfl, fun w hS => by go_simp⟩) hHeld ?_
      simp only [Act.put, List.setIfInBounds_toArray, List.set_cons_zero, List.set_cons_succ, List.getElem_toArray, List.getElem_cons_zero, List.getElem_cons_succ]
      refine wpAnyH_take (i := 1) (v := .bool true) rfl (by kernel_rfl) (by kernel_rfl) (by kernel_rfl) (fun _ _ _ h => h) (Or.inl ⟨by rfl, fun w hS => by go_simp⟩) hHeld ?_
      simp only [Act.put, List.setIfInBounds_toArray, List.set_cons_zero, List.set_cons_succ, List.getElem_toArray, List.getElem_cons_zero, List.getElem_cons_succ]
      refine wpAnyH_take (i := 2) rfl (by kernel_rfl) (by kernel_rfl) (by kernel_rfl) (fun _ _ _ h => h) (yieldsIf_load_mid (by rfl) 59 _ rfl (w3.heap.size) 0 rfl [.int .i64 e.W, .int .i64 e.H, .int .i64 e.A, .int .i64 e.B, .int .i64 e.Z, .int .i64 e.P] _ (fun _ h => h) Try.underlying59 rfl (by kernel_rfl)) hHeld ?_
      simp only [Act.put, List.setIfInBounds_toArray, List.set_cons_zero, List.set_cons_succ, List.getElem_toArray, List.getElem_cons_zero, List.getElem_cons_succ]
      refine wpAnyH_take (i := 3) (v := .string s) rfl (by kernel_rfl) (by kernel_rfl) (by kernel_rfl) (fun _ _ _ h => h) (Or.inl ⟨by rfl, fun w hS => by go_simp⟩) hHeld ?_
      simp only [Act.put, List.setIfInBounds_toArray, List.set_cons_zero, List.set_cons_succ, List.getElem_toArray, List.getElem_cons_zero, List.getElem_cons_succ]
      refine wpAnyH_take (i := 4) (v := .int .i64 n) rfl (by kernel_rfl) (by kernel_rfl) (by kernel_rfl) (fun _ _ _ h => h) (Or.inl ⟨by rfl, fun w hS => by go_simp⟩) hHeld ?_
      simp only [Act.put, List.setIfInBounds_toArray, List.set_cons_zero, List.set_cons_succ, List.getElem_toArray, List.getElem_cons_zero, List.getElem_cons_succ]
      have O6 := Lib.hid (O6.out.drew)
      have HB := Lib.hid HB.out.drew
      generalize World.drew _ = wk at O6 HB ⊢
      refine wpAnyH_ready (rs := [5]) (by kernel_rfl) (by simp) ?_
      refine AllReadyH.cons (o := _) rfl (fun K' hK => ?_) AllReadyH.nil
      go_simp
      refine (HR.out _).mono ?_
      rintro x w5 ⟨rfl, hb⟩
      have O6 := Lib.hid (O6.out.below hb O6.out.lt)
      have HB := Lib.hid (bthen hb HB.out HB.out.size)
      clear hb
      go_wp2_with fail
      refine hK _ _ O6.out.range0 (fun hC1 => ?_)
      clear hK K'
      try simp only [Act.put, List.setIfInBounds_toArray, List.set_cons_zero, List.set_cons_succ, List.getElem_toArray, List.getElem_cons_zero, List.getElem_cons_succ]
      refine wpAnyH_ready (rs := [6]) (by kernel_rfl) (by simp) ?_
      refine AllReadyH.cons (o := _) rfl (fun K' hK => ?_) AllReadyH.nil
      go_simp
      refine (HPL.out _).mono ?_
      rintro x w6 ⟨rfl, hb⟩
      have O6 := Lib.hid (O6.out.below hb O6.out.lt)
      have HB := Lib.hid (bthen hb HB.out HB.out.size)
      clear hb
      go_wp2_with fail
      refine hK _ _ O6.out.range0 (fun hC2 => ?_)
      clear hK K'
      try simp only [Act.put, List.setIfInBounds_toArray, List.set_cons_zero, List.set_cons_succ, List.getElem_toArray, List.getElem_cons_zero, List.getElem_cons_succ]
      refine wpAnyH_take (i := 7) (v := .bool true) rfl (by kernel_rfl) (by kernel_rfl) (by kernel_rfl) (fun _ _ _ h => h) (Or.inl ⟨by rfl, fun w hS => by go_simp⟩) hC2 ?_
      simp only [Act.put, List.setIfInBounds_toArray, List.set_cons_zero, List.set_cons_succ, List.getElem_toArray, List.getElem_cons_zero, List.getElem_cons_succ]
      refine wpAnyH_take (i := 8) (v := .bool true) rfl (by kernel_rfl) (by kernel_rfl) (by kernel_rfl) (fun _ _ _ h => h) (Or.inl ⟨by rfl, fun w hS => by go_simp⟩) hC2 ?_
      simp only [Act.put, List.setIfInBounds_toArray, List.set_cons_zero, List.set_cons_succ, List.getElem_toArray, List.getElem_cons_zero, List.getElem_cons_succ]
      refine wpAnyH_take (i := 9) (v := .bool true) rfl (by kernel_rfl) (by kernel_rfl) (by kernel_rfl) (fun _ _ _ h => h) (Or.inl ⟨by rfl, fun w hS => by go_simp⟩) hC2 ?_
      simp only [Act.put, List.setIfInBounds_toArray, List.set_cons_zero, List.set_cons_succ, List.getElem_toArray, List.getElem_cons_zero, List.getElem_cons_succ]
      refine wpAnyH_ready (rs := [10]) (by kernel_rfl) (by simp) ?_
      refine AllReadyH.cons (o := _) rfl (fun K' hK => ?_) AllReadyH.nil
      go_simp
      refine (awake24 _).mono ?_
      rintro x w7 ⟨rfl, hb⟩
      have O6 := Lib.hid (O6.out.below hb O6.out.lt)
      have HB := Lib.hid (bthen hb HB.out HB.out.size)
      clear hb
      go_wp2_with fail
      refine hK _ _ O6.out.range0 (fun hC3 => ?_)
      clear hK K'
      try simp only [Act.put, List.setIfInBounds_toArray, List.set_cons_zero, List.set_cons_succ, List.getElem_toArray, List.getElem_cons_zero, List.getElem_cons_succ]
      refine wpAnyH_take (i := 11) (v := .bool true) rfl (by kernel_rfl) (by kernel_rfl) (by kernel_rfl) (fun _ _ _ h => h) (Or.inl ⟨by rfl, fun w hS => by go_simp⟩) hC3 ?_
      simp only [Act.put, List.setIfInBounds_toArray, List.set_cons_zero, List.set_cons_succ, List.getElem_toArray, List.getElem_cons_zero, List.getElem_cons_succ]
      refine wpAnyH_take (i := 12) (v := .bool true) rfl (by kernel_rfl) (by kernel_rfl) (by kernel_rfl) (fun _ _ _ h => h) (Or.inl ⟨by rfl, fun w hS => by go_simp⟩) hC3 ?_
      simp only [Act.put, List.setIfInBounds_toArray, List.set_cons_zero, List.set_cons_succ, List.getElem_toArray, List.getElem_cons_zero, List.getElem_cons_succ]
      refine wpAnyH_done (by kernel_rfl) ?_ _
      refine NoPanic.normal ?_
      go_wp2_with fail
      go_ret
      exact ⟨rfl, HB.out⟩
end Go.Proofs.Ytomikbecbbjhoaa

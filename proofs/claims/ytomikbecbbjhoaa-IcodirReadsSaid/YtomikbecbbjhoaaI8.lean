/- r24.Read, walked. -/
import Derived.Test.YtomikbecbbjhoaaID
namespace Go.Proofs.Ytomikbecbbjhoaa
open Go.RowKit
set_option linter.unusedVariables false
set_option linter.unusedSimpArgs false
def rDir (cur : Bool) (N b : Int) (E : Ent) (F P : Int) : List Value := [.bool cur, .int .i64 N, .int .i64 b, .int .i64 E.W, .int .i64 E.H, .int .i64 E.A, .int .i64 E.B, .int .i64 E.Z, .int .i64 E.P, .int .i64 F, .int .i64 P]
def rBad (k p : Int) : List Value := rDir false 0 0 Ent.zero k p
def rBeats (e d : Ent) (cur : Bool) : Bool := decide (e.W * e.H > d.W * d.H) || ((e.W * e.H == d.W * d.H) && (!cur && decide (e.B > d.B)))
def rLoop (s : ByteArray) (N : Int) (cur : Bool) : Nat → Nat → Int → Ent → List Value
  | 0, _, b, E => rDir cur N b E 0 0
  | k + 1, i, b, E => if s.size < 22 + 16 * i then rBad 1 s.size else
    bif decide ((entE s (6 + 16 * i)).P < 6 + 16 * N) || decide ((entE s (6 + 16 * i)).P + (entE s (6 + 16 * i)).Z > s.size) then rBad 2 (6 + 16 * (i : Int) + 12)
    else bif ((i : Int) == 0) || rBeats (entE s (6 + 16 * i)) E cur then rLoop s N cur k (i + 1) i (entE s (6 + 16 * i)) else rLoop s N cur k (i + 1) b E
def rRes24 (s : ByteArray) : List Value :=
  if s.size < 6 then rBad 1 s.size else
  bif (byN s 0 != 0) || (byN s 1 != 0) then rBad 2 0 else
  bif (lowK s 2 2 != 1) && (lowK s 2 2 != 2) then rBad 2 2 else
  bif lowK s 4 2 == 0 then rBad 2 4 else
  rLoop s (lowK s 4 2) (lowK s 2 2 == 2) (lowK s 4 2).toNat 0 0 Ent.zero
theorem rbad24_any (k a : Int) (w : World) : Calls Try.prog 81 #[.int .i64 k, .int .i64 a] w (RA w (rBad k a)) := by
  go_enter Try.func81, Try.ntmps81
  go_wp2
  refine bodyPost_ret (v := .agg (List.toArray (rBad k a))) ?_ rfl ⟨rfl, (Below.refl _ _).alloc (Nat.le_refl _) _⟩
  exact results_c Try.results81 _ _ _ (rBad k a) _ rfl (Obj1.range0 (cs := (rBad k a)) (obj1_new w _ _)) Try.underlying67 rfl (by kernel_rfl)
set_option maxRecDepth 100000 in
set_option maxHeartbeats 16000000 in
theorem rread24_any (s : ByteArray) (w : World) (hs : s.size ≤ 100000) : Calls Try.prog 39 #[.string s] w (RA w (rRes24 s)) := by
  have HBD := Lib.hid (fun k a w0 => rbad24_any k a w0)
  have O2 := Lib.hid (obj1_new w #[.bool false, .int .i64 0, .int .i64 0, .int .i64 0, .int .i64 0, .int .i64 0, .int .i64 0, .int .i64 0, .int .i64 0, .int .i64 0, .int .i64 0] 67)
  have BL := Lib.hid ((Below.refl w.heap.size w).alloc (Nat.le_refl _) (.cells #[.bool false, .int .i64 0, .int .i64 0, .int .i64 0, .int .i64 0, .int .i64 0, .int .i64 0, .int .i64 0, .int .i64 0, .int .i64 0, .int .i64 0] 67))
  obtain ⟨RS, hRS⟩ : ∃ r, rRes24 s = r := ⟨_, rfl⟩
  have E0 := hRS
  unfold rRes24 at E0
  rw [hRS]
  clear hRS
  by_cases h : s.size < 6
  · have D0 : decide ((s.size : Int) < 6) = true := by rw [decide_eq_true_iff]; omega
    have E := Lib.hid (show RS = rBad 1 s.size by rw [← E0, if_pos h])
    clear E0
    go_enter Try.func39, Try.ntmps39
    go_wp2_with (first
      | ((with_reducible refine skip_g rfl ?_ ?_); rfl; intro _)
      | ((go_at_call 81; (with_reducible refine (HBD.out _ _ _).mono ?_); rintro e wc ⟨rfl, hb⟩); have O2 := Lib.hid (O2.out.below hb O2.out.lt); have BL := Lib.hid (bthen hb BL.out BL.out.size); clear hb)
      | (refine store_o rfl 67 11 _ _ rfl w.heap.size (rBad 1 (s.size)) rfl rfl (by kernel_rfl) (by kernel_rfl) (by kernel_rfl) O2.out (by first | rfl | simp) ?_; intro ws hst hO; have O2 := Lib.hid hO; have BL := Lib.hid (hst.below BL.out (by omega)); clear hst hO; refine gen_frame 2 (.pointer (some ⟨w.heap.size, 0, none⟩)) (by kernel_rfl) (by kernel_rfl) ?_; intro A hA hAd))
    refine bodyPost_ret (v := .agg (List.toArray (rBad 1 (s.size)))) ?_ hAd ⟨by rw [E.out], BL.out⟩
    exact results_c Try.results39 _ _ _ (rBad 1 (s.size)) _ hA O2.out.range0 Try.underlying67 rfl (by kernel_rfl)
  rw [if_neg h] at E0
  have D0 : decide ((s.size : Int) < 6) = false := by rw [decide_eq_false_iff_not]; omega
  have i0 : 0 < s.size := by omega
  have i1 : 1 < s.size := by omega
  have q6 : (6 : Int) ≤ s.size := by omega
  have q4 : (4 : Int) ≤ s.size := by omega
  have g0 := byN_get s 0 i0
  have g1 := byN_get s 1 i1
  obtain ⟨x0, hx0⟩ : ∃ x, byN s 0 = x := ⟨_, rfl⟩
  obtain ⟨x1, hx1⟩ : ∃ x, byN s 1 = x := ⟨_, rfl⟩
  obtain ⟨t, ht⟩ : ∃ x, lowK s 2 2 = x := ⟨_, rfl⟩
  have nb := lowK2_bd s 4
  obtain ⟨n, hn⟩ : ∃ n : Nat, lowK s 4 2 = n := ⟨_, (Int.toNat_of_nonneg nb.1).symm⟩
  rw [hn] at nb
  have HT := Lib.hid (fun w0 => le_low s 2 4 2 t w0 rfl (by omega) (by omega) ht)
  have HNN := Lib.hid (fun w0 => le_low s 4 6 2 (n : Int) w0 rfl (by omega) (by omega) hn)
  rw [hx0] at g0 E0
  rw [hx1] at g1 E0
  rw [ht, hn] at E0
  obtain ⟨b0, hb0⟩ : ∃ b, (x0 != 0) = b := ⟨_, rfl⟩
  obtain ⟨b1, hb1⟩ : ∃ b, (x1 != 0) = b := ⟨_, rfl⟩
  obtain ⟨t1, ht1⟩ : ∃ b, (t != 1) = b := ⟨_, rfl⟩
  obtain ⟨t2, ht2⟩ : ∃ b, (t != 2) = b := ⟨_, rfl⟩
  have ht2' : (t == 2) = !t2 := by rw [← ht2]; cases h : (t == 2) <;> simp [bne, h]
  obtain ⟨nz, hnz⟩ : ∃ b, ((n : Int) == 0) = b := ⟨_, rfl⟩
  rw [hb0, hb1, ht1, ht2, ht2', hnz, show ((n : Int)).toNat = n by omega] at E0
  have hn2 := nb.2
  clear hx0 hx1 ht hn h nb
  have HE := Lib.hid E0
  clear E0
  go_enter Try.func39, Try.ntmps39
  cases b0
  rotate_left
  · skip
    have E := Lib.hid (show RS = rBad 2 (0) from HE.out.symm)
    clear HE
    go_wp2_with (first
      | ((go_at_call 45; (with_reducible refine (HT.out _).mono ?_); rintro x wl ⟨rfl, rfl⟩))
      | ((go_at_call 45; (with_reducible refine (HNN.out _).mono ?_); rintro x wl ⟨rfl, rfl⟩))
      | ((with_reducible refine skip_g rfl ?_ ?_); rfl; intro _)
      | ((go_at_call 81; (with_reducible refine (HBD.out _ _ _).mono ?_); rintro e wc ⟨rfl, hb⟩); have O2 := Lib.hid (O2.out.below hb O2.out.lt); have BL := Lib.hid (bthen hb BL.out BL.out.size); clear hb)
      | (refine store_o rfl 67 11 _ _ rfl w.heap.size (rBad 2 (0)) rfl rfl (by kernel_rfl) (by kernel_rfl) (by kernel_rfl) O2.out (by first | rfl | simp) ?_; intro ws hst hO; have O2 := Lib.hid hO; have BL := Lib.hid (hst.below BL.out (by omega)); clear hst hO; refine gen_frame 2 (.pointer (some ⟨w.heap.size, 0, none⟩)) (by kernel_rfl) (by kernel_rfl) ?_; intro A hA hAd))
    refine bodyPost_ret (v := .agg (List.toArray (rBad 2 (0)))) ?_ hAd ⟨by rw [E.out], BL.out⟩
    exact results_c Try.results39 _ _ _ (rBad 2 (0)) _ hA O2.out.range0 Try.underlying67 rfl (by kernel_rfl)
  cases b1
  rotate_left
  · skip
    have E := Lib.hid (show RS = rBad 2 (0) from HE.out.symm)
    clear HE
    go_wp2_with (first
      | ((go_at_call 45; (with_reducible refine (HT.out _).mono ?_); rintro x wl ⟨rfl, rfl⟩))
      | ((go_at_call 45; (with_reducible refine (HNN.out _).mono ?_); rintro x wl ⟨rfl, rfl⟩))
      | ((with_reducible refine skip_g rfl ?_ ?_); rfl; intro _)
      | ((go_at_call 81; (with_reducible refine (HBD.out _ _ _).mono ?_); rintro e wc ⟨rfl, hb⟩); have O2 := Lib.hid (O2.out.below hb O2.out.lt); have BL := Lib.hid (bthen hb BL.out BL.out.size); clear hb)
      | (refine store_o rfl 67 11 _ _ rfl w.heap.size (rBad 2 (0)) rfl rfl (by kernel_rfl) (by kernel_rfl) (by kernel_rfl) O2.out (by first | rfl | simp) ?_; intro ws hst hO; have O2 := Lib.hid hO; have BL := Lib.hid (hst.below BL.out (by omega)); clear hst hO; refine gen_frame 2 (.pointer (some ⟨w.heap.size, 0, none⟩)) (by kernel_rfl) (by kernel_rfl) ?_; intro A hA hAd))
    refine bodyPost_ret (v := .agg (List.toArray (rBad 2 (0)))) ?_ hAd ⟨by rw [E.out], BL.out⟩
    exact results_c Try.results39 _ _ _ (rBad 2 (0)) _ hA O2.out.range0 Try.underlying67 rfl (by kernel_rfl)
  have hcase : (t1 && t2) = true ∨ (t1 && t2) = false := by cases t1 <;> cases t2 <;> simp
  rcases hcase with hc | hc
  · obtain ⟨rfl, rfl⟩ : t1 = true ∧ t2 = true := by simpa using hc
    have E := Lib.hid (show RS = rBad 2 (2) from HE.out.symm)
    clear HE
    go_wp2_with (first
      | ((go_at_call 45; (with_reducible refine (HT.out _).mono ?_); rintro x wl ⟨rfl, rfl⟩))
      | ((go_at_call 45; (with_reducible refine (HNN.out _).mono ?_); rintro x wl ⟨rfl, rfl⟩))
      | ((with_reducible refine skip_g rfl ?_ ?_); rfl; intro _)
      | ((go_at_call 81; (with_reducible refine (HBD.out _ _ _).mono ?_); rintro e wc ⟨rfl, hb⟩); have O2 := Lib.hid (O2.out.below hb O2.out.lt); have BL := Lib.hid (bthen hb BL.out BL.out.size); clear hb)
      | (refine store_o rfl 67 11 _ _ rfl w.heap.size (rBad 2 (2)) rfl rfl (by kernel_rfl) (by kernel_rfl) (by kernel_rfl) O2.out (by first | rfl | simp) ?_; intro ws hst hO; have O2 := Lib.hid hO; have BL := Lib.hid (hst.below BL.out (by omega)); clear hst hO; refine gen_frame 2 (.pointer (some ⟨w.heap.size, 0, none⟩)) (by kernel_rfl) (by kernel_rfl) ?_; intro A hA hAd))
    refine bodyPost_ret (v := .agg (List.toArray (rBad 2 (2)))) ?_ hAd ⟨by rw [E.out], BL.out⟩
    exact results_c Try.results39 _ _ _ (rBad 2 (2)) _ hA O2.out.range0 Try.underlying67 rfl (by kernel_rfl)
  rw [hc] at HE
  simp only [cond_false, Bool.or_self] at HE
  have HCC := Lib.hid hc
  go_upto_region 1 with (fail)
  generalize World.alloc _ _ = w1 at O2 BL ⊢
  go_upto_region 6 with (first
    | ((go_at_call 45; (with_reducible refine (HT.out _).mono ?_); rintro x wl ⟨rfl, rfl⟩))
    | ((with_reducible refine skip_g rfl ?_ ?_); rfl; intro _))
  go_cut [32] from 27 to 31 (fun c wx => wx = wl ∧ c = .bool false)
  case first =>
    clear HE
    cases t1
    · go_wp2_with ((with_reducible refine skip_g rfl ?_ ?_); rfl; intro _)
      go_meet
      exact ⟨rfl, rfl⟩
    · cases t2
      · go_wp2_with ((with_reducible refine skip_g rfl ?_ ?_); rfl; intro _)
        go_meet
        exact ⟨rfl, rfl⟩
      · cases hc
  case rest =>
    obtain ⟨rfl, rfl⟩ := hcut
    have ht2'' : (t == 2) = !t2 := ht2'
    obtain ⟨cur, hcur⟩ : ∃ c, (!t2) = c := ⟨_, rfl⟩
    rw [hcur] at HE ht2''
    have O4 := Lib.hid (obj1_new wc #[.bool false, .int .i64 0, .int .i64 0, .int .i64 0, .int .i64 0, .int .i64 0, .int .i64 0, .int .i64 0, .int .i64 0, .int .i64 0, .int .i64 0] 67)
    have BL := Lib.hid (BL.out.alloc BL.out.size (.cells #[.bool false, .int .i64 0, .int .i64 0, .int .i64 0, .int .i64 0, .int .i64 0, .int .i64 0, .int .i64 0, .int .i64 0, .int .i64 0, .int .i64 0] 67))
    have l2 := O2.out.lt
    have O2 := Lib.hid (O2.out.alloc (.cells #[.bool false, .int .i64 0, .int .i64 0, .int .i64 0, .int .i64 0, .int .i64 0, .int .i64 0, .int .i64 0, .int .i64 0, .int .i64 0, .int .i64 0] 67))
    obtain ⟨d4, hd4⟩ : ∃ d, wc.heap.size = d := ⟨_, rfl⟩
    have hd4' := Lib.hid hd4
    rw [hd4] at O4 l2
    go_upto_region 9 with (first
      | ((go_at_call 45; (with_reducible refine (HNN.out _).mono ?_); rintro x wm ⟨rfl, rfl⟩))
      | (refine store_o rfl 67 11 _ _ rfl d4 (rDir cur n 0 Ent.zero 0 0) rfl rfl (by kernel_rfl) (by kernel_rfl) (by kernel_rfl) O4.out (by first | rfl | simp) ?_; intro ws hst hO; have O4 := Lib.hid hO; have O2 := Lib.hid (hst.oth O2.out (by omega)); have BL := Lib.hid (hst.below BL.out (by omega)); clear hst hO))
    have c1 : ws.cell? ⟨d4, 1, none⟩ = some (.int .i64 (n : Int)) := (O4.out.cell 1).trans rfl
    cases nz
    rotate_left
    · have E := Lib.hid (show RS = rBad 2 4 from HE.out.symm)
      clear HE
      go_wp2_with (first
        | ((with_reducible refine skip_g rfl ?_ ?_); rfl; intro _)
        | ((go_at_call 81; (with_reducible refine (HBD.out _ _ _).mono ?_); rintro e wc ⟨rfl, hb⟩); have O2 := Lib.hid (O2.out.below hb O2.out.lt); have O4 := Lib.hid (O4.out.below hb O4.out.lt); have BL := Lib.hid (bthen hb BL.out BL.out.size); clear hb)
        | (refine store_o rfl 67 11 _ _ rfl w.heap.size (rBad 2 (4)) rfl rfl (by kernel_rfl) (by kernel_rfl) (by kernel_rfl) O2.out (by first | rfl | simp) ?_; intro ws hst hO; have O2 := Lib.hid hO; have O4 := Lib.hid (hst.oth O4.out (by omega)); have BL := Lib.hid (hst.below BL.out (by omega)); clear hst hO; refine gen_frame 2 (.pointer (some ⟨w.heap.size, 0, none⟩)) (by kernel_rfl) (by kernel_rfl) ?_; intro A hA hAd))
      refine bodyPost_ret (v := .agg (List.toArray (rBad 2 (4)))) ?_ hAd ⟨by rw [E.out], BL.out⟩
      exact results_c Try.results39 _ _ _ (rBad 2 (4)) _ hA O2.out.range0 Try.underlying67 rfl (by kernel_rfl)
    have HE := Lib.hid (show rLoop s n cur n 0 0 Ent.zero = RS from HE.out)
    go_upto_region 12 with (fail)
    clear c1
    go_loopw [5, 6, 7, 8] (fun q5 q6 q7 q8 wr => ∃ (i : Nat) (b : Int) (E : Ent), i ≤ n ∧ q5 = .int .i64 i ∧ rLoop s n cur (n - i) i b E = RS ∧ E.ok ∧ Obj1 wr d4 (rDir cur n b E 0 0).toArray 67 ∧ Obj1 wr w.heap.size #[.bool false, .int .i64 0, .int .i64 0, .int .i64 0, .int .i64 0, .int .i64 0, .int .i64 0, .int .i64 0, .int .i64 0, .int .i64 0, .int .i64 0] 67 ∧ Below w.heap.size w wr) (fun q5 _ _ _ _ => n - (intOf q5).toNat)
    case atStart => exact ⟨0, 0, Ent.zero, by omega, rfl, HE.out, Ent.zero_ok, O4.out, O2.out, BL.out⟩
    case round =>
      obtain ⟨i, b, E, hi, rfl, hIL, hEo, h4, h2, hb⟩ := hrel
      have O4 := Lib.hid h4
      have O2 := Lib.hid h2
      have BL := Lib.hid hb
      have zw := hb.size
      have l4 := h4.lt
      clear h4 h2 hb
      have c1 : wr.cell? ⟨d4, 1, none⟩ = some (.int .i64 (n : Int)) := (O4.out.cell 1).trans rfl
      by_cases hlt : i < n
      rotate_left
      · have hge : n ≤ i := by omega
        rw [show n - i = 0 by omega, rLoop] at hIL
        obtain ⟨DL, hDL⟩ : ∃ L, rDir cur n b E 0 0 = L := ⟨_, rfl⟩
        have DLn : DL.length = 11 := by rw [← hDL]; rfl
        have DLo : DL.all (·.oneCell') = true := by rw [← hDL]; rfl
        have DLi : (Try.prog.info? 67).map (·.size) = some DL.length := by rw [DLn]; kernel_rfl
        rw [hDL] at O4 hIL
        have ER := Lib.hid hIL
        clear hDL hIL hEo
        go_wp2_with (first
          | (refine load_u (by kernel_rfl) 67 11 _ rfl d4 DL DLn rfl O4.out Try.underlying67 rfl (by kernel_rfl) ?_; intro _)
          | (refine store_o rfl 67 11 _ _ rfl w.heap.size DL DLn DLo (by kernel_rfl) (by kernel_rfl) (by kernel_rfl) O2.out (by first | rfl | simp) ?_; intro ws hst hO; have O2 := Lib.hid hO; have O4 := Lib.hid (hst.oth O4.out (by omega)); have BL := Lib.hid (hst.below BL.out (by omega)); clear hst hO; refine gen_frame 2 (.pointer (some ⟨w.heap.size, 0, none⟩)) (by kernel_rfl) (by kernel_rfl) ?_; intro A hA hAd))
        refine bodyPost_ret (v := .agg (List.toArray DL)) ?_ hAd ⟨by rw [ER.out], BL.out⟩
        exact results_c Try.results39 _ _ _ DL _ hA O2.out.range0 Try.underlying67 rfl DLi
      have hge : ¬ n ≤ i := by omega
      obtain ⟨k, hk⟩ : ∃ k, n - i = k + 1 := ⟨n - i - 1, by omega⟩
      have hk2 : n - (i + 1) = k := by omega
      rw [hk, rLoop] at hIL
      have eW1 : IntKind.i64.wrap (16 * (i : Int)) = 16 * (i : Int) := i64_wraps _ (by omega) (by omega)
      have eW2 : IntKind.i64.wrap (22 + 16 * (i : Int)) = 22 + 16 * (i : Int) := i64_wraps _ (by omega) (by omega)
      by_cases hsz : s.size < 22 + 16 * i
      · have D3 : decide ((s.size : Int) < 22 + 16 * (i : Int)) = true := by rw [decide_eq_true_iff]; omega
        rw [if_pos hsz] at hIL
        have E := Lib.hid (show RS = rBad 1 s.size from hIL.symm)
        clear hIL
        go_wp2_with (first
          | ((with_reducible refine skip_g rfl ?_ ?_); rfl; intro _)
          | ((go_at_call 81; (with_reducible refine (HBD.out _ _ _).mono ?_); rintro e wc ⟨rfl, hb⟩); have O2 := Lib.hid (O2.out.below hb O2.out.lt); have O4 := Lib.hid (O4.out.below hb O4.out.lt); have BL := Lib.hid (bthen hb BL.out BL.out.size); clear hb)
          | (refine store_o rfl 67 11 _ _ rfl w.heap.size (rBad 1 (s.size)) rfl rfl (by kernel_rfl) (by kernel_rfl) (by kernel_rfl) O2.out (by first | rfl | simp) ?_; intro ws hst hO; have O2 := Lib.hid hO; have O4 := Lib.hid (hst.oth O4.out (by omega)); have BL := Lib.hid (hst.below BL.out (by omega)); clear hst hO; refine gen_frame 2 (.pointer (some ⟨w.heap.size, 0, none⟩)) (by kernel_rfl) (by kernel_rfl) ?_; intro A hA hAd))
        refine bodyPost_ret (v := .agg (List.toArray (rBad 1 (s.size)))) ?_ hAd ⟨by rw [E.out], BL.out⟩
        exact results_c Try.results39 _ _ _ (rBad 1 (s.size)) _ hA O2.out.range0 Try.underlying67 rfl (by kernel_rfl)
      rw [if_neg hsz] at hIL
      have D3 : decide ((s.size : Int) < 22 + 16 * (i : Int)) = false := by rw [decide_eq_false_iff_not]; omega
      obtain ⟨e, he⟩ : ∃ e, entE s (6 + 16 * i) = e := ⟨_, rfl⟩
      have eok : e.ok := he ▸ entE_ok s _
      rw [he] at hIL
      have HRG := Lib.hid (fun w0 => (show Calls Try.prog 43 #[.string s, .int .i64 i] w0 (RA w0 [.int .i64 e.W, .int .i64 e.H, .int .i64 e.A, .int .i64 e.B, .int .i64 e.Z, .int .i64 e.P]) from (rget_any s i w0 (by omega) hs).mono fun x w' hh => ⟨hh.1.trans (by rw [entL_cells, he]; rfl), hh.2⟩))
      clear he
      go_upto_region 17 with (first
        | ((go_at_call 43; (with_reducible refine (HRG.out _).mono ?_); rintro x w7 ⟨rfl, hb⟩); have l7 := hb.size; have O6 := Lib.hid (obj1_new w7 #[.int .i64 0, .int .i64 0, .int .i64 0, .int .i64 0, .int .i64 0, .int .i64 0] 65); have O4 := Lib.hid ((O4.out.below hb O4.out.lt).alloc (.cells #[.int .i64 0, .int .i64 0, .int .i64 0, .int .i64 0, .int .i64 0, .int .i64 0] 65)); have O2 := Lib.hid ((O2.out.below hb O2.out.lt).alloc (.cells #[.int .i64 0, .int .i64 0, .int .i64 0, .int .i64 0, .int .i64 0, .int .i64 0] 65)); have BL := Lib.hid ((bthen hb BL.out zw).alloc (by omega) (.cells #[.int .i64 0, .int .i64 0, .int .i64 0, .int .i64 0, .int .i64 0, .int .i64 0] 65)); clear hb)
        | (refine store_o rfl 65 6 _ _ rfl w7.heap.size [.int .i64 e.W, .int .i64 e.H, .int .i64 e.A, .int .i64 e.B, .int .i64 e.Z, .int .i64 e.P] rfl rfl (by kernel_rfl) (by kernel_rfl) (by kernel_rfl) O6.out (by first | rfl | simp) ?_; intro ws hst hO; have O6 := Lib.hid hO; have O4 := Lib.hid (hst.oth O4.out (by omega)); have O2 := Lib.hid (hst.oth O2.out (by omega)); have BL := Lib.hid (hst.below BL.out (by omega)); clear hst hO))
      obtain ⟨d6, hd6⟩ : ∃ d, w7.heap.size = d := ⟨_, rfl⟩
      rw [hd6] at O6 l7 ⊢
      clear hd6 c1 D3 eW2
      have k0 : ws.cell? ⟨d6, 0, none⟩ = some (.int .i64 e.W) := (O6.out.cell 0).trans rfl
      have k1 : ws.cell? ⟨d6, 1, none⟩ = some (.int .i64 e.H) := (O6.out.cell 1).trans rfl
      have k2 : ws.cell? ⟨d6, 2, none⟩ = some (.int .i64 e.A) := (O6.out.cell 2).trans rfl
      have k3 : ws.cell? ⟨d6, 3, none⟩ = some (.int .i64 e.B) := (O6.out.cell 3).trans rfl
      have k4 : ws.cell? ⟨d6, 4, none⟩ = some (.int .i64 e.Z) := (O6.out.cell 4).trans rfl
      have k5 : ws.cell? ⟨d6, 5, none⟩ = some (.int .i64 e.P) := (O6.out.cell 5).trans rfl
      have c1 : ws.cell? ⟨d4, 1, none⟩ = some (.int .i64 (n : Int)) := (O4.out.cell 1).trans rfl
      have p0 := eok.p0
      have p1 := eok.p1
      have z0 := eok.z0
      have z1 := eok.z1
      have eW3 : IntKind.i64.wrap (16 * (n : Int)) = 16 * (n : Int) := i64_wraps _ (by omega) (by omega)
      have eW4 : IntKind.i64.wrap (6 + 16 * (n : Int)) = 6 + 16 * (n : Int) := i64_wraps _ (by omega) (by omega)
      have eW5 : IntKind.i64.wrap (e.P + e.Z) = e.P + e.Z := i64_wraps _ (by omega) (by omega)
      have eW6 : IntKind.i64.wrap (6 + 16 * (i : Int)) = 6 + 16 * (i : Int) := i64_wraps _ (by omega) (by omega)
      have eW7 : IntKind.i64.wrap (6 + 16 * (i : Int) + 12) = 6 + 16 * (i : Int) + 12 := i64_wraps _ (by omega) (by omega)
      obtain ⟨b1, hb1⟩ : ∃ b, decide (e.P < 6 + 16 * (n : Int)) = b := ⟨_, rfl⟩
      obtain ⟨b2, hb2⟩ : ∃ b, decide (e.P + e.Z > (s.size : Int)) = b := ⟨_, rfl⟩
      rw [hb1, hb2] at hIL
      clear p0 p1 z0 z1
      cases b1
      rotate_left
      · have E := Lib.hid (show RS = rBad 2 (6 + 16 * (i : Int) + 12) from hIL.symm)
        clear hIL
        go_wp2_with (first
          | ((with_reducible refine skip_g rfl ?_ ?_); rfl; intro _)
          | ((go_at_call 81; (with_reducible refine (HBD.out _ _ _).mono ?_); rintro e wc ⟨rfl, hb⟩); have O2 := Lib.hid (O2.out.below hb O2.out.lt); have O4 := Lib.hid (O4.out.below hb O4.out.lt); have O6 := Lib.hid (O6.out.below hb O6.out.lt); have BL := Lib.hid (bthen hb BL.out BL.out.size); clear hb)
          | (refine store_o rfl 67 11 _ _ rfl w.heap.size (rBad 2 (6 + 16 * (i : Int) + 12)) rfl rfl (by kernel_rfl) (by kernel_rfl) (by kernel_rfl) O2.out (by first | rfl | simp) ?_; intro ws hst hO; have O2 := Lib.hid hO; have O4 := Lib.hid (hst.oth O4.out (by omega)); have O6 := Lib.hid (hst.oth O6.out (by omega)); have BL := Lib.hid (hst.below BL.out (by omega)); clear hst hO; refine gen_frame 2 (.pointer (some ⟨w.heap.size, 0, none⟩)) (by kernel_rfl) (by kernel_rfl) ?_; intro A hA hAd))
        refine bodyPost_ret (v := .agg (List.toArray (rBad 2 (6 + 16 * (i : Int) + 12)))) ?_ hAd ⟨by rw [E.out], BL.out⟩
        exact results_c Try.results39 _ _ _ (rBad 2 (6 + 16 * (i : Int) + 12)) _ hA O2.out.range0 Try.underlying67 rfl (by kernel_rfl)
      cases b2
      rotate_left
      · have E := Lib.hid (show RS = rBad 2 (6 + 16 * (i : Int) + 12) from hIL.symm)
        clear hIL
        go_wp2_with (first
          | ((with_reducible refine skip_g rfl ?_ ?_); rfl; intro _)
          | ((go_at_call 81; (with_reducible refine (HBD.out _ _ _).mono ?_); rintro e wc ⟨rfl, hb⟩); have O2 := Lib.hid (O2.out.below hb O2.out.lt); have O4 := Lib.hid (O4.out.below hb O4.out.lt); have O6 := Lib.hid (O6.out.below hb O6.out.lt); have BL := Lib.hid (bthen hb BL.out BL.out.size); clear hb)
          | (refine store_o rfl 67 11 _ _ rfl w.heap.size (rBad 2 (6 + 16 * (i : Int) + 12)) rfl rfl (by kernel_rfl) (by kernel_rfl) (by kernel_rfl) O2.out (by first | rfl | simp) ?_; intro ws hst hO; have O2 := Lib.hid hO; have O4 := Lib.hid (hst.oth O4.out (by omega)); have O6 := Lib.hid (hst.oth O6.out (by omega)); have BL := Lib.hid (hst.below BL.out (by omega)); clear hst hO; refine gen_frame 2 (.pointer (some ⟨w.heap.size, 0, none⟩)) (by kernel_rfl) (by kernel_rfl) ?_; intro A hA hAd))
        refine bodyPost_ret (v := .agg (List.toArray (rBad 2 (6 + 16 * (i : Int) + 12)))) ?_ hAd ⟨by rw [E.out], BL.out⟩
        exact results_c Try.results39 _ _ _ (rBad 2 (6 + 16 * (i : Int) + 12)) _ hA O2.out.range0 Try.underlying67 rfl (by kernel_rfl)
      simp only [Bool.or_self, cond_false] at hIL
      go_upto_region 19 with ((with_reducible refine skip_g rfl ?_ ?_); rfl; intro _)
      clear eW3 eW4 eW5 eW6 eW7 hb1 hb2
      have ew0 := mul_small e.W e.H eok.w0 eok.w1 eok.h0 eok.h1
      have ew1 := mul_small E.W E.H hEo.w0 hEo.w1 hEo.h0 hEo.h1
      obtain ⟨p, hp⟩ : ∃ p, e.W * e.H = p := ⟨_, rfl⟩
      obtain ⟨q, hq⟩ : ∃ q, E.W * E.H = q := ⟨_, rfl⟩
      rw [hp] at ew0
      rw [hq] at ew1
      have eW8 : IntKind.i64.wrap (e.W * e.H) = p := by rw [hp]; exact i64_wraps _ (by omega) (by omega)
      have eW9 : IntKind.i64.wrap (E.W * E.H) = q := by rw [hq]; exact i64_wraps _ (by omega) (by omega)
      have m3 : ws.cell? ⟨d4, 3, none⟩ = some (.int .i64 E.W) := (O4.out.cell 3).trans rfl
      have m4 : ws.cell? ⟨d4, 4, none⟩ = some (.int .i64 E.H) := (O4.out.cell 4).trans rfl
      rw [rBeats, hp, hq] at hIL
      clear ew0 ew1 hp hq
      go_quiet (fail)
      generalize hwq : World.drewN _ _ = wq
      have O2 := Lib.hid (show Obj1 wq w.heap.size #[.bool false, .int .i64 0, .int .i64 0, .int .i64 0, .int .i64 0, .int .i64 0, .int .i64 0, .int .i64 0, .int .i64 0, .int .i64 0, .int .i64 0] 67 from (by rw [← hwq]; exact O2.out.drewN _))
      have O4 := Lib.hid (show Obj1 wq d4 (rDir cur n b E 0 0).toArray 67 from (by rw [← hwq]; exact O4.out.drewN _))
      have O6 := Lib.hid (show Obj1 wq d6 (List.toArray [.int .i64 e.W, .int .i64 e.H, .int .i64 e.A, .int .i64 e.B, .int .i64 e.Z, .int .i64 e.P]) 65 from (by rw [← hwq]; exact O6.out.drewN _))
      have BL := Lib.hid (show Below w.heap.size w wq from (by rw [← hwq]; exact bdrew BL.out _))
      clear hwq m3 m4 c1 k0 k1 k2 k3 k4 k5 eW8 eW9
      have k3 : wq.cell? ⟨d6, 3, none⟩ = some (.int .i64 e.B) := (O6.out.cell 3).trans rfl
      have m0 : wq.cell? ⟨d4, 0, none⟩ = some (.bool cur) := (O4.out.cell 0).trans rfl
      have m6 : wq.cell? ⟨d4, 6, none⟩ = some (.int .i64 E.B) := (O4.out.cell 6).trans rfl
      obtain ⟨b0, hb0⟩ : ∃ b, ((i : Int) == 0) = b := ⟨_, rfl⟩
      obtain ⟨gt, hgt⟩ : ∃ b, decide (p > q) = b := ⟨_, rfl⟩
      obtain ⟨qb, hqb⟩ : ∃ b, (p == q) = b := ⟨_, rfl⟩
      obtain ⟨gB, hgB⟩ : ∃ b, decide (e.B > E.B) = b := ⟨_, rfl⟩
      rw [hb0, hgt, hqb, hgB] at hIL
      have HIL := Lib.hid hIL
      clear hIL
      go_upto_region 20 with (fail)
      go_cut [120] from 96 to 119 (fun c wx => wx = wq ∧ c = .bool (b0 || (gt || (qb && (!cur && gB)))))
      case first =>
        clear HIL HE
        cases b0
        rotate_left
        · go_wp2_with ((with_reducible refine skip_g rfl ?_ ?_); rfl; intro _)
          go_meet
          exact ⟨rfl, rfl⟩
        cases gt
        rotate_left
        · go_wp2_with ((with_reducible refine skip_g rfl ?_ ?_); rfl; intro _)
          go_meet
          exact ⟨rfl, rfl⟩
        cases qb
        · go_wp2_with ((with_reducible refine skip_g rfl ?_ ?_); rfl; intro _)
          go_meet
          exact ⟨rfl, rfl⟩
        cases hcu : cur
        rotate_left
        · subst hcu
          go_wp2_with ((with_reducible refine skip_g rfl ?_ ?_); rfl; intro _)
          go_meet
          exact ⟨rfl, rfl⟩
        · subst hcu
          go_wp2_with ((with_reducible refine skip_g rfl ?_ ?_); rfl; intro _)
          go_meet
          exact ⟨rfl, rfl⟩
      case rest =>
        obtain ⟨rfl, rfl⟩ := hcut
        clear hb0 hgt hqb hgB k3 m0 m6
        obtain ⟨tk, htk⟩ : ∃ b, (b0 || (gt || (qb && (!cur && gB)))) = b := ⟨_, rfl⟩
        rw [htk] at HIL ⊢
        clear htk
        cases tk
        · go_wp2_with fail
          go_roundw
          case rel => exact ⟨i + 1, b, E, by omega, by go_num, by rw [hk2]; exact HIL.out, hEo, O4.out, O2.out, BL.out⟩
          case measure => simp [intOf]; omega
        · have c2 : wc.cell? ⟨d4, 2, none⟩ = some (.int .i64 b) := (O4.out.cell 2).trans rfl
          have f2 : wc.frozen? ⟨d4, 2, none⟩ = false := O4.out.frozen 2
          go_upto_region 22 with (fail)
          have O4 := Lib.hid ((O4.out.set 2 (.int .i64 i)).cells (show _ = (rDir cur n i E 0 0).toArray from rfl))
          have O2 := Lib.hid (O2.out.set_other ⟨d4, 2, none⟩ (.int .i64 i) (by simp; omega))
          have O6 := Lib.hid (O6.out.set_other ⟨d4, 2, none⟩ (.int .i64 i) (by simp; omega))
          have BL := Lib.hid ((show Stored wc d4 2 [.int .i64 i] (wc.setCell ⟨d4, 2, none⟩ (.int .i64 i)) from rfl).below BL.out (by omega))
          generalize World.setCell _ _ _ = wv at O2 O4 O6 BL ⊢
          clear c2 f2
          go_wp2_with (first
            | (refine load_u (by kernel_rfl) 65 6 _ rfl d6 [.int .i64 e.W, .int .i64 e.H, .int .i64 e.A, .int .i64 e.B, .int .i64 e.Z, .int .i64 e.P] rfl rfl O6.out Try.underlying65 rfl (by kernel_rfl) ?_; intro _)
            | (refine store_a rfl 65 _ _ rfl d4 3 [.int .i64 e.W, .int .i64 e.H, .int .i64 e.A, .int .i64 e.B, .int .i64 e.Z, .int .i64 e.P] rfl (by kernel_rfl) (by kernel_rfl) (by kernel_rfl) O4.out (by simp [rDir]) ?_; intro ws2 hst hO; have O4 := Lib.hid (hO.cells (show _ = (rDir cur n i e 0 0).toArray from rfl)); have O2 := Lib.hid (hst.oth O2.out (by omega)); have BL := Lib.hid (hst.below BL.out (by omega)); clear hst hO))
          go_roundw
          case rel => exact ⟨i + 1, i, e, by omega, by go_num, by rw [hk2]; exact HIL.out, eok, O4.out, O2.out, BL.out⟩
          case measure => simp [intOf]; omega
end Go.Proofs.Ytomikbecbbjhoaa

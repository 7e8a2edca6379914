/- The law TgaheadReads, walked. -/
import Derived.Test.YtomikbecbbjhoaaT8
namespace Go.Proofs.Ytomikbecbbjhoaa
open Go.RowKit
set_option linter.unusedVariables false
set_option linter.unusedSimpArgs false
theorem tRead_lists (x : Sr) (l : Led) : ∃ H12 F3, tRead x l = (H12, F3) ∧ H12.length = 12 ∧ H12.all (·.oneCell') = true ∧ F3.length = 3 ∧ F3.all (·.oneCell') = true := by
  refine ⟨(tRead x l).1, (tRead x l).2, rfl, ?_⟩
  unfold tRead
  split
  · split
    · exact ⟨rfl, rfl, rfl, rfl⟩
    · exact ⟨rfl, rfl, rfl, rfl⟩
  · exact ⟨rfl, rfl, faultL_len _ _ _, faultL_one _ _ _⟩
theorem rRes_list (s : ByteArray) : ∃ R, rRes16 s = R ∧ R.length = 14 ∧ R.all (·.oneCell') = true := by
  refine ⟨_, rfl, ?_⟩
  unfold rRes16
  split
  · exact ⟨rfl, rfl⟩
  · split <;> exact ⟨rfl, rfl⟩
theorem same_hr (s : ByteArray) (w : World) : Calls Try.prog 33 #[.agg (headL s).toArray, .agg (rHead16 s).toArray] w fun e w' => e = .returned (.bool true) ∧ Below w.heap.size w w' :=
  same16 _ _ _ _ _ _ _ _ _ _ _ _ _ _ _ w rfl
def Yes16 (w : World) (e : Ending) (w' : World) : Prop := e = .returned (.bool true) ∧ Below w.heap.size w w'
theorem seek0 (L : Nat) (s : ByteArray) (n : Nat) (h : n ≤ s.size) : Sr.seek ⟨L, s, 0, s.size, 0⟩ n = (⟨L, s, 0, s.size, n⟩, true) := by
  unfold Sr.seek; rw [if_neg (by simp only; omega)]; simp
set_option maxRecDepth 100000 in
set_option maxHeartbeats 8000000 in
theorem treads_law (a s : ByteArray) (ha : a.size ≤ maxLen) (hs : s.size ≤ maxLen) (w : World) : Calls Try.prog 6 #[.string a, .string s] w (Yes16 w) := by
  unfold maxLen at ha hs
  by_cases h1 : 100 < s.size
  · have D1 : decide ((s.size : Int) > 100) = true := by rw [decide_eq_true_iff]; omega
    go_enter Try.func6, Try.ntmps6
    go_wp2_with (go_at_call 25; (with_reducible refine (awake16 _).mono ?_); rintro e w1 ⟨rfl, hb⟩)
    go_ret
    exact ⟨rfl, hb⟩
  have D1 : decide ((s.size : Int) > 100) = false := by rw [decide_eq_false_iff_not]; omega
  by_cases h2 : 100 < a.size
  · have D2 : decide ((a.size : Int) > 100) = true := by rw [decide_eq_true_iff]; omega
    go_enter Try.func6, Try.ntmps6
    go_wp2_with (go_at_call 25; (with_reducible refine (awake16 _).mono ?_); rintro e w1 ⟨rfl, hb⟩)
    go_ret
    exact ⟨rfl, hb⟩
  have D2 : decide ((a.size : Int) > 100) = false := by rw [decide_eq_false_iff_not]; omega
  have hsz : (a ++ s).size = a.size + s.size := ByteArray.size_append
  have HN := Lib.hid (fun w0 => lnew_k 9 w0 (Or.inl rfl))
  have HIS := Lib.hid (fun w0 => tis_any s w0 (by omega))
  have HRI := Lib.hid (fun w0 => ris_any s w0 (by omega))
  have HRR := Lib.hid (fun w0 => rread16_any s w0 (by omega))
  obtain ⟨IS, hIS⟩ : ∃ b, isTga s = b := ⟨_, rfl⟩
  rw [hIS] at HIS HRI
  go_enter Try.func6, Try.ntmps6
  go_wp2_with fail
  refine (HN.out _).mono ?_
  rintro e w1 ⟨L, rfl, hL1, hs1, hC1⟩
  go_wp2_with fail
  refine (snew_c7 L (a ++ s) _ _ (by omega) hL1).mono ?_
  rintro e w2 ⟨X, rfl, hP2, hs2, hB2⟩
  have HB2 := Lib.hid ((chg_none hC1).trans (hB2.mono hC1.size))
  have PX := Lib.hid hP2
  have z1 := hC1.size
  have hX : w.heap.size ≤ X := by omega
  have HCS := Lib.hid (read_cases a s L (by omega))
  clear hL1 hC1 hP2 hB2
  go_wp2_with fail
  refine (seek_any X _ _ _ _ PX.out).mono ?_
  rintro e w3 hbp
  obtain ⟨rfl, hP3, hC3⟩ := seek_at hbp (seek0 L (a ++ s) a.size (by omega))
  have HB3 := Lib.hid (chg_two HB2.out hC3 hX hs1)
  have PX := Lib.hid hP3
  clear hbp hP3 hC3
  go_wp2_with (first
    | ((go_at_call 29; (with_reducible refine (HIS.out _).mono ?_); rintro e w4 ⟨rfl, hb4⟩); have HB4 := Lib.hid (bthen hb4 HB3.out HB3.out.size); have PX := Lib.hid (PX.out.upon hb4 PX.out.src.lt PX.out.led.lt); clear hb4)
    | ((go_at_call 30; (with_reducible refine (HRI.out _).mono ?_); rintro e w5 ⟨rfl, hb5⟩); have HB5 := Lib.hid (bthen hb5 HB4.out HB4.out.size); have PX := Lib.hid (PX.out.upon hb5 PX.out.src.lt PX.out.led.lt); clear hb5))
  have HTR := Lib.hid (tread_any X _ _ w5 PX.out)
  obtain ⟨H12, F3, hHF, hH1, hH2, hF1, hF2⟩ := tRead_lists ⟨L, a ++ s, 0, (a ++ s).size, a.size⟩ (Led.new 0 0 0 9)
  obtain ⟨R14, hR14, hR1, hR2⟩ := rRes_list s
  have HTR := Lib.hid (show Calls Try.prog 31 #[.pointer (some ⟨X, 0, none⟩)] w5 (fun e w' => e = .returned (.tuple #[.agg H12.toArray, .agg F3.toArray]) ∧ Pair w' X (Sr.next ⟨L, a ++ s, 0, (a ++ s).size, a.size⟩ (Led.new 0 0 0 9) 18).1.1 (Sr.next ⟨L, a ++ s, 0, (a ++ s).size, a.size⟩ (Led.new 0 0 0 9) 18).1.2 ∧ Chg (two X ⟨L, a ++ s, 0, (a ++ s).size, a.size⟩) w5 w') from HTR.out.mono fun e w' hh => ⟨hh.1.trans (by rw [hHF]), hh.2⟩)
  rw [hHF, hR14] at HCS
  have HRR := Lib.hid (fun w0 => (HRR.out w0).mono (R' := RA w0 R14) fun e w' hh => ⟨hh.1.trans (by rw [hR14]), hh.2⟩)
  obtain ⟨⟨⟨y, m⟩, yr⟩, hnx⟩ : ∃ r, Sr.next ⟨L, a ++ s, 0, (a ++ s).size, a.size⟩ (Led.new 0 0 0 9) 18 = r := ⟨_, rfl⟩
  rw [hnx] at HTR HCS
  have hyL : y.L = L := by have := next_L ⟨L, a ++ s, 0, (a ++ s).size, a.size⟩ (Led.new 0 0 0 9) 18; rw [hnx] at this; exact this
  have I12 : (Try.prog.info? 44).map (·.size) = some 12 := by kernel_rfl
  clear hHF hR14 hnx HB3 HB4 HIS PX
  refine HTR.out.mono ?_
  rintro e w6 ⟨rfl, hP6, hC6⟩
  have PX := Lib.hid hP6
  have HB6 := Lib.hid (chg_two HB5.out hC6 hX hs1)
  have O7 := Lib.hid ((obj1_new w6 #[.int .i64 0, .bool false, .int .i64 0, .int .i64 0, .int .i64 0, .int .i64 0, .int .i64 0, .int .i64 0, .int .i64 0, .int .i64 0, .bool false, .bool false] 44).alloc (.cells #[.int .i64 0, .int .i64 0, .int .i64 0] 46))
  have O8 := Lib.hid (obj1_new (w6.alloc (.cells #[.int .i64 0, .bool false, .int .i64 0, .int .i64 0, .int .i64 0, .int .i64 0, .int .i64 0, .int .i64 0, .int .i64 0, .int .i64 0, .bool false, .bool false] 44)) #[.int .i64 0, .int .i64 0, .int .i64 0] 46)
  have HB7 := Lib.hid ((HB6.out.alloc HB6.out.size (.cells #[.int .i64 0, .bool false, .int .i64 0, .int .i64 0, .int .i64 0, .int .i64 0, .int .i64 0, .int .i64 0, .int .i64 0, .int .i64 0, .bool false, .bool false] 44)).alloc (Nat.le_trans HB6.out.size (by simp)) (.cells #[.int .i64 0, .int .i64 0, .int .i64 0] 46))
  have PX := Lib.hid ((PX.out.upon ((Below.refl w6.heap.size w6).alloc (Nat.le_refl _) (.cells #[.int .i64 0, .bool false, .int .i64 0, .int .i64 0, .int .i64 0, .int .i64 0, .int .i64 0, .int .i64 0, .int .i64 0, .int .i64 0, .bool false, .bool false] 44)) PX.out.src.lt PX.out.led.lt).upon (B := w6.heap.size) ((Below.refl w6.heap.size _).alloc (by simp) (.cells #[.int .i64 0, .int .i64 0, .int .i64 0] 46)) PX.out.src.lt PX.out.led.lt)
  rw [show (w6.alloc (.cells #[.int .i64 0, .bool false, .int .i64 0, .int .i64 0, .int .i64 0, .int .i64 0, .int .i64 0, .int .i64 0, .int .i64 0, .int .i64 0, .bool false, .bool false] 44)).heap.size = w6.heap.size + 1 by simp] at O8
  have z6 := HB6.out.size
  have lX6 : X < w6.heap.size := hP6.src.lt
  have lL6 : y.L < w6.heap.size := hP6.led.lt
  clear hP6 hC6 HTR HB5
  have ALLOC := Lib.hid (obj1_new · #[.int .i64 0, .int .i64 0, .int .i64 0, .int .i64 0, .int .i64 0, .int .i64 0, .int .i64 0, .int .i64 0, .int .i64 0, .int .i64 0, .bool false, .bool false, .int .i64 0, .int .i64 0] 50)
  rw [hIS] at HCS
  rcases HCS.out with ⟨k, p, hk, hp0, hp1, hT, hR⟩ | ⟨h18, hI, hT, hR, hyp⟩
  · obtain ⟨rfl, rfl⟩ := Prod.mk.inj hT
    subst hR
    have hk0 : (k != 0) = true := by simp; omega
    have eW : IntKind.i64.wrap ((a.size : Int) + p) = (a.size : Int) + p := i64_wraps _ (by omega) (by omega)
    clear HCS hT
    go_wp2_with (first
      | (refine store_o rfl 44 12 _ _ rfl w6.heap.size (zero12) rfl rfl (by kernel_rfl) (by kernel_rfl) (by kernel_rfl) O7.out (by first | rfl | simp) ?_; intro w7 hst hO; have O7 := Lib.hid hO; have O8 := Lib.hid (hst.oth O8.out (by omega)); have PX := Lib.hid (PX.out.into hst (by omega) (by omega)); have HB7 := Lib.hid (hst.below HB7.out (by omega)); clear hst hO)
      | (refine store_o rfl 46 3 _ _ rfl (w6.heap.size + 1) [.int .i64 k, .int .i64 2, .int .i64 ((a.size : Int) + p)] rfl rfl (by kernel_rfl) (by kernel_rfl) (by kernel_rfl) O8.out (by first | rfl | simp) ?_; intro w8 hst hO; have O8 := Lib.hid hO; have O7 := Lib.hid (hst.oth O7.out (by omega)); have PX := Lib.hid (PX.out.into hst (by omega) (by omega)); have HB7 := Lib.hid (hst.below HB7.out (by omega)); clear hst hO)
      | ((go_at_call 32; (with_reducible refine (HRR.out _).mono ?_); rintro e w9 ⟨rfl, hb9⟩); have O7 := Lib.hid (O7.out.below hb9 O7.out.lt); have O8 := Lib.hid (O8.out.below hb9 O8.out.lt); have PX := Lib.hid (PX.out.upon hb9 PX.out.src.lt PX.out.led.lt); have HB7 := Lib.hid (bthen hb9 HB7.out HB7.out.size); have lO9 := O8.out.lt; have lX9 := PX.out.src.lt; have lL9 := PX.out.led.lt; have z9 := HB7.out.size; clear hb9;
         have O7 := Lib.hid (O7.out.alloc (.cells #[.int .i64 0, .int .i64 0, .int .i64 0, .int .i64 0, .int .i64 0, .int .i64 0, .int .i64 0, .int .i64 0, .int .i64 0, .int .i64 0, .bool false, .bool false, .int .i64 0, .int .i64 0] 50)); have O8 := Lib.hid (O8.out.alloc (.cells #[.int .i64 0, .int .i64 0, .int .i64 0, .int .i64 0, .int .i64 0, .int .i64 0, .int .i64 0, .int .i64 0, .int .i64 0, .int .i64 0, .bool false, .bool false, .int .i64 0, .int .i64 0] 50)); have PX := Lib.hid (PX.out.upon ((Below.refl w9.heap.size w9).alloc (Nat.le_refl _) (.cells #[.int .i64 0, .int .i64 0, .int .i64 0, .int .i64 0, .int .i64 0, .int .i64 0, .int .i64 0, .int .i64 0, .int .i64 0, .int .i64 0, .bool false, .bool false, .int .i64 0, .int .i64 0] 50)) lX9 lL9); have HB7 := Lib.hid (HB7.out.alloc z9 (.cells #[.int .i64 0, .int .i64 0, .int .i64 0, .int .i64 0, .int .i64 0, .int .i64 0, .int .i64 0, .int .i64 0, .int .i64 0, .int .i64 0, .bool false, .bool false, .int .i64 0, .int .i64 0] 50)))
      | (refine store_o rfl 50 14 _ _ rfl w9.heap.size (rBad16 k p) rfl rfl (by kernel_rfl) (by kernel_rfl) (by kernel_rfl) (ALLOC.out w9) (by first | rfl | simp) ?_; intro w10 hst hO; have O9 := Lib.hid hO; have O7 := Lib.hid (hst.oth O7.out (by omega)); have O8 := Lib.hid (hst.oth O8.out (by omega)); have PX := Lib.hid (PX.out.into hst (by omega) (by omega)); have HB7 := Lib.hid (hst.below HB7.out (by omega)); have hc12 : w10.cell? ⟨w9.heap.size, 12, none⟩ = some (.int .i64 k) := (hO.cell 12).trans rfl; have hc13 : w10.cell? ⟨w9.heap.size, 13, none⟩ = some (.int .i64 p) := (hO.cell 13).trans rfl; clear hst hO)
      | (refine load_og (by kernel_rfl) 44 12 _ rfl w6.heap.size [.int .i64 0, .bool false, .int .i64 0, .int .i64 0, .int .i64 0, .int .i64 0, .int .i64 0, .int .i64 0, .int .i64 0, .int .i64 0, .bool false, .bool false] rfl (by kernel_rfl) O7.out Try.underlying44 rfl (by kernel_rfl) ?_)
      | (refine load_og (by kernel_rfl) 46 3 _ rfl (w6.heap.size + 1) [.int .i64 k, .int .i64 2, .int .i64 ((a.size : Int) + p)] rfl (by kernel_rfl) O8.out Try.underlying46 rfl (by kernel_rfl) ?_)
      | ((go_at_call 25; (with_reducible refine (awake16 _).mono ?_); rintro e w11 ⟨rfl, hb11⟩); have HBE := Lib.hid (bthen hb11 HB7.out HB7.out.size); clear hb11))
    go_ret
    exact ⟨rfl, HBE.out⟩
  · obtain ⟨rfl, rfl⟩ := Prod.mk.inj hT
    subst hR hI
    have hyp : (y.p : Int) = (a.size : Int) + 18 := by rw [hyp]; rfl
    clear HCS hT
    go_wp2_with (first
      | (refine store_o rfl 44 12 _ _ rfl w6.heap.size (headL s) rfl rfl (by kernel_rfl) (by kernel_rfl) (by kernel_rfl) O7.out (by first | rfl | simp) ?_; intro w7 hst hO; have O7 := Lib.hid hO; have O8 := Lib.hid (hst.oth O8.out (by omega)); have PX := Lib.hid (PX.out.into hst (by omega) (by omega)); have HB7 := Lib.hid (hst.below HB7.out (by omega)); clear hst hO)
      | (refine store_o rfl 46 3 _ _ rfl (w6.heap.size + 1) [.int .i64 0, .int .i64 0, .int .i64 0] rfl rfl (by kernel_rfl) (by kernel_rfl) (by kernel_rfl) O8.out (by first | rfl | simp) ?_; intro w8 hst hO; have O8 := Lib.hid hO; have O7 := Lib.hid (hst.oth O7.out (by omega)); have PX := Lib.hid (PX.out.into hst (by omega) (by omega)); have HB7 := Lib.hid (hst.below HB7.out (by omega)); clear hst hO)
      | ((go_at_call 32; (with_reducible refine (HRR.out _).mono ?_); rintro e w9 ⟨rfl, hb9⟩); have O7 := Lib.hid (O7.out.below hb9 O7.out.lt); have O8 := Lib.hid (O8.out.below hb9 O8.out.lt); have PX := Lib.hid (PX.out.upon hb9 PX.out.src.lt PX.out.led.lt); have HB7 := Lib.hid (bthen hb9 HB7.out HB7.out.size); have lO9 := O8.out.lt; have lX9 := PX.out.src.lt; have lL9 := PX.out.led.lt; have z9 := HB7.out.size; clear hb9;
         have O7 := Lib.hid (O7.out.alloc (.cells #[.int .i64 0, .int .i64 0, .int .i64 0, .int .i64 0, .int .i64 0, .int .i64 0, .int .i64 0, .int .i64 0, .int .i64 0, .int .i64 0, .bool false, .bool false, .int .i64 0, .int .i64 0] 50)); have O8 := Lib.hid (O8.out.alloc (.cells #[.int .i64 0, .int .i64 0, .int .i64 0, .int .i64 0, .int .i64 0, .int .i64 0, .int .i64 0, .int .i64 0, .int .i64 0, .int .i64 0, .bool false, .bool false, .int .i64 0, .int .i64 0] 50)); have PX := Lib.hid (PX.out.upon ((Below.refl w9.heap.size w9).alloc (Nat.le_refl _) (.cells #[.int .i64 0, .int .i64 0, .int .i64 0, .int .i64 0, .int .i64 0, .int .i64 0, .int .i64 0, .int .i64 0, .int .i64 0, .int .i64 0, .bool false, .bool false, .int .i64 0, .int .i64 0] 50)) lX9 lL9); have HB7 := Lib.hid (HB7.out.alloc z9 (.cells #[.int .i64 0, .int .i64 0, .int .i64 0, .int .i64 0, .int .i64 0, .int .i64 0, .int .i64 0, .int .i64 0, .int .i64 0, .int .i64 0, .bool false, .bool false, .int .i64 0, .int .i64 0] 50)))
      | (refine store_o rfl 50 14 _ _ rfl w9.heap.size (rHead16 s) rfl rfl (by kernel_rfl) (by kernel_rfl) (by kernel_rfl) (ALLOC.out w9) (by first | rfl | simp) ?_; intro w10 hst hO; have O9 := Lib.hid hO; have O7 := Lib.hid (hst.oth O7.out (by omega)); have O8 := Lib.hid (hst.oth O8.out (by omega)); have PX := Lib.hid (PX.out.into hst (by omega) (by omega)); have HB7 := Lib.hid (hst.below HB7.out (by omega)); have hc12 : w10.cell? ⟨w9.heap.size, 12, none⟩ = some (.int .i64 0) := (hO.cell 12).trans rfl; have hc13 : w10.cell? ⟨w9.heap.size, 13, none⟩ = some (.int .i64 0) := (hO.cell 13).trans rfl; clear hst hO)
      | (refine load_og (by kernel_rfl) 44 12 _ rfl w6.heap.size (headL s) rfl (by kernel_rfl) O7.out Try.underlying44 rfl (by kernel_rfl) ?_)
      | (refine load_og (by kernel_rfl) 46 3 _ rfl (w6.heap.size + 1) [.int .i64 0, .int .i64 0, .int .i64 0] rfl (by kernel_rfl) O8.out Try.underlying46 rfl (by kernel_rfl) ?_)
      | (refine load_og (by kernel_rfl) 50 14 _ rfl w9.heap.size (rHead16 s) rfl (by kernel_rfl) O9.out Try.underlying50 rfl (by kernel_rfl) ?_)
      | ((go_at_call 33; (with_reducible refine (same_hr s _).mono ?_); rintro e w12 ⟨rfl, hb12⟩); have PX := Lib.hid (PX.out.upon hb12 PX.out.src.lt PX.out.led.lt); have HB7 := Lib.hid (bthen hb12 HB7.out HB7.out.size); clear hb12)
      | ((go_at_call 34; (with_reducible refine (at_any X y _ PX.out.src).mono ?_); rintro e w13 ⟨rfl, hw13⟩); subst hw13)
      | ((go_at_call 30; (with_reducible refine (HRI.out _).mono ?_); rintro e w14 ⟨rfl, hb14⟩); have HB7 := Lib.hid (bthen hb14 HB7.out HB7.out.size); clear hb14)
      | ((go_at_call 25; (with_reducible refine (awake16 _).mono ?_); rintro e w11 ⟨rfl, hb11⟩); have HBE := Lib.hid (bthen hb11 HB7.out HB7.out.size); clear hb11))
    go_ret
    exact ⟨rfl, HBE.out⟩
end Go.Proofs.Ytomikbecbbjhoaa

/- icodir.begin, walked. -/
import Derived.Test.YtomikbecbbjhoaaI3
import Derived.Test.YtomikbecbbjhoaaT6
namespace Go.Proofs.Ytomikbecbbjhoaa
open Go.RowKit
set_option linter.unusedVariables false
set_option linter.unusedSimpArgs false
theorem iwrong_any (a : Int) (w : World) : Calls Try.prog 79 #[.int .i64 a] w (RA w [.int .i64 2, .int .i64 4, .int .i64 (a)]) := by
  go_enter Try.func79, Try.ntmps79
  go_wp2
  refine bodyPost_ret (v := .agg (List.toArray [.int .i64 2, .int .i64 4, .int .i64 (a)])) ?_ rfl ⟨rfl, (Below.refl _ _).alloc (Nat.le_refl _) _⟩
  exact results_c Try.results79 _ _ _ [.int .i64 2, .int .i64 4, .int .i64 (a)] _ rfl (Obj1.range0 (cs := [.int .i64 2, .int .i64 4, .int .i64 (a)]) (obj1_new w _ _)) Try.underlying46 rfl (by kernel_rfl)
def zero9 : List Value := [.bool false, .int .i64 0, .int .i64 0, .int .i64 0, .int .i64 0, .int .i64 0, .int .i64 0, .int .i64 0, .int .i64 0]
def bRead (x : Sr) (l : Led) : List Value × List Value :=
  if (x.next l 6).2.2 = true then
    bif lowK (x.next l 6).2.1 0 2 != 0 then (zero9, [.int .i64 2, .int .i64 4, .int .i64 (x.p)]) else
    bif decide (lowK (x.next l 6).2.1 2 2 < 1) || decide (lowK (x.next l 6).2.1 2 2 > 2) then (zero9, [.int .i64 2, .int .i64 4, .int .i64 ((x.p : Int) + 2)]) else
    bif lowK (x.next l 6).2.1 4 2 == 0 then (zero9, [.int .i64 2, .int .i64 4, .int .i64 ((x.p : Int) + 4)]) else
    ([.bool (byN (x.next l 6).2.1 2 == 2), .int .i64 (lowK (x.next l 6).2.1 4 2), .int .i64 0, .int .i64 0, .int .i64 0, .int .i64 0, .int .i64 0, .int .i64 0, .int .i64 0], [.int .i64 0, .int .i64 0, .int .i64 0])
  else (zero9, faultL (x.next l 6).1.1 (x.next l 6).1.2 4)
def BeginPost (w : World) (X : Nat) (x : Sr) (l : Led) (e : Ending) (w' : World) : Prop :=
  e = .returned (.tuple #[.agg (bRead x l).1.toArray, .agg (bRead x l).2.toArray]) ∧ Pair w' X (x.next l 6).1.1 (x.next l 6).1.2 ∧ Chg (two X x) w w'
set_option maxRecDepth 100000 in
set_option maxHeartbeats 8000000 in
theorem begin_any (X : Nat) (x : Sr) (l : Led) (w : World) (h : Pair w X x l) : Calls Try.prog 76 #[.pointer (some ⟨X, 0, none⟩)] w (BeginPost w X x l) := by
  obtain ⟨RS, hRS⟩ : ∃ r, bRead x l = r := ⟨_, rfl⟩
  have hE := hRS
  unfold bRead at hE
  have hLy := next_L x l 6
  have hsz := fun (ho : (x.next l 6).2.2 = true) => next_ok ho
  have hpe := h.src.ok.pe
  have hps := h.src.ok.es
  have hpz := h.src.ok.sz
  unfold BeginPost
  rw [hRS]
  obtain ⟨⟨⟨y, m⟩, ⟨s, ok⟩⟩, hr⟩ : ∃ r, x.next l 6 = r := ⟨_, rfl⟩
  rw [hr] at hE hsz hLy ⊢
  simp only at hE hsz hLy ⊢
  have lX := h.src.lt
  have lL := h.led.lt
  have HTK := Lib.hid (fun w0 hp => hr ▸ take_any X x l 6 w0 hp)
  have HAT := Lib.hid (fun w0 hp => at_any X x w0 hp)
  have O0 := Lib.hid ((obj1_new w #[.bool false, .int .i64 0, .int .i64 0, .int .i64 0, .int .i64 0, .int .i64 0, .int .i64 0, .int .i64 0, .int .i64 0] 61).alloc (.cells #[.int .i64 0, .int .i64 0, .int .i64 0] 46))
  have O1 := Lib.hid (obj1_new (w.alloc (.cells #[.bool false, .int .i64 0, .int .i64 0, .int .i64 0, .int .i64 0, .int .i64 0, .int .i64 0, .int .i64 0, .int .i64 0] 61)) #[.int .i64 0, .int .i64 0, .int .i64 0] 46)
  have PX := Lib.hid ((h.upon ((Below.refl w.heap.size w).alloc (Nat.le_refl _) (.cells #[.bool false, .int .i64 0, .int .i64 0, .int .i64 0, .int .i64 0, .int .i64 0, .int .i64 0, .int .i64 0, .int .i64 0] 61)) lX lL).upon (B := w.heap.size) ((Below.refl w.heap.size _).alloc (by simp) (.cells #[.int .i64 0, .int .i64 0, .int .i64 0] 46)) lX lL)
  have CH := Lib.hid (((Chg.refl (two X x) w).alloc (.cells #[.bool false, .int .i64 0, .int .i64 0, .int .i64 0, .int .i64 0, .int .i64 0, .int .i64 0, .int .i64 0, .int .i64 0] 61)).alloc (.cells #[.int .i64 0, .int .i64 0, .int .i64 0] 46))
  rw [show (w.alloc (.cells #[.bool false, .int .i64 0, .int .i64 0, .int .i64 0, .int .i64 0, .int .i64 0, .int .i64 0, .int .i64 0, .int .i64 0] 61)).heap.size = w.heap.size + 1 by simp] at O1
  have sz1 : ((w.alloc (.cells #[.bool false, .int .i64 0, .int .i64 0, .int .i64 0, .int .i64 0, .int .i64 0, .int .i64 0, .int .i64 0, .int .i64 0] 61)).alloc (.cells #[.int .i64 0, .int .i64 0, .int .i64 0] 46)).heap.size = w.heap.size + 2 := by simp
  clear hRS h hr
  go_enter Try.func76, Try.ntmps76
  go_upto_region 1 with (fail)
  generalize World.alloc _ _ = w1 at O0 O1 PX CH sz1 ⊢
  go_upto_region 2 with ((go_at_call 34; (with_reducible refine (HAT.out _ PX.out.src).mono ?_); rintro e w2 ⟨rfl, rfl⟩))
  go_wp2_with fail
  refine (HTK.out _ PX.out).mono ?_
  rintro e w2 ⟨rfl, hP, hC⟩
  have O0 := Lib.hid (hC.obj O0.out (by unfold two; omega))
  have O1 := Lib.hid (hC.obj O1.out (by unfold two; omega))
  have PX := Lib.hid hP
  have CH := Lib.hid (CH.out.trans hC)
  have sz2 := hC.size
  clear hP hC HTK HAT
  cases ok
  · obtain ⟨F, hF⟩ : ∃ F, faultL y m 4 = F := ⟨_, rfl⟩
    have HF := Lib.hid (fun w0 hp => fault_c X y m 4 w0 F hF hp)
    have FL : F.length = 3 := by rw [← hF]; exact faultL_len _ _ _
    have FO : F.all (·.oneCell') = true := by rw [← hF]; exact faultL_one _ _ _
    have ER := Lib.hid (show RS = (zero9, F) by rw [← hE, ← hF]; rfl)
    have FI : (Try.prog.info? 46).map (·.size) = some F.length := by rw [FL]; kernel_rfl
    clear hE hF hsz
    go_wp2_with (first
      | ((go_at_call 72; (with_reducible refine (HF.out _ PX.out).mono ?_); rintro e w3 ⟨rfl, hb⟩); have O0 := Lib.hid (O0.out.below hb O0.out.lt); have O1 := Lib.hid (O1.out.below hb O1.out.lt); have PX := Lib.hid (PX.out.upon hb PX.out.src.lt PX.out.led.lt); have CH := Lib.hid (CH.out.trans (chg_of_below hb _)); clear hb)
      | (refine store_o rfl 61 9 _ _ rfl w.heap.size zero9 rfl rfl (by kernel_rfl) (by kernel_rfl) (by kernel_rfl) O0.out (by first | rfl | simp) ?_; intro w7 hst hO; have O0 := Lib.hid hO; have O1 := Lib.hid (hst.oth O1.out (by omega)); have PX := Lib.hid (PX.out.into hst (by omega) (by omega)); have CH := Lib.hid (hst.chg CH.out (by omega)); clear hst hO)
      | (refine store_o rfl 46 3 _ _ rfl (w.heap.size + 1) F FL FO (by kernel_rfl) (by kernel_rfl) (by kernel_rfl) O1.out (by first | rfl | simp) ?_; intro w8 hst hO; have O1 := Lib.hid hO; have O0 := Lib.hid (hst.oth O0.out (by omega)); have PX := Lib.hid (PX.out.into hst (by omega) (by omega)); have CH := Lib.hid (hst.chg CH.out (by omega)); clear hst hO; refine gen_frame2 2 3 (.pointer (some ⟨w.heap.size, 0, none⟩)) (.pointer (some ⟨w.heap.size + 1, 0, none⟩)) (by kernel_rfl) (by kernel_rfl) (by kernel_rfl) ?_; intro A hA hB hAd))
    refine bodyPost_ret (v := .tuple #[.agg (List.toArray zero9), .agg (List.toArray F)]) ?_ hAd ⟨by rw [ER.out], PX.out, CH.out⟩
    exact results_cc Try.results76 _ _ _ _ zero9 F _ _ hA O0.out.range0 Try.underlying61 rfl (by kernel_rfl) hB O1.out.range0 Try.underlying46 rfl FI
  obtain ⟨-, -, hn, -, -, hs⟩ := hsz rfl
  have h6 : s.size = 6 := by rw [hs, ByteArray.size_extract]; omega
  have hp6 : (x.p : Int) + 6 ≤ x.e := by omega
  clear hs hsz hn
  obtain ⟨v0, hv0⟩ : ∃ v, lowK s 0 2 = v := ⟨_, rfl⟩
  obtain ⟨v2, hv2⟩ : ∃ v, lowK s 2 2 = v := ⟨_, rfl⟩
  obtain ⟨v4, hv4⟩ : ∃ v, lowK s 4 2 = v := ⟨_, rfl⟩
  obtain ⟨b2, hb2⟩ : ∃ v, byN s 2 = v := ⟨_, rfl⟩
  have HL0 := Lib.hid (fun w0 => low_at s 0 2 0 2 v0 w0 rfl rfl hv0 (by omega) (by omega) (by omega))
  have HL2 := Lib.hid (fun w0 => low_at s 2 2 2 2 v2 w0 rfl rfl hv2 (by omega) (by omega) (by omega))
  have HL4 := Lib.hid (fun w0 => low_at s 4 2 4 2 v4 w0 rfl rfl hv4 (by omega) (by omega) (by omega))
  have i2 : 2 < s.size := by omega
  have g2 : ((s[2]).toNat : Int) = b2 := by rw [← hb2]; exact byN_get s 2 i2
  rw [hv0, hv2, hv4, hb2] at hE
  clear hv0 hv2 hv4 hb2
  have eW2 : IntKind.i64.wrap ((x.p : Int) + 2) = (x.p : Int) + 2 := i64_wraps _ (by omega) (by omega)
  have eW4 : IntKind.i64.wrap ((x.p : Int) + 4) = (x.p : Int) + 4 := i64_wraps _ (by omega) (by omega)
  obtain ⟨c0, e0⟩ : ∃ b, (v0 != 0) = b := ⟨_, rfl⟩
  obtain ⟨c1, e1⟩ : ∃ b, decide (v2 < 1) = b := ⟨_, rfl⟩
  obtain ⟨c2, e2⟩ : ∃ b, decide (v2 > 2) = b := ⟨_, rfl⟩
  obtain ⟨c4, e4⟩ : ∃ b, (v4 == 0) = b := ⟨_, rfl⟩
  obtain ⟨bq, eb⟩ : ∃ b, (b2 == 2) = b := ⟨_, rfl⟩
  rw [e0, e1, e2, e4, eb] at hE
  have HE := Lib.hid hE
  clear hE
  cases c0
  rotate_left
  · skip
    have ER := Lib.hid (show RS = (zero9, [.int .i64 2, .int .i64 4, .int .i64 (x.p)]) by rw [← HE.out]; rfl)
    go_wp2_with (first
      | ((go_at_call 82; (with_reducible refine (HL0.out _).mono ?_); rintro e w5 ⟨rfl, rfl⟩)) | ((go_at_call 82; (with_reducible refine (HL2.out _).mono ?_); rintro e w5 ⟨rfl, rfl⟩)) | ((go_at_call 82; (with_reducible refine (HL4.out _).mono ?_); rintro e w5 ⟨rfl, rfl⟩))
      | ((go_at_call 79; (with_reducible refine (iwrong_any _ _).mono ?_); rintro e w3 ⟨rfl, hb⟩); have O0 := Lib.hid (O0.out.below hb O0.out.lt); have O1 := Lib.hid (O1.out.below hb O1.out.lt); have PX := Lib.hid (PX.out.upon hb PX.out.src.lt PX.out.led.lt); have CH := Lib.hid (CH.out.trans (chg_of_below hb _)); clear hb)
      | (refine store_o rfl 61 9 _ _ rfl w.heap.size zero9 rfl rfl (by kernel_rfl) (by kernel_rfl) (by kernel_rfl) O0.out (by first | rfl | simp) ?_; intro w7 hst hO; have O0 := Lib.hid hO; have O1 := Lib.hid (hst.oth O1.out (by omega)); have PX := Lib.hid (PX.out.into hst (by omega) (by omega)); have CH := Lib.hid (hst.chg CH.out (by omega)); clear hst hO)
      | (refine store_o rfl 46 3 _ _ rfl (w.heap.size + 1) [.int .i64 2, .int .i64 4, .int .i64 (x.p)] rfl rfl (by kernel_rfl) (by kernel_rfl) (by kernel_rfl) O1.out (by first | rfl | simp) ?_; intro w8 hst hO; have O1 := Lib.hid hO; have O0 := Lib.hid (hst.oth O0.out (by omega)); have PX := Lib.hid (PX.out.into hst (by omega) (by omega)); have CH := Lib.hid (hst.chg CH.out (by omega)); clear hst hO; refine gen_frame2 2 3 (.pointer (some ⟨w.heap.size, 0, none⟩)) (.pointer (some ⟨w.heap.size + 1, 0, none⟩)) (by kernel_rfl) (by kernel_rfl) (by kernel_rfl) ?_; intro A hA hB hAd))
    refine bodyPost_ret (v := .tuple #[.agg (List.toArray zero9), .agg (List.toArray [.int .i64 2, .int .i64 4, .int .i64 (x.p)])]) ?_ hAd ⟨by rw [ER.out], PX.out, CH.out⟩
    exact results_cc Try.results76 _ _ _ _ zero9 [.int .i64 2, .int .i64 4, .int .i64 (x.p)] _ _ hA O0.out.range0 Try.underlying61 rfl (by kernel_rfl) hB O1.out.range0 Try.underlying46 rfl (by kernel_rfl)
  cases c1
  rotate_left
  · skip
    have ER := Lib.hid (show RS = (zero9, [.int .i64 2, .int .i64 4, .int .i64 ((x.p : Int) + 2)]) by rw [← HE.out]; rfl)
    go_wp2_with (first
      | ((go_at_call 82; (with_reducible refine (HL0.out _).mono ?_); rintro e w5 ⟨rfl, rfl⟩)) | ((go_at_call 82; (with_reducible refine (HL2.out _).mono ?_); rintro e w5 ⟨rfl, rfl⟩)) | ((go_at_call 82; (with_reducible refine (HL4.out _).mono ?_); rintro e w5 ⟨rfl, rfl⟩))
      | ((go_at_call 79; (with_reducible refine (iwrong_any _ _).mono ?_); rintro e w3 ⟨rfl, hb⟩); have O0 := Lib.hid (O0.out.below hb O0.out.lt); have O1 := Lib.hid (O1.out.below hb O1.out.lt); have PX := Lib.hid (PX.out.upon hb PX.out.src.lt PX.out.led.lt); have CH := Lib.hid (CH.out.trans (chg_of_below hb _)); clear hb)
      | (refine store_o rfl 61 9 _ _ rfl w.heap.size zero9 rfl rfl (by kernel_rfl) (by kernel_rfl) (by kernel_rfl) O0.out (by first | rfl | simp) ?_; intro w7 hst hO; have O0 := Lib.hid hO; have O1 := Lib.hid (hst.oth O1.out (by omega)); have PX := Lib.hid (PX.out.into hst (by omega) (by omega)); have CH := Lib.hid (hst.chg CH.out (by omega)); clear hst hO)
      | (refine store_o rfl 46 3 _ _ rfl (w.heap.size + 1) [.int .i64 2, .int .i64 4, .int .i64 ((x.p : Int) + 2)] rfl rfl (by kernel_rfl) (by kernel_rfl) (by kernel_rfl) O1.out (by first | rfl | simp) ?_; intro w8 hst hO; have O1 := Lib.hid hO; have O0 := Lib.hid (hst.oth O0.out (by omega)); have PX := Lib.hid (PX.out.into hst (by omega) (by omega)); have CH := Lib.hid (hst.chg CH.out (by omega)); clear hst hO; refine gen_frame2 2 3 (.pointer (some ⟨w.heap.size, 0, none⟩)) (.pointer (some ⟨w.heap.size + 1, 0, none⟩)) (by kernel_rfl) (by kernel_rfl) (by kernel_rfl) ?_; intro A hA hB hAd))
    refine bodyPost_ret (v := .tuple #[.agg (List.toArray zero9), .agg (List.toArray [.int .i64 2, .int .i64 4, .int .i64 ((x.p : Int) + 2)])]) ?_ hAd ⟨by rw [ER.out], PX.out, CH.out⟩
    exact results_cc Try.results76 _ _ _ _ zero9 [.int .i64 2, .int .i64 4, .int .i64 ((x.p : Int) + 2)] _ _ hA O0.out.range0 Try.underlying61 rfl (by kernel_rfl) hB O1.out.range0 Try.underlying46 rfl (by kernel_rfl)
  cases c2
  rotate_left
  · skip
    have ER := Lib.hid (show RS = (zero9, [.int .i64 2, .int .i64 4, .int .i64 ((x.p : Int) + 2)]) by rw [← HE.out]; rfl)
    go_wp2_with (first
      | ((go_at_call 82; (with_reducible refine (HL0.out _).mono ?_); rintro e w5 ⟨rfl, rfl⟩)) | ((go_at_call 82; (with_reducible refine (HL2.out _).mono ?_); rintro e w5 ⟨rfl, rfl⟩)) | ((go_at_call 82; (with_reducible refine (HL4.out _).mono ?_); rintro e w5 ⟨rfl, rfl⟩))
      | ((go_at_call 79; (with_reducible refine (iwrong_any _ _).mono ?_); rintro e w3 ⟨rfl, hb⟩); have O0 := Lib.hid (O0.out.below hb O0.out.lt); have O1 := Lib.hid (O1.out.below hb O1.out.lt); have PX := Lib.hid (PX.out.upon hb PX.out.src.lt PX.out.led.lt); have CH := Lib.hid (CH.out.trans (chg_of_below hb _)); clear hb)
      | (refine store_o rfl 61 9 _ _ rfl w.heap.size zero9 rfl rfl (by kernel_rfl) (by kernel_rfl) (by kernel_rfl) O0.out (by first | rfl | simp) ?_; intro w7 hst hO; have O0 := Lib.hid hO; have O1 := Lib.hid (hst.oth O1.out (by omega)); have PX := Lib.hid (PX.out.into hst (by omega) (by omega)); have CH := Lib.hid (hst.chg CH.out (by omega)); clear hst hO)
      | (refine store_o rfl 46 3 _ _ rfl (w.heap.size + 1) [.int .i64 2, .int .i64 4, .int .i64 ((x.p : Int) + 2)] rfl rfl (by kernel_rfl) (by kernel_rfl) (by kernel_rfl) O1.out (by first | rfl | simp) ?_; intro w8 hst hO; have O1 := Lib.hid hO; have O0 := Lib.hid (hst.oth O0.out (by omega)); have PX := Lib.hid (PX.out.into hst (by omega) (by omega)); have CH := Lib.hid (hst.chg CH.out (by omega)); clear hst hO; refine gen_frame2 2 3 (.pointer (some ⟨w.heap.size, 0, none⟩)) (.pointer (some ⟨w.heap.size + 1, 0, none⟩)) (by kernel_rfl) (by kernel_rfl) (by kernel_rfl) ?_; intro A hA hB hAd))
    refine bodyPost_ret (v := .tuple #[.agg (List.toArray zero9), .agg (List.toArray [.int .i64 2, .int .i64 4, .int .i64 ((x.p : Int) + 2)])]) ?_ hAd ⟨by rw [ER.out], PX.out, CH.out⟩
    exact results_cc Try.results76 _ _ _ _ zero9 [.int .i64 2, .int .i64 4, .int .i64 ((x.p : Int) + 2)] _ _ hA O0.out.range0 Try.underlying61 rfl (by kernel_rfl) hB O1.out.range0 Try.underlying46 rfl (by kernel_rfl)
  cases c4
  rotate_left
  · skip
    have ER := Lib.hid (show RS = (zero9, [.int .i64 2, .int .i64 4, .int .i64 ((x.p : Int) + 4)]) by rw [← HE.out]; rfl)
    go_wp2_with (first
      | ((go_at_call 82; (with_reducible refine (HL0.out _).mono ?_); rintro e w5 ⟨rfl, rfl⟩)) | ((go_at_call 82; (with_reducible refine (HL2.out _).mono ?_); rintro e w5 ⟨rfl, rfl⟩)) | ((go_at_call 82; (with_reducible refine (HL4.out _).mono ?_); rintro e w5 ⟨rfl, rfl⟩))
      | ((go_at_call 79; (with_reducible refine (iwrong_any _ _).mono ?_); rintro e w3 ⟨rfl, hb⟩); have O0 := Lib.hid (O0.out.below hb O0.out.lt); have O1 := Lib.hid (O1.out.below hb O1.out.lt); have PX := Lib.hid (PX.out.upon hb PX.out.src.lt PX.out.led.lt); have CH := Lib.hid (CH.out.trans (chg_of_below hb _)); clear hb)
      | (refine store_o rfl 61 9 _ _ rfl w.heap.size zero9 rfl rfl (by kernel_rfl) (by kernel_rfl) (by kernel_rfl) O0.out (by first | rfl | simp) ?_; intro w7 hst hO; have O0 := Lib.hid hO; have O1 := Lib.hid (hst.oth O1.out (by omega)); have PX := Lib.hid (PX.out.into hst (by omega) (by omega)); have CH := Lib.hid (hst.chg CH.out (by omega)); clear hst hO)
      | (refine store_o rfl 46 3 _ _ rfl (w.heap.size + 1) [.int .i64 2, .int .i64 4, .int .i64 ((x.p : Int) + 4)] rfl rfl (by kernel_rfl) (by kernel_rfl) (by kernel_rfl) O1.out (by first | rfl | simp) ?_; intro w8 hst hO; have O1 := Lib.hid hO; have O0 := Lib.hid (hst.oth O0.out (by omega)); have PX := Lib.hid (PX.out.into hst (by omega) (by omega)); have CH := Lib.hid (hst.chg CH.out (by omega)); clear hst hO; refine gen_frame2 2 3 (.pointer (some ⟨w.heap.size, 0, none⟩)) (.pointer (some ⟨w.heap.size + 1, 0, none⟩)) (by kernel_rfl) (by kernel_rfl) (by kernel_rfl) ?_; intro A hA hB hAd))
    refine bodyPost_ret (v := .tuple #[.agg (List.toArray zero9), .agg (List.toArray [.int .i64 2, .int .i64 4, .int .i64 ((x.p : Int) + 4)])]) ?_ hAd ⟨by rw [ER.out], PX.out, CH.out⟩
    exact results_cc Try.results76 _ _ _ _ zero9 [.int .i64 2, .int .i64 4, .int .i64 ((x.p : Int) + 4)] _ _ hA O0.out.range0 Try.underlying61 rfl (by kernel_rfl) hB O1.out.range0 Try.underlying46 rfl (by kernel_rfl)
  have ER := Lib.hid (show RS = ([.bool bq, .int .i64 v4, .int .i64 0, .int .i64 0, .int .i64 0, .int .i64 0, .int .i64 0, .int .i64 0, .int .i64 0], [.int .i64 0, .int .i64 0, .int .i64 0]) by rw [← HE.out]; rfl)
  go_upto_region 11 with (first | ((go_at_call 82; (with_reducible refine (HL0.out _).mono ?_); rintro e w5 ⟨rfl, rfl⟩)) | ((go_at_call 82; (with_reducible refine (HL2.out _).mono ?_); rintro e w5 ⟨rfl, rfl⟩)) | ((go_at_call 82; (with_reducible refine (HL4.out _).mono ?_); rintro e w5 ⟨rfl, rfl⟩)))
  refine wp_region_noPanic ?_
  refine wp_region_held_drew (S := fun w' => True) (by kernel_rfl) trivial (fun hHeld => ?_)
  refine wpAnyH_take (i := 0) (v := .string s) rfl (by kernel_rfl) (by kernel_rfl) (by kernel_rfl) (fun _ _ _ h => h) (Or.inl ⟨by rfl, fun w hS => by go_simp⟩) hHeld ?_
  simp only [Act.put, List.setIfInBounds_toArray, List.set_cons_zero, List.set_cons_succ, List.getElem_toArray, List.getElem_cons_zero, List.getElem_cons_succ]
  refine wpAnyH_take (i := 1) (v := .int .u8 b2) rfl (by kernel_rfl) (by kernel_rfl) (by kernel_rfl) (fun _ _ _ h => h) (Or.inl ⟨by rfl, fun w hS => by go_simp⟩) hHeld ?_
  simp only [Act.put, List.setIfInBounds_toArray, List.set_cons_zero, List.set_cons_succ, List.getElem_toArray, List.getElem_cons_zero, List.getElem_cons_succ]
  refine wpAnyH_take (i := 2) (v := .bool bq) rfl (by kernel_rfl) (by kernel_rfl) (by kernel_rfl) (fun _ _ _ h => h) (Or.inl ⟨by rfl, fun w hS => by go_simp⟩) hHeld ?_
  simp only [Act.put, List.setIfInBounds_toArray, List.set_cons_zero, List.set_cons_succ, List.getElem_toArray, List.getElem_cons_zero, List.getElem_cons_succ]
  refine wpAnyH_take (i := 3) (v := .string s) rfl (by kernel_rfl) (by kernel_rfl) (by kernel_rfl) (fun _ _ _ h => h) (Or.inl ⟨by rfl, fun w hS => by go_simp⟩) hHeld ?_
  simp only [Act.put, List.setIfInBounds_toArray, List.set_cons_zero, List.set_cons_succ, List.getElem_toArray, List.getElem_cons_zero, List.getElem_cons_succ]
  refine wpAnyH_take (i := 6) (v := .agg #[.int .i64 0, .int .i64 0, .int .i64 0]) rfl (by kernel_rfl) (by kernel_rfl) (by kernel_rfl) (fun _ _ _ h => h) (Or.inl ⟨by rfl, fun w hS => by go_simp⟩) hHeld ?_
  simp only [Act.put, List.setIfInBounds_toArray, List.set_cons_zero, List.set_cons_succ, List.getElem_toArray, List.getElem_cons_zero, List.getElem_cons_succ]
  refine wpAnyH_ready (rs := [4]) (by kernel_rfl) (by simp) ?_
  refine AllReadyH.cons (o := _) rfl (fun K' hK => ?_) AllReadyH.nil
  go_simp
  refine (HL4.out _).mono ?_
  rintro e w5 ⟨rfl, hw5⟩
  go_wp2_with fail
  refine hK _ _ trivial (fun hH1 => ?_)
  clear hK K'
  try simp only [Act.put, List.setIfInBounds_toArray, List.set_cons_zero, List.set_cons_succ, List.getElem_toArray, List.getElem_cons_zero, List.getElem_cons_succ]
  refine wpAnyH_take (i := 5) (v := .agg #[.bool bq, .int .i64 v4, .int .i64 0, .int .i64 0, .int .i64 0, .int .i64 0, .int .i64 0, .int .i64 0, .int .i64 0]) rfl (by kernel_rfl) (by kernel_rfl) (by kernel_rfl) (fun _ _ _ h => h) (Or.inl ⟨by rfl, fun w hS => by go_simp⟩) hH1 ?_
  simp only [Act.put, List.setIfInBounds_toArray, List.set_cons_zero, List.set_cons_succ, List.getElem_toArray, List.getElem_cons_zero, List.getElem_cons_succ]
  have O0 := Lib.hid (O0.out.drew)
  have O1 := Lib.hid (O1.out.drew)
  have PX := Lib.hid (⟨⟨PX.out.src.obj.drew, PX.out.src.ok, PX.out.src.ne⟩, ⟨PX.out.led.obj.drew, PX.out.led.ok⟩⟩ : Pair _ X y m)
  have CH := Lib.hid CH.out.drew
  subst hw5
  generalize World.drew _ = wk at O0 O1 PX CH ⊢
  refine wpAnyH_ready (rs := [7]) (by kernel_rfl) (by simp) ?_
  refine AllReadyH.cons (o := _) rfl (fun K' hK => ?_) AllReadyH.nil
  rw [if_pos (by rfl)]
  refine wp_store_mid 61 _ _ rfl (w.heap.size) 0 (List.toArray [.bool bq, .int .i64 v4, .int .i64 0, .int .i64 0, .int .i64 0, .int .i64 0, .int .i64 0, .int .i64 0, .int .i64 0]) rfl rfl (O0.out.there 0 9 (by simp)) (by kernel_rfl) (all_oneCell_toArray (List.all_eq_true.1 (by rfl))) ?_
  simp only [Act.put, List.setIfInBounds_toArray, List.set_cons_zero, List.set_cons_succ, List.getElem_toArray, List.getElem_cons_zero, List.getElem_cons_succ]
  have hst : Stored wk (w.heap.size) 0 [.bool bq, .int .i64 v4, .int .i64 0, .int .i64 0, .int .i64 0, .int .i64 0, .int .i64 0, .int .i64 0, .int .i64 0] (wk.setCells (w.heap.size) 0 [.bool bq, .int .i64 v4, .int .i64 0, .int .i64 0, .int .i64 0, .int .i64 0, .int .i64 0, .int .i64 0, .int .i64 0]) := rfl
  have O0 := Lib.hid (hst.whole O0.out (by first | rfl | simp))
  have O1 := Lib.hid (hst.oth O1.out (by omega))
  have PX := Lib.hid (PX.out.into hst (by omega) (by omega))
  have CH := Lib.hid (hst.chg CH.out (by omega))
  generalize World.setCells _ _ _ _ = wk2 at O0 O1 PX CH ⊢
  clear hst
  refine hK _ _ trivial (fun hH7 => ?_)
  clear hK K'
  obtain ⟨wk, rfl⟩ : ∃ z, z = wk2 := ⟨_, rfl⟩
  refine wpAnyH_ready (rs := [8]) (by kernel_rfl) (by simp) ?_
  refine AllReadyH.cons (o := _) rfl (fun K' hK => ?_) AllReadyH.nil
  rw [if_pos (by rfl)]
  refine wp_store_mid 46 _ _ rfl (w.heap.size + 1) 0 (List.toArray [.int .i64 0, .int .i64 0, .int .i64 0]) rfl rfl (O1.out.there 0 3 (by simp)) (by kernel_rfl) (all_oneCell_toArray (List.all_eq_true.1 (by rfl))) ?_
  simp only [Act.put, List.setIfInBounds_toArray, List.set_cons_zero, List.set_cons_succ, List.getElem_toArray, List.getElem_cons_zero, List.getElem_cons_succ]
  have hst : Stored wk (w.heap.size + 1) 0 [.int .i64 0, .int .i64 0, .int .i64 0] (wk.setCells (w.heap.size + 1) 0 [.int .i64 0, .int .i64 0, .int .i64 0]) := rfl
  have O1 := Lib.hid (hst.whole O1.out (by first | rfl | simp))
  have O0 := Lib.hid (hst.oth O0.out (by omega))
  have PX := Lib.hid (PX.out.into hst (by omega) (by omega))
  have CH := Lib.hid (hst.chg CH.out (by omega))
  generalize World.setCells _ _ _ _ = wk2 at O0 O1 PX CH ⊢
  clear hst
  refine hK _ _ trivial (fun hH8 => ?_)
  clear hK K'
  obtain ⟨wk, rfl⟩ : ∃ z, z = wk2 := ⟨_, rfl⟩
  refine wpAnyH_done (by kernel_rfl) ?_ _
  refine NoPanic.normal ?_
  go_wp2_with fail
  refine bodyPost_ret (v := .tuple #[.agg (List.toArray [.bool bq, .int .i64 v4, .int .i64 0, .int .i64 0, .int .i64 0, .int .i64 0, .int .i64 0, .int .i64 0, .int .i64 0]), .agg (List.toArray [.int .i64 0, .int .i64 0, .int .i64 0])]) ?_ rfl ⟨by rw [ER.out], PX.out, CH.out⟩
  exact results_cc Try.results76 _ _ _ _ [.bool bq, .int .i64 v4, .int .i64 0, .int .i64 0, .int .i64 0, .int .i64 0, .int .i64 0, .int .i64 0, .int .i64 0] [.int .i64 0, .int .i64 0, .int .i64 0] _ _ rfl O0.out.range0 Try.underlying61 rfl (by kernel_rfl) rfl O1.out.range0 Try.underlying46 rfl (by kernel_rfl)
end Go.Proofs.Ytomikbecbbjhoaa

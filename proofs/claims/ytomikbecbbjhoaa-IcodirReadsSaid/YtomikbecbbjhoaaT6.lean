/- tgahead.Read, walked. -/
import Derived.Test.YtomikbecbbjhoaaT5
namespace Go.Proofs.Ytomikbecbbjhoaa
open Go.RowKit
set_option linter.unusedVariables false
set_option linter.unusedSimpArgs false
theorem Stored.chg {S : Nat → Prop} {a w w2 : World} {b o : Nat} {vs : List Value} (hst : Stored w b o vs w2) (h : Chg S a w) (hb : a.heap.size ≤ b) : Chg S a w2 := by
  rw [show w2 = _ from hst]; clear hst
  induction vs generalizing w o with
  | nil => exact h
  | cons v r ih => rw [World.setCells]; exact ih (h.set _ _ (Or.inr hb))
theorem Pair.into {w w2 : World} {X b o : Nat} {vs : List Value} {x : Sr} {l : Led} (h : Pair w X x l) (hst : Stored w b o vs w2) (h1 : X ≠ b) (h2 : x.L ≠ b) : Pair w2 X x l :=
  ⟨⟨hst.oth h.src.obj h1, h.src.ok, h.src.ne⟩, ⟨hst.oth h.led.obj h2, h.led.ok⟩⟩
theorem Pair.upon {B : Nat} {w w' : World} {X : Nat} {x : Sr} {l : Led} (h : Pair w X x l) (hb : Below B w w') (h1 : X < B) (h2 : x.L < B) : Pair w' X x l := ⟨⟨h.src.obj.below hb h1, h.src.ok, h.src.ne⟩, ⟨h.led.obj.below hb h2, h.led.ok⟩⟩
def faultL (x : Sr) (l : Led) (f : Int) : List Value := if l.br = true then [.int .i64 4, .int .i64 f, .int .i64 x.p] else [.int .i64 1, .int .i64 f, .int .i64 x.e]
theorem faultL_eq (x : Sr) (l : Led) (f : Int) : x.fault l f = .agg (faultL x l f).toArray := by unfold Sr.fault faultL; split <;> rfl
theorem faultL_len (x : Sr) (l : Led) (f : Int) : (faultL x l f).length = 3 := by unfold faultL; split <;> rfl
theorem faultL_one (x : Sr) (l : Led) (f : Int) : (faultL x l f).all (·.oneCell') = true := by unfold faultL; split <;> rfl
def zero12 : List Value := [.int .i64 0, .bool false, .int .i64 0, .int .i64 0, .int .i64 0, .int .i64 0, .int .i64 0, .int .i64 0, .int .i64 0, .int .i64 0, .bool false, .bool false]
def tRead (x : Sr) (l : Led) : List Value × List Value :=
  if (x.next l 18).2.2 = true then (match (chkS (x.next l 18).2.1).first with | some p => (zero12, [.int .i64 p.1, .int .i64 2, .int .i64 (x.p + p.2)]) | none => (headL (x.next l 18).2.1, [.int .i64 0, .int .i64 0, .int .i64 0]))
  else (zero12, faultL (x.next l 18).1.1 (x.next l 18).1.2 2)
def TReadPost (w : World) (X : Nat) (x : Sr) (l : Led) (e : Ending) (w' : World) : Prop :=
  e = .returned (.tuple #[.agg (tRead x l).1.toArray, .agg (tRead x l).2.toArray]) ∧ Pair w' X (x.next l 18).1.1 (x.next l 18).1.2 ∧ Chg (two X x) w w'
theorem next_L (x : Sr) (l : Led) (n : Int) : (x.next l n).1.1.L = x.L := by unfold Sr.next; split <;> rfl
theorem headL_len (s : ByteArray) : (headL s).length = 12 := rfl
theorem headL_one (s : ByteArray) : (headL s).all (·.oneCell') = true := rfl
theorem fault_c (X : Nat) (x : Sr) (l : Led) (f : Int) (w : World) (F : List Value) (hF : faultL x l f = F) (h : Pair w X x l) : Calls Try.prog 72 #[.pointer (some ⟨X, 0, none⟩), .int .i64 f] w (RA w F) := by
  subst hF
  exact (fault_any X x l f w h).mono fun e w' hh => ⟨hh.1.trans (by rw [faultL_eq]), hh.2⟩
theorem checks_d (s : ByteArray) (c : Chk) (w : World) (h : s.size = 18) (hc : chkS s = c) : Calls Try.prog 69 #[.string s] w fun e w' => ∃ B T, e = .returned (.slice (some ⟨B, 0, none⟩) 12 12) ∧ Obj1 w' B c.arr T ∧ w.heap.size ≤ B ∧ Below w.heap.size w w' := by
  subst hc; exact checks_any s w h
set_option maxRecDepth 100000 in
set_option maxHeartbeats 8000000 in
theorem tread_any (X : Nat) (x : Sr) (l : Led) (w : World) (h : Pair w X x l) : Calls Try.prog 31 #[.pointer (some ⟨X, 0, none⟩)] w (TReadPost w X x l) := by
  obtain ⟨RS, hRS⟩ : ∃ r, tRead x l = r := ⟨_, rfl⟩
  have hE := hRS
  unfold tRead at hE
  have hLy := next_L x l 18
  have hsz := fun (ho : (x.next l 18).2.2 = true) => next_ok ho
  have hpe := h.src.ok.pe
  have hps := h.src.ok.es
  have hpz := h.src.ok.sz
  unfold TReadPost
  rw [hRS]
  obtain ⟨⟨⟨y, m⟩, ⟨s, ok⟩⟩, hr⟩ : ∃ r, x.next l 18 = r := ⟨_, rfl⟩
  rw [hr] at hE hsz hLy ⊢
  simp only at hE hsz hLy ⊢
  have lX := h.src.lt
  have lL := h.led.lt
  have HTK := Lib.hid (fun w0 hp => hr ▸ take_any X x l 18 w0 hp)
  have HAT := Lib.hid (fun w0 hp => at_any X x w0 hp)
  have O0 := Lib.hid ((obj1_new w zero12.toArray 44).alloc (.cells #[.int .i64 0, .int .i64 0, .int .i64 0] 46))
  have O1 := Lib.hid (obj1_new (w.alloc (.cells zero12.toArray 44)) #[.int .i64 0, .int .i64 0, .int .i64 0] 46)
  have PX := Lib.hid ((h.upon ((Below.refl w.heap.size w).alloc (Nat.le_refl _) (.cells zero12.toArray 44)) lX lL).upon (B := w.heap.size) ((Below.refl w.heap.size _).alloc (by simp) (.cells #[.int .i64 0, .int .i64 0, .int .i64 0] 46)) lX lL)
  have CH := Lib.hid (((Chg.refl (two X x) w).alloc (.cells zero12.toArray 44)).alloc (.cells #[.int .i64 0, .int .i64 0, .int .i64 0] 46))
  rw [show (w.alloc (.cells zero12.toArray 44)).heap.size = w.heap.size + 1 by simp] at O1
  have sz1 : ((w.alloc (.cells zero12.toArray 44)).alloc (.cells #[.int .i64 0, .int .i64 0, .int .i64 0] 46)).heap.size = w.heap.size + 2 := by simp
  unfold zero12 at O0 O1 PX CH sz1
  clear hRS h hr
  go_enter Try.func31, Try.ntmps31
  go_upto_region 1 with (fail)
  generalize World.alloc _ _ = w1 at O0 O1 PX CH sz1 ⊢
  go_upto_region 2 with ((go_at_call 34; (with_reducible refine (HAT.out _ PX.out.src).mono ?_); rintro e w2 ⟨rfl, rfl⟩))
  go_wp2_with fail
  refine (HTK.out _ PX.out).mono ?_
  rintro e w2 ⟨rfl, hP, hC⟩
  have O0 := Lib.hid (hC.obj O0.out (by unfold two; omega))
  have O1 := Lib.hid (hC.obj O1.out (by unfold two; omega))
  have PX := Lib.hid hP
  have CH := Lib.hid (CH.out.trans hC)
  have sz2 := hC.size
  clear hP hC HTK HAT
  cases ok
  · obtain ⟨F, hF⟩ : ∃ F, faultL y m 2 = F := ⟨_, rfl⟩
    have HF := Lib.hid (fun w0 hp => fault_c X y m 2 w0 F hF hp)
    have FL : F.length = 3 := by rw [← hF]; exact faultL_len _ _ _
    have FO : F.all (·.oneCell') = true := by rw [← hF]; exact faultL_one _ _ _
    have ER := Lib.hid (show RS = (zero12, F) by rw [← hE, ← hF]; rfl)
    have FI : (Try.prog.info? 46).map (·.size) = some F.length := by rw [FL]; kernel_rfl
    clear hE hF hsz
    go_wp2_with (first
      | ((go_at_call 72; (with_reducible refine (HF.out _ PX.out).mono ?_); rintro e w3 ⟨rfl, hb⟩); have O0 := Lib.hid (O0.out.below hb O0.out.lt); have O1 := Lib.hid (O1.out.below hb O1.out.lt); have PX := Lib.hid (PX.out.upon hb PX.out.src.lt PX.out.led.lt); have CH := Lib.hid (CH.out.trans (chg_of_below hb _)); clear hb)
      | (refine store_o rfl 44 12 _ _ rfl w.heap.size zero12 rfl rfl (by kernel_rfl) (by kernel_rfl) (by kernel_rfl) O0.out (by first | rfl | simp) ?_; intro w7 hst hO; have O0 := Lib.hid hO; have O1 := Lib.hid (hst.oth O1.out (by omega)); have PX := Lib.hid (PX.out.into hst (by omega) (by omega)); have CH := Lib.hid (hst.chg CH.out (by omega)); clear hst hO)
      | (refine store_o rfl 46 3 _ _ rfl (w.heap.size + 1) F FL FO (by kernel_rfl) (by kernel_rfl) (by kernel_rfl) O1.out (by first | rfl | simp) ?_; intro w8 hst hO; have O1 := Lib.hid hO; have O0 := Lib.hid (hst.oth O0.out (by omega)); have PX := Lib.hid (PX.out.into hst (by omega) (by omega)); have CH := Lib.hid (hst.chg CH.out (by omega)); clear hst hO; refine gen_frame2 2 3 (.pointer (some ⟨w.heap.size, 0, none⟩)) (.pointer (some ⟨w.heap.size + 1, 0, none⟩)) (by kernel_rfl) (by kernel_rfl) (by kernel_rfl) ?_; intro A hA hB hAd))
    refine bodyPost_ret (v := .tuple #[.agg (List.toArray zero12), .agg (List.toArray F)]) ?_ hAd ⟨by rw [ER.out], PX.out, CH.out⟩
    exact results_cc Try.results31 _ _ _ _ zero12 F _ _ hA O0.out.range0 Try.underlying44 rfl (by kernel_rfl) hB O1.out.range0 Try.underlying46 rfl FI
  · obtain ⟨-, -, hn, -, -, hs⟩ := hsz rfl
    have h18 : s.size = 18 := by rw [hs, ByteArray.size_extract]; omega
    have hp18 : (x.p : Int) + 18 ≤ x.e := by omega
    obtain ⟨c, hc⟩ : ∃ c, chkS s = c := ⟨_, rfl⟩
    rw [hc] at hE
    have HC := Lib.hid (fun w0 => checks_d s c w0 h18 hc)
    have HH := Lib.hid (fun w0 => thead_any s w0 h18)
    have HHL := headL_len s
    have HHO := headL_one s
    obtain ⟨HS, hHS⟩ : ∃ L, headL s = L := ⟨_, rfl⟩
    rw [hHS] at HH HHL HHO hE
    have HE := Lib.hid hE
    have HHI : (Try.prog.info? 44).map (·.size) = some HS.length := by rw [HHL]; kernel_rfl
    have d18 : (s.size : Int) = 18 := by omega
    clear hE hHS hc hs hsz hn
    go_wp2_with ((go_at_call 69; (with_reducible refine (HC.out _).mono ?_); rintro e w3 ⟨B, T, rfl, hOC, hBB, hb⟩))
    have OC := Lib.hid hOC
    have lB := hOC.lt
    have sz3 := hb.size
    have O0 := Lib.hid (O0.out.below hb O0.out.lt); have O1 := Lib.hid (O1.out.below hb O1.out.lt); have PX := Lib.hid (PX.out.upon hb PX.out.src.lt PX.out.led.lt); have CH := Lib.hid (CH.out.trans (chg_of_below hb _)); clear hb
    clear hOC HC
    go_loopw [8, 24] (fun q8 q24 wr => ∃ i : Nat, i ≤ 12 ∧ q24 = .int .i64 i ∧ c.first = c.from (12 - i) i ∧ Below w3.heap.size w3 wr) (fun _ q24 _ => 12 - (intOf q24).toNat)
    case atStart => exact ⟨0, by omega, rfl, rfl, Below.refl _ _⟩
    case round =>
      obtain ⟨i, hi, rfl, hf, hb⟩ := hrel
      have Hb := Lib.hid hb
      have Hf := Lib.hid hf
      clear hf
      by_cases hlt : i < 12
      · have D1 : decide ((i : Int) < 12) = true := by rw [decide_eq_true_iff]; omega
        obtain ⟨r0, r1, r2, r3⟩ := c.row_cells i hlt
        obtain ⟨⟨wr0, kd, at0, lo⟩, hrow⟩ : ∃ r, c.row i = r := ⟨_, rfl⟩
        have HO2 := OC.out.below hb lB
        rw [hrow] at r0 r1 r2 r3
        have c0 : wr.cell? ⟨B, i * 4, none⟩ = some (.bool wr0) := (HO2.cell _).trans r0
        have c1 : wr.cell? ⟨B, i * 4 + 1, none⟩ = some (.int .i64 kd) := (HO2.cell _).trans r1
        have c2 : wr.cell? ⟨B, i * 4 + 2, none⟩ = some (.int .i64 at0) := (HO2.cell _).trans r2
        have c3 : wr.cell? ⟨B, i * 4 + 3, none⟩ = some (.bool lo) := (HO2.cell _).trans r3
        have HROW := Lib.hid hrow
        have hat : c.row i = (wr0, kd, at0, lo) → 0 ≤ at0 ∧ at0 ≤ 17 := by
          intro hh
          have h9 : 0 ≤ (c.row i).2.2.1 ∧ (c.row i).2.2.1 ≤ 17 := by
            match i, hlt with
            | 0, _ | 1, _ | 2, _ | 3, _ | 4, _ | 5, _ | 6, _ | 7, _ | 8, _ | 9, _ | 10, _ | 11, _ => exact ⟨by simp [Chk.row], by simp [Chk.row]⟩
          rw [hh] at h9; exact h9
        have hat := hat hrow
        clear r0 r1 r2 r3 HO2 hrow hb
        cases wr0
        · go_wp2_with fail
          exact ⟨⟨i + 1, by omega, by go_num, Hf.out.trans (c.from_next hlt HROW.out rfl), Hb.out.alloc Hb.out.size _⟩, by simp [intOf]; omega⟩
        · have ER := Lib.hid (show RS = (zero12, [.int .i64 kd, .int .i64 2, .int .i64 (x.p + at0)]) by rw [← HE.out, Hf.out, c.from_bad hlt HROW.out rfl]; rfl)
          have hb := Hb.out
          have O0 := Lib.hid (O0.out.below hb O0.out.lt); have O1 := Lib.hid (O1.out.below hb O1.out.lt); have PX := Lib.hid (PX.out.upon hb PX.out.src.lt PX.out.led.lt); have CH := Lib.hid (CH.out.trans (chg_of_below hb _)); clear hb
          have szr := Hb.out.size
          go_upto_region 9 with (fail)
          clear c0 c1 c2 c3
          have szk : wr.heap.size < (wr.alloc (.cells #[.bool true, .int .i64 kd, .int .i64 at0, .bool lo] 126)).heap.size := by simp
          have OK := Lib.hid (obj1_new wr #[.bool true, .int .i64 kd, .int .i64 at0, .bool lo] 126)
          have hbk := (Below.refl wr.heap.size wr).alloc (Nat.le_refl _) (.cells #[.bool true, .int .i64 kd, .int .i64 at0, .bool lo] 126)
          have hK0 : w.heap.size + 1 < wr.heap.size := O1.out.lt
          have hKX : X < wr.heap.size := PX.out.src.lt
          have hKL : y.L < wr.heap.size := PX.out.led.lt
          have O0 := Lib.hid (O0.out.below hbk O0.out.lt); have O1 := Lib.hid (O1.out.below hbk O1.out.lt); have PX := Lib.hid (PX.out.upon hbk PX.out.src.lt PX.out.led.lt); have CH := Lib.hid (CH.out.trans (chg_of_below hbk _))
          clear hbk
          obtain ⟨K, hKK⟩ : ∃ K, wr.heap.size = K := ⟨_, rfl⟩
          rw [hKK] at OK hK0 hKX hKL ⊢
          generalize World.alloc _ _ = wk0 at O0 O1 PX CH OK ⊢
          refine wp_region_noPanic ?_
          refine wp_region_held_drew (S := fun w' => w'.cell? ⟨K, 1, none⟩ = some (.int .i64 kd) ∧ w'.cell? ⟨K, 2, none⟩ = some (.int .i64 at0)) (by kernel_rfl) ⟨(OK.out.drew.cell 1).trans rfl, (OK.out.drew.cell 2).trans rfl⟩ (fun hHeld => ?_)
          refine wpAnyH_take (i := 0) (v := .agg #[.int .i64 0, .bool false, .int .i64 0, .int .i64 0, .int .i64 0, .int .i64 0, .int .i64 0, .int .i64 0, .int .i64 0, .int .i64 0, .bool false, .bool false]) rfl (by kernel_rfl) (by kernel_rfl) (by kernel_rfl) (fun _ _ _ h => h) (Or.inl ⟨by rfl, fun w _ => by (go_simp) <;> first | (intro hh; exfalso; omega) | (exact i64_wraps _ (by omega) (by omega))⟩) hHeld ?_
          simp only [Act.put, List.setIfInBounds_toArray, List.set_cons_zero, List.set_cons_succ, List.getElem_toArray, List.getElem_cons_zero, List.getElem_cons_succ]
          refine wpAnyH_take (i := 1) (v := .pointer (some ⟨K, 1, none⟩)) rfl (by kernel_rfl) (by kernel_rfl) (by kernel_rfl) (fun _ _ _ h => h) (Or.inl ⟨by rfl, fun w _ => by (go_simp) <;> first | (intro hh; exfalso; omega) | (exact i64_wraps _ (by omega) (by omega))⟩) hHeld ?_
          simp only [Act.put, List.setIfInBounds_toArray, List.set_cons_zero, List.set_cons_succ, List.getElem_toArray, List.getElem_cons_zero, List.getElem_cons_succ]
          refine wpAnyH_take (i := 2) (v := .int .i64 kd) rfl (by kernel_rfl) (by kernel_rfl) (by kernel_rfl) (fun _ _ _ h => h) (Or.inl ⟨by rfl, fun w _ => by (go_simp) <;> first | (intro hh; exfalso; omega) | (exact i64_wraps _ (by omega) (by omega))⟩) hHeld ?_
          simp only [Act.put, List.setIfInBounds_toArray, List.set_cons_zero, List.set_cons_succ, List.getElem_toArray, List.getElem_cons_zero, List.getElem_cons_succ]
          refine wpAnyH_take (i := 3) (v := .int .i64 x.p) rfl (by kernel_rfl) (by kernel_rfl) (by kernel_rfl) (fun _ _ _ h => h) (Or.inl ⟨by rfl, fun w _ => by (go_simp) <;> first | (intro hh; exfalso; omega) | (exact i64_wraps _ (by omega) (by omega))⟩) hHeld ?_
          simp only [Act.put, List.setIfInBounds_toArray, List.set_cons_zero, List.set_cons_succ, List.getElem_toArray, List.getElem_cons_zero, List.getElem_cons_succ]
          refine wpAnyH_take (i := 4) (v := .pointer (some ⟨K, 2, none⟩)) rfl (by kernel_rfl) (by kernel_rfl) (by kernel_rfl) (fun _ _ _ h => h) (Or.inl ⟨by rfl, fun w _ => by (go_simp) <;> first | (intro hh; exfalso; omega) | (exact i64_wraps _ (by omega) (by omega))⟩) hHeld ?_
          simp only [Act.put, List.setIfInBounds_toArray, List.set_cons_zero, List.set_cons_succ, List.getElem_toArray, List.getElem_cons_zero, List.getElem_cons_succ]
          refine wpAnyH_take (i := 5) (v := .int .i64 at0) rfl (by kernel_rfl) (by kernel_rfl) (by kernel_rfl) (fun _ _ _ h => h) (Or.inl ⟨by rfl, fun w _ => by (go_simp) <;> first | (intro hh; exfalso; omega) | (exact i64_wraps _ (by omega) (by omega))⟩) hHeld ?_
          simp only [Act.put, List.setIfInBounds_toArray, List.set_cons_zero, List.set_cons_succ, List.getElem_toArray, List.getElem_cons_zero, List.getElem_cons_succ]
          refine wpAnyH_take (i := 6) (v := .int .i64 ((x.p : Int) + at0)) rfl (by kernel_rfl) (by kernel_rfl) (by kernel_rfl) (fun _ _ _ h => h) (Or.inl ⟨by rfl, fun w _ => by (go_simp) <;> first | (intro hh; exfalso; omega) | (exact i64_wraps _ (by omega) (by omega))⟩) hHeld ?_
          simp only [Act.put, List.setIfInBounds_toArray, List.set_cons_zero, List.set_cons_succ, List.getElem_toArray, List.getElem_cons_zero, List.getElem_cons_succ]
          refine wpAnyH_take (i := 7) (v := .agg #[.int .i64 kd, .int .i64 2, .int .i64 ((x.p : Int) + at0)]) rfl (by kernel_rfl) (by kernel_rfl) (by kernel_rfl) (fun _ _ _ h => h) (Or.inl ⟨by rfl, fun w _ => by (go_simp) <;> first | (intro hh; exfalso; omega) | (exact i64_wraps _ (by omega) (by omega))⟩) hHeld ?_
          simp only [Act.put, List.setIfInBounds_toArray, List.set_cons_zero, List.set_cons_succ, List.getElem_toArray, List.getElem_cons_zero, List.getElem_cons_succ]
          have O0 := Lib.hid O0.out.drew
          have O1 := Lib.hid O1.out.drew
          have OK := Lib.hid OK.out.drew
          have PX := Lib.hid (⟨⟨PX.out.src.obj.drew, PX.out.src.ok, PX.out.src.ne⟩, ⟨PX.out.led.obj.drew, PX.out.led.ok⟩⟩ : Pair wk0.drew X y m)
          have CH := Lib.hid CH.out.drew
          generalize wk0.drew = wk at O0 O1 OK PX CH ⊢
          refine wpAnyH_ready (rs := [8]) (by kernel_rfl) (by simp) ?_
          refine AllReadyH.cons (o := _) rfl (fun K' hK => ?_) AllReadyH.nil
          rw [if_pos (by rfl)]
          refine wp_store_mid 44 _ _ rfl (w.heap.size) 0 (List.toArray zero12) rfl rfl (O0.out.there 0 12 (by first | simp | (simp; done))) (by kernel_rfl) (all_oneCell_toArray (List.all_eq_true.1 (by rfl))) ?_
          simp only [Act.put, List.setIfInBounds_toArray, List.set_cons_zero, List.set_cons_succ, List.getElem_toArray, List.getElem_cons_zero, List.getElem_cons_succ]
          have hst : Stored wk (w.heap.size) 0 zero12 (wk.setCells (w.heap.size) 0 zero12) := rfl
          have O0 := Lib.hid (hst.whole O0.out (by first | rfl | simp))
          have O1 := Lib.hid (hst.oth O1.out (by omega))
          have OK := Lib.hid (hst.oth OK.out (by omega))
          have PX := Lib.hid (PX.out.into hst (by omega) (by omega))
          have CH := Lib.hid (hst.chg CH.out (by omega))
          generalize World.setCells _ _ _ _ = wk2 at O0 O1 OK PX CH ⊢
          clear hst
          refine hK _ _ ⟨(OK.out.cell 1).trans rfl, (OK.out.cell 2).trans rfl⟩ (fun hH8 => ?_)
          clear hK K'
          obtain ⟨wk, rfl⟩ : ∃ z, z = wk2 := ⟨_, rfl⟩
          refine wpAnyH_ready (rs := [9]) (by kernel_rfl) (by simp) ?_
          refine AllReadyH.cons (o := _) rfl (fun K' hK => ?_) AllReadyH.nil
          rw [if_pos (by rfl)]
          refine wp_store_mid 46 _ _ rfl (w.heap.size + 1) 0 (List.toArray [.int .i64 kd, .int .i64 2, .int .i64 ((x.p : Int) + at0)]) rfl rfl (O1.out.there 0 3 (by first | simp | (simp; done))) (by kernel_rfl) (all_oneCell_toArray (List.all_eq_true.1 (by rfl))) ?_
          simp only [Act.put, List.setIfInBounds_toArray, List.set_cons_zero, List.set_cons_succ, List.getElem_toArray, List.getElem_cons_zero, List.getElem_cons_succ]
          have hst : Stored wk (w.heap.size + 1) 0 [.int .i64 kd, .int .i64 2, .int .i64 ((x.p : Int) + at0)] (wk.setCells (w.heap.size + 1) 0 [.int .i64 kd, .int .i64 2, .int .i64 ((x.p : Int) + at0)]) := rfl
          have O1 := Lib.hid (hst.whole O1.out (by first | rfl | simp))
          have O0 := Lib.hid (hst.oth O0.out (by omega))
          have OK := Lib.hid (hst.oth OK.out (by omega))
          have PX := Lib.hid (PX.out.into hst (by omega) (by omega))
          have CH := Lib.hid (hst.chg CH.out (by omega))
          generalize World.setCells _ _ _ _ = wk2 at O0 O1 OK PX CH ⊢
          clear hst
          refine hK _ _ ⟨(OK.out.cell 1).trans rfl, (OK.out.cell 2).trans rfl⟩ (fun hH9 => ?_)
          clear hK K'
          obtain ⟨wk, rfl⟩ : ∃ z, z = wk2 := ⟨_, rfl⟩
          refine wpAnyH_done (by kernel_rfl) ?_ _
          refine NoPanic.normal ?_
          clear HROW
          go_wp2_with fail
          refine bodyPost_ret (v := .tuple #[.agg (List.toArray zero12), .agg (List.toArray [.int .i64 kd, .int .i64 2, .int .i64 ((x.p : Int) + at0)])]) ?_ rfl ⟨by rw [ER.out], PX.out, CH.out⟩
          exact results_cc Try.results31 _ _ _ _ zero12 [.int .i64 kd, .int .i64 2, .int .i64 ((x.p : Int) + at0)] _ _ rfl O0.out.range0 Try.underlying44 rfl (by kernel_rfl) rfl O1.out.range0 Try.underlying46 rfl (by kernel_rfl)
      · obtain rfl : i = 12 := by omega
        have D1 : decide (((12 : Nat) : Int) < 12) = false := by decide
        have ER := Lib.hid (show RS = (HS, [.int .i64 0, .int .i64 0, .int .i64 0]) by rw [← HE.out, Hf.out]; rfl)
        have O0 := Lib.hid (O0.out.below hb O0.out.lt); have O1 := Lib.hid (O1.out.below hb O1.out.lt); have PX := Lib.hid (PX.out.upon hb PX.out.src.lt PX.out.led.lt); have CH := Lib.hid (CH.out.trans (chg_of_below hb _)); clear hb
        have szr := Hb.out.size
        go_wp2_with (first
          | ((go_at_call 73; (with_reducible refine (HH.out _).mono ?_); rintro e w6 ⟨rfl, hb⟩); have O0 := Lib.hid (O0.out.below hb O0.out.lt); have O1 := Lib.hid (O1.out.below hb O1.out.lt); have PX := Lib.hid (PX.out.upon hb PX.out.src.lt PX.out.led.lt); have CH := Lib.hid (CH.out.trans (chg_of_below hb _)); clear hb)
          | (refine store_o rfl 44 12 _ _ rfl w.heap.size HS HHL HHO (by kernel_rfl) (by kernel_rfl) (by kernel_rfl) O0.out (by first | rfl | simp) ?_; intro w7 hst hO; have O0 := Lib.hid hO; have O1 := Lib.hid (hst.oth O1.out (by omega)); have PX := Lib.hid (PX.out.into hst (by omega) (by omega)); have CH := Lib.hid (hst.chg CH.out (by omega)); clear hst hO)
          | (refine store_o rfl 46 3 _ _ rfl (w.heap.size + 1) [.int .i64 0, .int .i64 0, .int .i64 0] rfl rfl (by kernel_rfl) (by kernel_rfl) (by kernel_rfl) O1.out (by first | rfl | simp) ?_; intro w8 hst hO; have O1 := Lib.hid hO; have O0 := Lib.hid (hst.oth O0.out (by omega)); have PX := Lib.hid (PX.out.into hst (by omega) (by omega)); have CH := Lib.hid (hst.chg CH.out (by omega)); clear hst hO; refine gen_frame2 2 3 (.pointer (some ⟨w.heap.size, 0, none⟩)) (.pointer (some ⟨w.heap.size + 1, 0, none⟩)) (by kernel_rfl) (by kernel_rfl) (by kernel_rfl) ?_; intro A hA hB hAd))
        refine bodyPost_ret (v := .tuple #[.agg (List.toArray HS), .agg (List.toArray [.int .i64 0, .int .i64 0, .int .i64 0])]) ?_ hAd ⟨by rw [ER.out], PX.out, CH.out⟩
        exact results_cc Try.results31 _ _ _ _ HS [.int .i64 0, .int .i64 0, .int .i64 0] _ _ hA O0.out.range0 Try.underlying44 rfl HHI hB O1.out.range0 Try.underlying46 rfl (by kernel_rfl)
end Go.Proofs.Ytomikbecbbjhoaa

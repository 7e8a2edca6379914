/- icodir.Read, walked. -/
import Derived.Test.YtomikbecbbjhoaaI6
import Derived.Test.YtomikbecbbjhoaaO5
namespace Go.Proofs.Ytomikbecbbjhoaa
open Go.RowKit
set_option linter.unusedVariables false
set_option linter.unusedSimpArgs false
def IReadPost (w : World) (X : Nat) (x : Sr) (R : (List Value × List Value) × (Sr × Led)) (e : Ending) (w' : World) : Prop :=
  e = .returned (.tuple #[.agg R.1.1.toArray, .agg R.1.2.toArray]) ∧ Pair w' X R.2.1 R.2.2 ∧ Chg (two X x) w w'
set_option maxRecDepth 100000 in
set_option maxHeartbeats 8000000 in
theorem iread_bad (X : Nat) (x : Sr) (l : Led) (w : World) (h : Pair w X x l) (hg : bGood x l = false) : Calls Try.prog 38 #[.pointer (some ⟨X, 0, none⟩)] w (IReadPost w X x (dRead x l)) := by
  obtain ⟨k, a, p, hk, hb⟩ := bGood_no hg
  have ER : dRead x l = ((zero9, [.int .i64 k, .int .i64 a, .int .i64 p]), (x.next l 6).1) := by unfold dRead; rw [hg, hb]; rfl
  unfold IReadPost
  rw [ER]
  have HBG := Lib.hid (fun w0 hp => (begin_any X x l w0 hp).mono (R' := fun e w' => e = .returned (.tuple #[.agg (List.toArray zero9), .agg (List.toArray [.int .i64 k, .int .i64 a, .int .i64 p])]) ∧ Pair w' X (x.next l 6).1.1 (x.next l 6).1.2 ∧ Chg (two X x) w0 w') fun e w' hh => ⟨hh.1.trans (by rw [hb]), hh.2⟩)
  have HAT := Lib.hid (fun w0 hp => at_any X x w0 hp)
  have hLy := next_L x l 6
  have ER := Lib.hid (rfl : (1 : Nat) = 1)
  have lX := h.src.lt
  have lL := h.led.lt
  have O0 := Lib.hid ((obj1_new w #[.bool false, .int .i64 0, .int .i64 0, .int .i64 0, .int .i64 0, .int .i64 0, .int .i64 0, .int .i64 0, .int .i64 0] 61).alloc (.cells #[.int .i64 0, .int .i64 0, .int .i64 0] 46))
  have O1 := Lib.hid (obj1_new (w.alloc (.cells #[.bool false, .int .i64 0, .int .i64 0, .int .i64 0, .int .i64 0, .int .i64 0, .int .i64 0, .int .i64 0, .int .i64 0] 61)) #[.int .i64 0, .int .i64 0, .int .i64 0] 46)
  have PX := Lib.hid ((h.upon ((Below.refl w.heap.size w).alloc (Nat.le_refl _) (.cells #[.bool false, .int .i64 0, .int .i64 0, .int .i64 0, .int .i64 0, .int .i64 0, .int .i64 0, .int .i64 0, .int .i64 0] 61)) lX lL).upon (B := w.heap.size) ((Below.refl w.heap.size _).alloc (by simp) (.cells #[.int .i64 0, .int .i64 0, .int .i64 0] 46)) lX lL)
  have CH := Lib.hid (((Chg.refl (two X x) w).alloc (.cells #[.bool false, .int .i64 0, .int .i64 0, .int .i64 0, .int .i64 0, .int .i64 0, .int .i64 0, .int .i64 0, .int .i64 0] 61)).alloc (.cells #[.int .i64 0, .int .i64 0, .int .i64 0] 46))
  rw [show (w.alloc (.cells #[.bool false, .int .i64 0, .int .i64 0, .int .i64 0, .int .i64 0, .int .i64 0, .int .i64 0, .int .i64 0, .int .i64 0] 61)).heap.size = w.heap.size + 1 by simp] at O1
  have sz1 : ((w.alloc (.cells #[.bool false, .int .i64 0, .int .i64 0, .int .i64 0, .int .i64 0, .int .i64 0, .int .i64 0, .int .i64 0, .int .i64 0] 61)).alloc (.cells #[.int .i64 0, .int .i64 0, .int .i64 0] 46)).heap.size = w.heap.size + 2 := by simp
  obtain ⟨⟨⟨y, m⟩, yr⟩, hr⟩ : ∃ r, x.next l 6 = r := ⟨_, rfl⟩
  rw [hr] at HBG hLy ⊢
  simp only at HBG hLy ⊢
  clear h hr hg hb
  go_enter Try.func38, Try.ntmps38
  go_upto_region 1 with (fail)
  generalize World.alloc _ _ = w1 at O0 O1 PX CH sz1 ⊢
  go_upto_region 2 with ((go_at_call 34; (with_reducible refine (HAT.out _ PX.out.src).mono ?_); rintro e w2 ⟨rfl, rfl⟩))
  go_wp2_with fail
  refine (HBG.out _ PX.out).mono ?_
  rintro e w2 ⟨rfl, hP, hC⟩
  have O0 := Lib.hid (hC.obj O0.out (by unfold two; omega))
  have O1 := Lib.hid (hC.obj O1.out (by unfold two; omega))
  have PX := Lib.hid hP
  have CH := Lib.hid (CH.out.trans hC)
  have sz2 := hC.size
  clear hP hC HBG
  have O5 := Lib.hid ((obj1_new w2 #[.bool false, .int .i64 0, .int .i64 0, .int .i64 0, .int .i64 0, .int .i64 0, .int .i64 0, .int .i64 0, .int .i64 0] 61).alloc (.cells #[.int .i64 0, .int .i64 0, .int .i64 0] 46))
  have O6 := Lib.hid (obj1_new (w2.alloc (.cells #[.bool false, .int .i64 0, .int .i64 0, .int .i64 0, .int .i64 0, .int .i64 0, .int .i64 0, .int .i64 0, .int .i64 0] 61)) #[.int .i64 0, .int .i64 0, .int .i64 0] 46)
  rw [show (w2.alloc (.cells #[.bool false, .int .i64 0, .int .i64 0, .int .i64 0, .int .i64 0, .int .i64 0, .int .i64 0, .int .i64 0, .int .i64 0] 61)).heap.size = w2.heap.size + 1 by simp] at O6
  have lX2 := PX.out.src.lt
  have lL2 := PX.out.led.lt
  have lO1 := O1.out.lt
  have O0 := Lib.hid (O0.out.alloc (.cells #[.bool false, .int .i64 0, .int .i64 0, .int .i64 0, .int .i64 0, .int .i64 0, .int .i64 0, .int .i64 0, .int .i64 0] 61))
  have O1 := Lib.hid (O1.out.alloc (.cells #[.bool false, .int .i64 0, .int .i64 0, .int .i64 0, .int .i64 0, .int .i64 0, .int .i64 0, .int .i64 0, .int .i64 0] 61))
  have PX := Lib.hid (PX.out.alloc (.cells #[.bool false, .int .i64 0, .int .i64 0, .int .i64 0, .int .i64 0, .int .i64 0, .int .i64 0, .int .i64 0, .int .i64 0] 61))
  have CH := Lib.hid (CH.out.alloc (.cells #[.bool false, .int .i64 0, .int .i64 0, .int .i64 0, .int .i64 0, .int .i64 0, .int .i64 0, .int .i64 0, .int .i64 0] 61))
  have O0 := Lib.hid (O0.out.alloc (.cells #[.int .i64 0, .int .i64 0, .int .i64 0] 46))
  have O1 := Lib.hid (O1.out.alloc (.cells #[.int .i64 0, .int .i64 0, .int .i64 0] 46))
  have PX := Lib.hid (PX.out.alloc (.cells #[.int .i64 0, .int .i64 0, .int .i64 0] 46))
  have CH := Lib.hid (CH.out.alloc (.cells #[.int .i64 0, .int .i64 0, .int .i64 0] 46))
  have sz3 : ((w2.alloc (.cells #[.bool false, .int .i64 0, .int .i64 0, .int .i64 0, .int .i64 0, .int .i64 0, .int .i64 0, .int .i64 0, .int .i64 0] 61)).alloc (.cells #[.int .i64 0, .int .i64 0, .int .i64 0] 46)).heap.size = w2.heap.size + 2 := by simp
  go_upto_region 4 with (first
    | (refine store_o rfl 61 9 _ _ rfl w2.heap.size zero9 rfl rfl (by kernel_rfl) (by kernel_rfl) (by kernel_rfl) O5.out (by first | rfl | simp) ?_; intro ws hst hO; have O5 := Lib.hid hO; have O0 := Lib.hid (hst.oth O0.out (by omega)); have O1 := Lib.hid (hst.oth O1.out (by omega)); have O6 := Lib.hid (hst.oth O6.out (by omega)); have PX := Lib.hid (PX.out.into hst (by omega) (by omega)); have CH := Lib.hid (hst.chg CH.out (by omega)); clear hst hO)
    | (refine store_o rfl 46 3 _ _ rfl (w2.heap.size + 1) [.int .i64 k, .int .i64 a, .int .i64 p] rfl rfl (by kernel_rfl) (by kernel_rfl) (by kernel_rfl) O6.out (by first | rfl | simp) ?_; intro ws hst hO; have O6 := Lib.hid hO; have O0 := Lib.hid (hst.oth O0.out (by omega)); have O1 := Lib.hid (hst.oth O1.out (by omega)); have O5 := Lib.hid (hst.oth O5.out (by omega)); have PX := Lib.hid (PX.out.into hst (by omega) (by omega)); have CH := Lib.hid (hst.chg CH.out (by omega)); clear hst hO; have c6 := (O6.out.cell 0).trans rfl))
  refine wp_region_noPanic ?_
  refine wp_region_held_drew (S := fun w' => w'.rangeAt (w2.heap.size + 1) 0 [.int .i64 k, .int .i64 a, .int .i64 p]) (by kernel_rfl) O6.out.range0 (fun hHeld => ?_)
  refine wpAnyH_take (i := 0) (v := .agg #[.bool false, .int .i64 0, .int .i64 0, .int .i64 0, .int .i64 0, .int .i64 0, .int .i64 0, .int .i64 0, .int .i64 0]) rfl (by kernel_rfl) (by kernel_rfl) (by kernel_rfl) (fun _ _ _ h => h) (Or.inl ⟨by rfl, fun w hS => by go_simp⟩) hHeld ?_
  simp only [Act.put, List.setIfInBounds_toArray, List.set_cons_zero, List.set_cons_succ, List.getElem_toArray, List.getElem_cons_zero, List.getElem_cons_succ]
  refine wpAnyH_take (i := 1) rfl (by kernel_rfl) (by kernel_rfl) (by kernel_rfl) (fun _ _ _ h => h) (yieldsIf_load_mid (by rfl) 46 _ rfl (w2.heap.size + 1) 0 rfl [.int .i64 k, .int .i64 a, .int .i64 p] _ (fun _ h => h) Try.underlying46 rfl (by kernel_rfl)) hHeld ?_
  simp only [Act.put, List.setIfInBounds_toArray, List.set_cons_zero, List.set_cons_succ, List.getElem_toArray, List.getElem_cons_zero, List.getElem_cons_succ]
  have O0 := Lib.hid (O0.out.drew)
  have O1 := Lib.hid (O1.out.drew)
  have O5 := Lib.hid (O5.out.drew)
  have O6 := Lib.hid (O6.out.drew)
  have PX := Lib.hid (PX.out.drew1)
  have CH := Lib.hid CH.out.drew
  generalize World.drew _ = wk at O0 O1 O5 O6 PX CH ⊢
  refine wpAnyH_ready (rs := [2]) (by kernel_rfl) (by simp) ?_
  refine AllReadyH.cons (o := _) rfl (fun K' hK => ?_) AllReadyH.nil
  rw [if_pos (by rfl)]
  refine wp_store_mid 61 _ _ rfl (w.heap.size) 0 (List.toArray zero9) rfl rfl (O0.out.there 0 9 (by simp)) (by kernel_rfl) (all_oneCell_toArray (List.all_eq_true.1 (by rfl))) ?_
  simp only [Act.put, List.setIfInBounds_toArray, List.set_cons_zero, List.set_cons_succ, List.getElem_toArray, List.getElem_cons_zero, List.getElem_cons_succ]
  have hst : Stored wk (w.heap.size) 0 zero9 (wk.setCells (w.heap.size) 0 zero9) := rfl
  have O0 := Lib.hid (hst.whole O0.out (by first | rfl | simp))
  have O1 := Lib.hid (hst.oth O1.out (by omega))
  have O5 := Lib.hid (hst.oth O5.out (by omega))
  have O6 := Lib.hid (hst.oth O6.out (by omega))
  have PX := Lib.hid (PX.out.into hst (by omega) (by omega))
  have CH := Lib.hid (hst.chg CH.out (by omega))
  generalize World.setCells _ _ _ _ = wk2 at O0 O1 O5 O6 PX CH ⊢
  clear hst
  refine hK _ _ O6.out.range0 (fun hH1 => ?_)
  clear hK K'
  obtain ⟨wk, rfl⟩ : ∃ z, z = wk2 := ⟨_, rfl⟩
  refine wpAnyH_ready (rs := [3]) (by kernel_rfl) (by simp) ?_
  refine AllReadyH.cons (o := _) rfl (fun K' hK => ?_) AllReadyH.nil
  rw [if_pos (by rfl)]
  refine wp_store_mid 46 _ _ rfl (w.heap.size + 1) 0 (List.toArray [.int .i64 k, .int .i64 a, .int .i64 p]) rfl rfl (O1.out.there 0 3 (by simp)) (by kernel_rfl) (all_oneCell_toArray (List.all_eq_true.1 (by rfl))) ?_
  simp only [Act.put, List.setIfInBounds_toArray, List.set_cons_zero, List.set_cons_succ, List.getElem_toArray, List.getElem_cons_zero, List.getElem_cons_succ]
  have hst : Stored wk (w.heap.size + 1) 0 [.int .i64 k, .int .i64 a, .int .i64 p] (wk.setCells (w.heap.size + 1) 0 [.int .i64 k, .int .i64 a, .int .i64 p]) := rfl
  have O1 := Lib.hid (hst.whole O1.out (by first | rfl | simp))
  have O0 := Lib.hid (hst.oth O0.out (by omega))
  have O5 := Lib.hid (hst.oth O5.out (by omega))
  have O6 := Lib.hid (hst.oth O6.out (by omega))
  have PX := Lib.hid (PX.out.into hst (by omega) (by omega))
  have CH := Lib.hid (hst.chg CH.out (by omega))
  generalize World.setCells _ _ _ _ = wk2 at O0 O1 O5 O6 PX CH ⊢
  clear hst
  refine hK _ _ O6.out.range0 (fun hH2 => ?_)
  clear hK K'
  obtain ⟨wk, rfl⟩ : ∃ z, z = wk2 := ⟨_, rfl⟩
  refine wpAnyH_done (by kernel_rfl) ?_ _
  refine NoPanic.normal ?_
  go_wp2_with fail
  refine bodyPost_ret (v := .tuple #[.agg (List.toArray zero9), .agg (List.toArray [.int .i64 k, .int .i64 a, .int .i64 p])]) ?_ rfl ⟨rfl, PX.out, CH.out⟩
  exact results_cc Try.results38 _ _ _ _ zero9 [.int .i64 k, .int .i64 a, .int .i64 p] _ _ rfl O0.out.range0 Try.underlying61 rfl (by kernel_rfl) rfl O1.out.range0 Try.underlying46 rfl (by kernel_rfl)
set_option maxRecDepth 100000 in
set_option maxHeartbeats 16000000 in
theorem iread_good (X : Nat) (x : Sr) (l : Led) (w : World) (h : Pair w X x l) (hg : bGood x l = true) : Calls Try.prog 38 #[.pointer (some ⟨X, 0, none⟩)] w (IReadPost w X x (dRead x l)) := by
  obtain ⟨hb, hok, hn1, hn2⟩ := bGood_yes hg
  obtain ⟨RS, hRS⟩ : ∃ r, dRead x l = r := ⟨_, rfl⟩
  have E0 := hRS
  unfold dRead dRun at E0
  rw [hg] at E0
  unfold IReadPost
  rw [hRS]
  obtain ⟨n, hn⟩ : ∃ n : Nat, lowK (x.next l 6).2.1 4 2 = n := ⟨_, (Int.toNat_of_nonneg (by omega)).symm⟩
  obtain ⟨cur, hcur⟩ : ∃ c, (byN (x.next l 6).2.1 2 == 2) = c := ⟨_, rfl⟩
  rw [hn, hcur] at hb E0
  rw [hn] at hn1 hn2
  have HBG := Lib.hid (fun w0 hp => (begin_any X x l w0 hp).mono (R' := fun e w' => e = .returned (.tuple #[.agg (List.toArray [.bool cur, .int .i64 n, .int .i64 0, .int .i64 0, .int .i64 0, .int .i64 0, .int .i64 0, .int .i64 0, .int .i64 0]), .agg (List.toArray [.int .i64 0, .int .i64 0, .int .i64 0])]) ∧ Pair w' X (x.next l 6).1.1 (x.next l 6).1.2 ∧ Chg (two X x) w0 w') fun e w' hh => ⟨hh.1.trans (by rw [hb]), hh.2⟩)
  have HAT := Lib.hid (fun X x w0 hp => at_any X x w0 hp)
  have hLy := next_L x l 6
  obtain ⟨-, -, hne, hyy, -, -⟩ := next_ok hok
  have hpe := h.src.ok.pe
  have hps := h.src.ok.es
  have hpz := h.src.ok.sz
  have lX := h.src.lt
  have lL := h.led.lt
  have O0 := Lib.hid ((obj1_new w #[.bool false, .int .i64 0, .int .i64 0, .int .i64 0, .int .i64 0, .int .i64 0, .int .i64 0, .int .i64 0, .int .i64 0] 61).alloc (.cells #[.int .i64 0, .int .i64 0, .int .i64 0] 46))
  have O1 := Lib.hid (obj1_new (w.alloc (.cells #[.bool false, .int .i64 0, .int .i64 0, .int .i64 0, .int .i64 0, .int .i64 0, .int .i64 0, .int .i64 0, .int .i64 0] 61)) #[.int .i64 0, .int .i64 0, .int .i64 0] 46)
  have PX := Lib.hid ((h.upon ((Below.refl w.heap.size w).alloc (Nat.le_refl _) (.cells #[.bool false, .int .i64 0, .int .i64 0, .int .i64 0, .int .i64 0, .int .i64 0, .int .i64 0, .int .i64 0, .int .i64 0] 61)) lX lL).upon (B := w.heap.size) ((Below.refl w.heap.size _).alloc (by simp) (.cells #[.int .i64 0, .int .i64 0, .int .i64 0] 46)) lX lL)
  have CH := Lib.hid (((Chg.refl (two X x) w).alloc (.cells #[.bool false, .int .i64 0, .int .i64 0, .int .i64 0, .int .i64 0, .int .i64 0, .int .i64 0, .int .i64 0, .int .i64 0] 61)).alloc (.cells #[.int .i64 0, .int .i64 0, .int .i64 0] 46))
  rw [show (w.alloc (.cells #[.bool false, .int .i64 0, .int .i64 0, .int .i64 0, .int .i64 0, .int .i64 0, .int .i64 0, .int .i64 0, .int .i64 0] 61)).heap.size = w.heap.size + 1 by simp] at O1
  have sz1 : ((w.alloc (.cells #[.bool false, .int .i64 0, .int .i64 0, .int .i64 0, .int .i64 0, .int .i64 0, .int .i64 0, .int .i64 0, .int .i64 0] 61)).alloc (.cells #[.int .i64 0, .int .i64 0, .int .i64 0] 46)).heap.size = w.heap.size + 2 := by simp
  obtain ⟨⟨⟨y, m⟩, yr⟩, hr⟩ : ∃ r, x.next l 6 = r := ⟨_, rfl⟩
  rw [hr] at HBG hLy hyy E0
  simp only at HBG hLy hyy E0
  have hye : y.e = x.e := by rw [hyy]
  have hyp : (y.p : Int) = x.p + 6 := by rw [hyy]; simp only; omega
  obtain ⟨IRS, hIR⟩ : ∃ r, iLoop n ((x.e : Int) - x.p) cur n 0 y m 0 Ent.zero = r := ⟨_, rfl⟩
  rw [show ((n : Int)).toNat = n by omega, hIR] at E0
  have HIR := Lib.hid hIR
  have HE0 := Lib.hid E0
  obtain ⟨A, hA0⟩ : ∃ A : Int, (x.e : Int) - x.p = A := ⟨_, rfl⟩
  rw [hA0] at HIR
  have eWA : IntKind.i64.wrap ((x.e : Int) - x.p) = A := by rw [← hA0]; exact i64_wraps _ (by omega) (by omega)
  have xp0 : 0 ≤ (x.p : Int) := by omega
  have A1 : 0 ≤ A := by omega
  have A2 : A ≤ 9223372036854775807 := by omega
  clear h hr hg hb hok hRS E0 hIR hyy hn hcur
  go_enter Try.func38, Try.ntmps38
  go_upto_region 1 with (fail)
  generalize World.alloc _ _ = w1 at O0 O1 PX CH sz1 ⊢
  go_upto_region 2 with ((go_at_call 34; (with_reducible refine (HAT.out _ _ _ PX.out.src).mono ?_); rintro e w2 ⟨rfl, rfl⟩))
  go_wp2_with fail
  refine (HBG.out _ PX.out).mono ?_
  rintro e w2 ⟨rfl, hP, hC⟩
  have O0 := Lib.hid (hC.obj O0.out (by unfold two; omega))
  have O1 := Lib.hid (hC.obj O1.out (by unfold two; omega))
  have PX := Lib.hid hP
  have CH := Lib.hid (CH.out.trans hC)
  have sz2 := hC.size
  clear hP hC HBG
  have O5 := Lib.hid ((obj1_new w2 #[.bool false, .int .i64 0, .int .i64 0, .int .i64 0, .int .i64 0, .int .i64 0, .int .i64 0, .int .i64 0, .int .i64 0] 61).alloc (.cells #[.int .i64 0, .int .i64 0, .int .i64 0] 46))
  have O6 := Lib.hid (obj1_new (w2.alloc (.cells #[.bool false, .int .i64 0, .int .i64 0, .int .i64 0, .int .i64 0, .int .i64 0, .int .i64 0, .int .i64 0, .int .i64 0] 61)) #[.int .i64 0, .int .i64 0, .int .i64 0] 46)
  rw [show (w2.alloc (.cells #[.bool false, .int .i64 0, .int .i64 0, .int .i64 0, .int .i64 0, .int .i64 0, .int .i64 0, .int .i64 0, .int .i64 0] 61)).heap.size = w2.heap.size + 1 by simp] at O6
  have lX2 := PX.out.src.lt
  have lL2 := PX.out.led.lt
  have lO1 := O1.out.lt
  have O0 := Lib.hid (O0.out.alloc (.cells #[.bool false, .int .i64 0, .int .i64 0, .int .i64 0, .int .i64 0, .int .i64 0, .int .i64 0, .int .i64 0, .int .i64 0] 61))
  have O1 := Lib.hid (O1.out.alloc (.cells #[.bool false, .int .i64 0, .int .i64 0, .int .i64 0, .int .i64 0, .int .i64 0, .int .i64 0, .int .i64 0, .int .i64 0] 61))
  have PX := Lib.hid (PX.out.alloc (.cells #[.bool false, .int .i64 0, .int .i64 0, .int .i64 0, .int .i64 0, .int .i64 0, .int .i64 0, .int .i64 0, .int .i64 0] 61))
  have CH := Lib.hid (CH.out.alloc (.cells #[.bool false, .int .i64 0, .int .i64 0, .int .i64 0, .int .i64 0, .int .i64 0, .int .i64 0, .int .i64 0, .int .i64 0] 61))
  have O0 := Lib.hid (O0.out.alloc (.cells #[.int .i64 0, .int .i64 0, .int .i64 0] 46))
  have O1 := Lib.hid (O1.out.alloc (.cells #[.int .i64 0, .int .i64 0, .int .i64 0] 46))
  have PX := Lib.hid (PX.out.alloc (.cells #[.int .i64 0, .int .i64 0, .int .i64 0] 46))
  have CH := Lib.hid (CH.out.alloc (.cells #[.int .i64 0, .int .i64 0, .int .i64 0] 46))
  have sz3 : ((w2.alloc (.cells #[.bool false, .int .i64 0, .int .i64 0, .int .i64 0, .int .i64 0, .int .i64 0, .int .i64 0, .int .i64 0, .int .i64 0] 61)).alloc (.cells #[.int .i64 0, .int .i64 0, .int .i64 0] 46)).heap.size = w2.heap.size + 2 := by simp
  go_upto_region 5 with (first
    | (refine store_o rfl 61 9 _ _ rfl w2.heap.size [.bool cur, .int .i64 n, .int .i64 0, .int .i64 0, .int .i64 0, .int .i64 0, .int .i64 0, .int .i64 0, .int .i64 0] rfl rfl (by kernel_rfl) (by kernel_rfl) (by kernel_rfl) O5.out (by first | rfl | simp) ?_; intro ws hst hO; have O5 := Lib.hid hO; have O0 := Lib.hid (hst.oth O0.out (by omega)); have O1 := Lib.hid (hst.oth O1.out (by omega)); have O6 := Lib.hid (hst.oth O6.out (by omega)); have PX := Lib.hid (PX.out.into hst (by omega) (by omega)); have CH := Lib.hid (hst.chg CH.out (by omega)); clear hst hO)
    | (refine store_o rfl 46 3 _ _ rfl (w2.heap.size + 1) [.int .i64 0, .int .i64 0, .int .i64 0] rfl rfl (by kernel_rfl) (by kernel_rfl) (by kernel_rfl) O6.out (by first | rfl | simp) ?_; intro ws hst hO; have O6 := Lib.hid hO; have O0 := Lib.hid (hst.oth O0.out (by omega)); have O1 := Lib.hid (hst.oth O1.out (by omega)); have O5 := Lib.hid (hst.oth O5.out (by omega)); have PX := Lib.hid (PX.out.into hst (by omega) (by omega)); have CH := Lib.hid (hst.chg CH.out (by omega)); clear hst hO; have c6 : ws.cell? ⟨(w2.heap.size + 1), 0, none⟩ = some (.int .i64 0) := (O6.out.cell 0).trans rfl))
  have cN1 : ws.cell? ⟨w2.heap.size, 1, none⟩ = some (.int .i64 (n : Int)) := (O5.out.cell 1).trans rfl
  clear c6 O6
  go_upto_region 6 with ((go_at_call 77; (with_reducible refine (to_any _ _ _ PX.out.src).mono ?_); rintro e w4 ⟨rfl, rfl⟩))
  go_upto_region 7 with (fail)
  clear cN1
  have D5w : w.heap.size + 2 ≤ w2.heap.size := by omega
  obtain ⟨d5, hd5⟩ : ∃ d, w2.heap.size = d := ⟨_, rfl⟩
  rw [hd5] at O5 D5w ⊢
  go_loopw [8, 9, 10, 11, 12, 31] (fun q8 q9 q10 q11 q12 c wr => ∃ (i : Nat) (y : Sr) (m : Led) (b : Int) (E : Ent), i ≤ n ∧ c = .int .i64 i ∧ iLoop n A cur (n - i) i y m b E = IRS ∧ E.ok ∧ (0 < i → E.P ≤ A) ∧ y.L = x.L ∧ Pair wr X y m ∧ Obj1 wr d5 (dCells cur n b E).toArray 61 ∧ Obj1 wr w.heap.size #[.bool false, .int .i64 0, .int .i64 0, .int .i64 0, .int .i64 0, .int .i64 0, .int .i64 0, .int .i64 0, .int .i64 0] 61 ∧ Obj1 wr (w.heap.size + 1) #[.int .i64 0, .int .i64 0, .int .i64 0] 46 ∧ Chg (two X x) w wr) (fun _ _ _ _ _ c _ => n - (intOf c).toNat)
  case atStart => exact ⟨0, y, m, 0, Ent.zero, by omega, rfl, HIR.out, Ent.zero_ok, fun h => absurd h (by omega), hLy, PX.out, O5.out, O0.out, O1.out, CH.out⟩
  case round =>
    obtain ⟨i, y, m, b, E, hi, rfl, hIL, hEo, hEp, hyL, hP, h5, h0, h1, hC⟩ := hrel
    have O0 := Lib.hid h0
    have O1 := Lib.hid h1
    have O5 := Lib.hid h5
    have PX := Lib.hid hP
    have CH := Lib.hid hC
    have lX := hP.src.lt
    have lL := hP.led.lt
    have ld := h5.lt
    have hpe := hP.src.ok.pe
    have hps := hP.src.ok.es
    have hpz := hP.src.ok.sz
    clear h0 h1 h5 hP hC
    by_cases hlt : i < n
    rotate_left
    · have hin : n - i = 0 := by omega
      have hge : n ≤ i := by omega
      rw [hin, iLoop_end] at hIL
      subst hIL
      have hEp := hEp (by omega)
      have hEp0 := hEo.p0
      have eWP : IntKind.i64.wrap (E.P + (x.p : Int)) = E.P + (x.p : Int) := i64_wraps _ (by omega) (by omega)
      have ER := Lib.hid (show RS = ((dCells cur n b { E with P := E.P + x.p }, [.int .i64 0, .int .i64 0, .int .i64 0]), (y, m)) from HE0.out.symm)
      have cN1 : wr.cell? ⟨d5, 1, none⟩ = some (.int .i64 (n : Int)) := (O5.out.cell 1).trans rfl
      have cP : wr.cell? ⟨d5, 8, none⟩ = some (.int .i64 E.P) := (O5.out.cell 8).trans rfl
      have fP : wr.frozen? ⟨d5, 8, none⟩ = false := O5.out.frozen 8
      clear hEo HE0
      go_upto_region 20 with (fail)
      have O5 := Lib.hid ((O5.out.set 8 (.int .i64 (E.P + (x.p : Int)))).cells (show _ = (dCells cur n b { E with P := E.P + x.p }).toArray from rfl))
      have O0 := Lib.hid (O0.out.set_other ⟨d5, 8, none⟩ (.int .i64 (E.P + (x.p : Int))) (by simp; omega))
      have O1 := Lib.hid (O1.out.set_other ⟨d5, 8, none⟩ (.int .i64 (E.P + (x.p : Int))) (by simp; omega))
      have PX := Lib.hid (PX.out.setc (b := d5) (o := 8) (.int .i64 (E.P + (x.p : Int))) (by omega) (by omega))
      have CH := Lib.hid (CH.out.setc d5 8 (.int .i64 (E.P + (x.p : Int))) (by omega))
      generalize World.setCell _ _ _ = wv at O0 O1 O5 PX CH ⊢
      obtain ⟨DL, hDL⟩ : ∃ L, dCells cur n b { E with P := E.P + x.p } = L := ⟨_, rfl⟩
      have DLn : DL.length = 9 := by rw [← hDL]; rfl
      have DLo : DL.all (·.oneCell') = true := by rw [← hDL]; rfl
      have DLi : (Try.prog.info? 61).map (·.size) = some DL.length := by rw [DLn]; kernel_rfl
      rw [hDL] at ER O5
      clear hDL cN1 cP fP eWP
      go_wp2_with (first
        | (refine load_u (by kernel_rfl) 61 9 _ rfl d5 DL DLn rfl O5.out Try.underlying61 rfl (by kernel_rfl) ?_; intro _)
        | (refine store_o rfl 61 9 _ _ rfl w.heap.size DL DLn DLo (by kernel_rfl) (by kernel_rfl) (by kernel_rfl) O0.out (by first | rfl | simp) ?_; intro ws hst hO; have O0 := Lib.hid hO; have O1 := Lib.hid (hst.oth O1.out (by omega)); have O5 := Lib.hid (hst.oth O5.out (by omega)); have PX := Lib.hid (PX.out.into hst (by omega) (by omega)); have CH := Lib.hid (hst.chg CH.out (by omega)); clear hst hO)
        | (refine store_o rfl 46 3 _ _ rfl (w.heap.size + 1) [.int .i64 0, .int .i64 0, .int .i64 0] rfl rfl (by kernel_rfl) (by kernel_rfl) (by kernel_rfl) O1.out (by first | rfl | simp) ?_; intro ws hst hO; have O1 := Lib.hid hO; have O0 := Lib.hid (hst.oth O0.out (by omega)); have O5 := Lib.hid (hst.oth O5.out (by omega)); have PX := Lib.hid (PX.out.into hst (by omega) (by omega)); have CH := Lib.hid (hst.chg CH.out (by omega)); clear hst hO; refine gen_frame2 2 3 (.pointer (some ⟨w.heap.size, 0, none⟩)) (.pointer (some ⟨w.heap.size + 1, 0, none⟩)) (by kernel_rfl) (by kernel_rfl) (by kernel_rfl) ?_; intro A hA hB hAd))
      refine bodyPost_ret (v := .tuple #[.agg (List.toArray DL), .agg (List.toArray [.int .i64 0, .int .i64 0, .int .i64 0])]) ?_ hAd ⟨by rw [ER.out], by rw [ER.out]; exact PX.out, CH.out⟩
      exact results_cc Try.results38 _ _ _ _ DL [.int .i64 0, .int .i64 0, .int .i64 0] _ _ hA O0.out.range0 Try.underlying61 rfl DLi hB O1.out.range0 Try.underlying46 rfl (by kernel_rfl)
    · obtain ⟨k, hk⟩ : ∃ k, n - i = k + 1 := ⟨n - i - 1, by omega⟩
      have hk2 : n - (i + 1) = k := by omega
      rw [hk] at hIL
      have hge : ¬ n ≤ i := by omega
      obtain ⟨⟨⟨y', m'⟩, ⟨s, ok⟩⟩, hnx⟩ : ∃ r, y.next m 16 = r := ⟨_, rfl⟩
      have HTK := Lib.hid (fun w0 hp => hnx ▸ take_any X y m 16 w0 hp)
      have hLy' := next_L y m 16
      have hno := fun (ho : (y.next m 16).2.2 = true) => next_ok ho
      rw [hnx] at hLy' hno
      simp only at hLy' hno
      go_upto_region 10 with ((go_at_call 34; (with_reducible refine (HAT.out _ _ _ PX.out.src).mono ?_); rintro e w5 ⟨rfl, rfl⟩))
      go_wp2_with fail
      refine (HTK.out _ PX.out).mono ?_
      rintro e w6 ⟨rfl, hP, hC⟩
      have O0 := Lib.hid (hC.obj O0.out (by unfold two; omega))
      have O1 := Lib.hid (hC.obj O1.out (by unfold two; omega))
      have O5 := Lib.hid (hC.obj O5.out (by unfold two; omega))
      have PX := Lib.hid hP
      have CH := Lib.hid (CH.out.trans (hC.mono fun k _ hk => by unfold two at hk ⊢; rw [← hyL]; exact hk))
      have lX := hP.src.lt
      have lL := hP.led.lt
      clear hP hC HTK HAT
      cases ok
      · rw [iLoop_no hnx] at hIL
        subst hIL
        obtain ⟨F, hF⟩ : ∃ F, faultL y' m' 4 = F := ⟨_, rfl⟩
        have HF := Lib.hid (fun w0 hp => fault_c X y' m' 4 w0 F hF hp)
        have FL : F.length = 3 := by rw [← hF]; exact faultL_len _ _ _
        have FO : F.all (·.oneCell') = true := by rw [← hF]; exact faultL_one _ _ _
        have ER := Lib.hid (show RS = ((zero9, F), (y', m')) by rw [← hF]; exact HE0.out.symm)
        have FI : (Try.prog.info? 46).map (·.size) = some F.length := by rw [FL]; kernel_rfl
        clear hF hnx hno HE0
        go_wp2_with (first
          | ((go_at_call 72; (with_reducible refine (HF.out _ PX.out).mono ?_); rintro e wc ⟨rfl, hb⟩); have O0 := Lib.hid (O0.out.below hb O0.out.lt); have O1 := Lib.hid (O1.out.below hb O1.out.lt); have O5 := Lib.hid (O5.out.below hb O5.out.lt); have PX := Lib.hid (PX.out.upon hb PX.out.src.lt PX.out.led.lt); have CH := Lib.hid (CH.out.trans (chg_of_below hb _)); clear hb)
          | (refine store_o rfl 61 9 _ _ rfl w.heap.size zero9 rfl rfl (by kernel_rfl) (by kernel_rfl) (by kernel_rfl) O0.out (by first | rfl | simp) ?_; intro ws hst hO; have O0 := Lib.hid hO; have O1 := Lib.hid (hst.oth O1.out (by omega)); have O5 := Lib.hid (hst.oth O5.out (by omega)); have PX := Lib.hid (PX.out.into hst (by omega) (by omega)); have CH := Lib.hid (hst.chg CH.out (by omega)); clear hst hO)
          | (refine store_o rfl 46 3 _ _ rfl (w.heap.size + 1) F FL FO (by kernel_rfl) (by kernel_rfl) (by kernel_rfl) O1.out (by first | rfl | simp) ?_; intro ws hst hO; have O1 := Lib.hid hO; have O0 := Lib.hid (hst.oth O0.out (by omega)); have O5 := Lib.hid (hst.oth O5.out (by omega)); have PX := Lib.hid (PX.out.into hst (by omega) (by omega)); have CH := Lib.hid (hst.chg CH.out (by omega)); clear hst hO; refine gen_frame2 2 3 (.pointer (some ⟨w.heap.size, 0, none⟩)) (.pointer (some ⟨w.heap.size + 1, 0, none⟩)) (by kernel_rfl) (by kernel_rfl) (by kernel_rfl) ?_; intro A hA hB hAd))
        refine bodyPost_ret (v := .tuple #[.agg (List.toArray zero9), .agg (List.toArray F)]) ?_ hAd ⟨by rw [ER.out], by rw [ER.out]; exact PX.out, CH.out⟩
        exact results_cc Try.results38 _ _ _ _ zero9 F _ _ hA O0.out.range0 Try.underlying61 rfl (by kernel_rfl) hB O1.out.range0 Try.underlying46 rfl FI
      obtain ⟨e, he⟩ : ∃ e, entE s 0 = e := ⟨_, rfl⟩
      rw [iLoop_yes hnx he] at hIL
      obtain ⟨-, -, hn16, hy', -, hs⟩ := hno rfl
      have h16 : s.size = 16 := by rw [hs, ByteArray.size_extract]; omega
      have eok : e.ok := he ▸ entE_ok s 0
      have HEN := Lib.hid (fun w0 => (entry_any s w0 h16).mono (R' := RA w0 e.cells) fun ee w' hh => ⟨hh.1.trans (by rw [entL_cells, he]), hh.2⟩)
      have eW12 : IntKind.i64.wrap ((y.p : Int) + 12) = (y.p : Int) + 12 := i64_wraps _ (by omega) (by omega)
      clear hno hs he hnx
      go_upto_region 14 with (first
        | ((go_at_call 78; (with_reducible refine (HEN.out _).mono ?_); rintro e w7 ⟨rfl, hb⟩); have O0 := Lib.hid (O0.out.below hb O0.out.lt); have O1 := Lib.hid (O1.out.below hb O1.out.lt); have O5 := Lib.hid (O5.out.below hb O5.out.lt); have PX := Lib.hid (PX.out.upon hb PX.out.src.lt PX.out.led.lt); have CH := Lib.hid (CH.out.trans (chg_of_below hb _)); have lX7 := PX.out.src.lt; have lL7 := PX.out.led.lt; have l07 := O0.out.lt; have l17 := O1.out.lt; have l57 := O5.out.lt; clear hb; have O12 := Lib.hid (obj1_new w7 #[.int .i64 0, .int .i64 0, .int .i64 0, .int .i64 0, .int .i64 0, .int .i64 0] 59); have O0 := Lib.hid (O0.out.alloc (.cells #[.int .i64 0, .int .i64 0, .int .i64 0, .int .i64 0, .int .i64 0, .int .i64 0] 59)); have O1 := Lib.hid (O1.out.alloc (.cells #[.int .i64 0, .int .i64 0, .int .i64 0, .int .i64 0, .int .i64 0, .int .i64 0] 59)); have O5 := Lib.hid (O5.out.alloc (.cells #[.int .i64 0, .int .i64 0, .int .i64 0, .int .i64 0, .int .i64 0, .int .i64 0] 59)); have PX := Lib.hid (PX.out.alloc (.cells #[.int .i64 0, .int .i64 0, .int .i64 0, .int .i64 0, .int .i64 0, .int .i64 0] 59)); have CH := Lib.hid (CH.out.alloc (.cells #[.int .i64 0, .int .i64 0, .int .i64 0, .int .i64 0, .int .i64 0, .int .i64 0] 59)))
        | (refine store_o rfl 59 6 _ _ rfl w7.heap.size e.cells rfl rfl (by kernel_rfl) (by kernel_rfl) (by kernel_rfl) O12.out (by first | rfl | simp) ?_; intro ws hst hO; have O12 := Lib.hid hO; have O0 := Lib.hid (hst.oth O0.out (by omega)); have O1 := Lib.hid (hst.oth O1.out (by omega)); have O5 := Lib.hid (hst.oth O5.out (by omega)); have PX := Lib.hid (PX.out.into hst (by omega) (by omega)); have CH := Lib.hid (hst.chg CH.out (by omega)); clear hst hO))
      obtain ⟨d12, hd12⟩ : ∃ d, w7.heap.size = d := ⟨_, rfl⟩
      rw [hd12] at O12 lX7 lL7 l07 l17 l57 ⊢
      have cP : ws.cell? ⟨d12, 5, none⟩ = some (.int .i64 e.P) := (O12.out.cell 5).trans rfl
      have cZ : ws.cell? ⟨d12, 4, none⟩ = some (.int .i64 e.Z) := (O12.out.cell 4).trans rfl
      have cN1 : ws.cell? ⟨d5, 1, none⟩ = some (.int .i64 (n : Int)) := (O5.out.cell 1).trans rfl
      have eok1 := eok.p0
      have eok2 := eok.p1
      have eW1 : IntKind.i64.wrap (16 * (n : Int)) = 16 * (n : Int) := i64_wraps _ (by omega) (by omega)
      have eW2 : IntKind.i64.wrap (6 + 16 * (n : Int)) = 6 + 16 * (n : Int) := i64_wraps _ (by omega) (by omega)
      have eW3 : wrap64 (A - e.P) = A - e.P := IntWalk.wrap64_in (A - e.P) ⟨by omega, by omega⟩
      have eW3' : IntKind.i64.wrap (A - e.P) = A - e.P := (IntWalk.i64_left _).trans eW3
      obtain ⟨b1, hb1⟩ : ∃ b, decide (e.P < 6 + 16 * (n : Int)) = b := ⟨_, rfl⟩
      obtain ⟨b2, hb2⟩ : ∃ b, decide (e.P > A) = b := ⟨_, rfl⟩
      obtain ⟨b3, hb3⟩ : ∃ b, decide (e.Z > A - e.P) = b := ⟨_, rfl⟩
      rw [hb1, hb2, hb3] at hIL
      clear hd12
      cases b1
      rotate_left
      · have hIL : (⟨y', m', some [.int .i64 2, .int .i64 4, .int .i64 ((y.p : Int) + 12)], b, E⟩ : IR) = IRS := hIL
        subst hIL
        have ER := Lib.hid (show RS = ((zero9, [.int .i64 2, .int .i64 4, .int .i64 ((y.p : Int) + 12)]), (y', m')) from HE0.out.symm)
        clear HE0
        go_wp2_with (first
          | ((with_reducible refine skip_g rfl (by kernel_rfl) ?_); intro _)
          | ((go_at_call 79; (with_reducible refine (iwrong_any _ _).mono ?_); rintro e wc ⟨rfl, hb⟩); have O0 := Lib.hid (O0.out.below hb O0.out.lt); have O1 := Lib.hid (O1.out.below hb O1.out.lt); have O5 := Lib.hid (O5.out.below hb O5.out.lt); have O12 := Lib.hid (O12.out.below hb O12.out.lt); have PX := Lib.hid (PX.out.upon hb PX.out.src.lt PX.out.led.lt); have CH := Lib.hid (CH.out.trans (chg_of_below hb _)); clear hb)
          | (refine store_o rfl 61 9 _ _ rfl w.heap.size zero9 rfl rfl (by kernel_rfl) (by kernel_rfl) (by kernel_rfl) O0.out (by first | rfl | simp) ?_; intro ws hst hO; have O0 := Lib.hid hO; have O1 := Lib.hid (hst.oth O1.out (by omega)); have O5 := Lib.hid (hst.oth O5.out (by omega)); have O12 := Lib.hid (hst.oth O12.out (by omega)); have PX := Lib.hid (PX.out.into hst (by omega) (by omega)); have CH := Lib.hid (hst.chg CH.out (by omega)); clear hst hO)
          | (refine store_o rfl 46 3 _ _ rfl (w.heap.size + 1) [.int .i64 2, .int .i64 4, .int .i64 ((y.p : Int) + 12)] rfl rfl (by kernel_rfl) (by kernel_rfl) (by kernel_rfl) O1.out (by first | rfl | simp) ?_; intro ws hst hO; have O1 := Lib.hid hO; have O0 := Lib.hid (hst.oth O0.out (by omega)); have O5 := Lib.hid (hst.oth O5.out (by omega)); have O12 := Lib.hid (hst.oth O12.out (by omega)); have PX := Lib.hid (PX.out.into hst (by omega) (by omega)); have CH := Lib.hid (hst.chg CH.out (by omega)); clear hst hO; refine gen_frame2 2 3 (.pointer (some ⟨w.heap.size, 0, none⟩)) (.pointer (some ⟨w.heap.size + 1, 0, none⟩)) (by kernel_rfl) (by kernel_rfl) (by kernel_rfl) ?_; intro A hA hB hAd))
        refine bodyPost_ret (v := .tuple #[.agg (List.toArray zero9), .agg (List.toArray [.int .i64 2, .int .i64 4, .int .i64 ((y.p : Int) + 12)])]) ?_ hAd ⟨by rw [ER.out], by rw [ER.out]; exact PX.out, CH.out⟩
        exact results_cc Try.results38 _ _ _ _ zero9 [.int .i64 2, .int .i64 4, .int .i64 ((y.p : Int) + 12)] _ _ hA O0.out.range0 Try.underlying61 rfl (by kernel_rfl) hB O1.out.range0 Try.underlying46 rfl (by kernel_rfl)
      cases b2
      rotate_left
      · have hIL : (⟨y', m', some [.int .i64 2, .int .i64 4, .int .i64 ((y.p : Int) + 12)], b, E⟩ : IR) = IRS := hIL
        subst hIL
        have ER := Lib.hid (show RS = ((zero9, [.int .i64 2, .int .i64 4, .int .i64 ((y.p : Int) + 12)]), (y', m')) from HE0.out.symm)
        clear HE0
        go_wp2_with (first
          | ((with_reducible refine skip_g (g := (13, false)) rfl (by kernel_rfl) ?_); intro _)
          | ((go_at_call 79; (with_reducible refine (iwrong_any _ _).mono ?_); rintro e wc ⟨rfl, hb⟩); have O0 := Lib.hid (O0.out.below hb O0.out.lt); have O1 := Lib.hid (O1.out.below hb O1.out.lt); have O5 := Lib.hid (O5.out.below hb O5.out.lt); have O12 := Lib.hid (O12.out.below hb O12.out.lt); have PX := Lib.hid (PX.out.upon hb PX.out.src.lt PX.out.led.lt); have CH := Lib.hid (CH.out.trans (chg_of_below hb _)); clear hb)
          | (refine store_o rfl 61 9 _ _ rfl w.heap.size zero9 rfl rfl (by kernel_rfl) (by kernel_rfl) (by kernel_rfl) O0.out (by first | rfl | simp) ?_; intro ws hst hO; have O0 := Lib.hid hO; have O1 := Lib.hid (hst.oth O1.out (by omega)); have O5 := Lib.hid (hst.oth O5.out (by omega)); have O12 := Lib.hid (hst.oth O12.out (by omega)); have PX := Lib.hid (PX.out.into hst (by omega) (by omega)); have CH := Lib.hid (hst.chg CH.out (by omega)); clear hst hO)
          | (refine store_o rfl 46 3 _ _ rfl (w.heap.size + 1) [.int .i64 2, .int .i64 4, .int .i64 ((y.p : Int) + 12)] rfl rfl (by kernel_rfl) (by kernel_rfl) (by kernel_rfl) O1.out (by first | rfl | simp) ?_; intro ws hst hO; have O1 := Lib.hid hO; have O0 := Lib.hid (hst.oth O0.out (by omega)); have O5 := Lib.hid (hst.oth O5.out (by omega)); have O12 := Lib.hid (hst.oth O12.out (by omega)); have PX := Lib.hid (PX.out.into hst (by omega) (by omega)); have CH := Lib.hid (hst.chg CH.out (by omega)); clear hst hO; refine gen_frame2 2 3 (.pointer (some ⟨w.heap.size, 0, none⟩)) (.pointer (some ⟨w.heap.size + 1, 0, none⟩)) (by kernel_rfl) (by kernel_rfl) (by kernel_rfl) ?_; intro A hA hB hAd))
        refine bodyPost_ret (v := .tuple #[.agg (List.toArray zero9), .agg (List.toArray [.int .i64 2, .int .i64 4, .int .i64 ((y.p : Int) + 12)])]) ?_ hAd ⟨by rw [ER.out], by rw [ER.out]; exact PX.out, CH.out⟩
        exact results_cc Try.results38 _ _ _ _ zero9 [.int .i64 2, .int .i64 4, .int .i64 ((y.p : Int) + 12)] _ _ hA O0.out.range0 Try.underlying61 rfl (by kernel_rfl) hB O1.out.range0 Try.underlying46 rfl (by kernel_rfl)
      cases b3
      rotate_left
      · have hIL : (⟨y', m', some [.int .i64 2, .int .i64 4, .int .i64 ((y.p : Int) + 12)], b, E⟩ : IR) = IRS := hIL
        subst hIL
        have ER := Lib.hid (show RS = ((zero9, [.int .i64 2, .int .i64 4, .int .i64 ((y.p : Int) + 12)]), (y', m')) from HE0.out.symm)
        clear HE0
        go_wp2_with (first
          | ((go_at_call 79; (with_reducible refine (iwrong_any _ _).mono ?_); rintro e wc ⟨rfl, hb⟩); have O0 := Lib.hid (O0.out.below hb O0.out.lt); have O1 := Lib.hid (O1.out.below hb O1.out.lt); have O5 := Lib.hid (O5.out.below hb O5.out.lt); have O12 := Lib.hid (O12.out.below hb O12.out.lt); have PX := Lib.hid (PX.out.upon hb PX.out.src.lt PX.out.led.lt); have CH := Lib.hid (CH.out.trans (chg_of_below hb _)); clear hb)
          | (refine store_o rfl 61 9 _ _ rfl w.heap.size zero9 rfl rfl (by kernel_rfl) (by kernel_rfl) (by kernel_rfl) O0.out (by first | rfl | simp) ?_; intro ws hst hO; have O0 := Lib.hid hO; have O1 := Lib.hid (hst.oth O1.out (by omega)); have O5 := Lib.hid (hst.oth O5.out (by omega)); have O12 := Lib.hid (hst.oth O12.out (by omega)); have PX := Lib.hid (PX.out.into hst (by omega) (by omega)); have CH := Lib.hid (hst.chg CH.out (by omega)); clear hst hO)
          | (refine store_o rfl 46 3 _ _ rfl (w.heap.size + 1) [.int .i64 2, .int .i64 4, .int .i64 ((y.p : Int) + 12)] rfl rfl (by kernel_rfl) (by kernel_rfl) (by kernel_rfl) O1.out (by first | rfl | simp) ?_; intro ws hst hO; have O1 := Lib.hid hO; have O0 := Lib.hid (hst.oth O0.out (by omega)); have O5 := Lib.hid (hst.oth O5.out (by omega)); have O12 := Lib.hid (hst.oth O12.out (by omega)); have PX := Lib.hid (PX.out.into hst (by omega) (by omega)); have CH := Lib.hid (hst.chg CH.out (by omega)); clear hst hO; refine gen_frame2 2 3 (.pointer (some ⟨w.heap.size, 0, none⟩)) (.pointer (some ⟨w.heap.size + 1, 0, none⟩)) (by kernel_rfl) (by kernel_rfl) (by kernel_rfl) ?_; intro A hA hB hAd))
        refine bodyPost_ret (v := .tuple #[.agg (List.toArray zero9), .agg (List.toArray [.int .i64 2, .int .i64 4, .int .i64 ((y.p : Int) + 12)])]) ?_ hAd ⟨by rw [ER.out], by rw [ER.out]; exact PX.out, CH.out⟩
        exact results_cc Try.results38 _ _ _ _ zero9 [.int .i64 2, .int .i64 4, .int .i64 ((y.p : Int) + 12)] _ _ hA O0.out.range0 Try.underlying61 rfl (by kernel_rfl) hB O1.out.range0 Try.underlying46 rfl (by kernel_rfl)
      have hb2 : ¬ e.P > A := of_decide_eq_false hb2
      simp only [Bool.or_self, cond_false] at hIL
      obtain ⟨b0, hb0⟩ : ∃ b, ((i : Int) == 0) = b := ⟨_, rfl⟩
      rw [hb0] at hIL
      have c0 : ws.cell? ⟨d5, 0, none⟩ = some (.bool cur) := (O5.out.cell 0).trans rfl
      have HBT := Lib.hid (fun w0 => (show Calls Try.prog 80 #[.agg (List.toArray e.cells), .agg (List.toArray E.cells), .bool cur] w0 (fun ee w' => ee = .returned (.bool (e.beats E cur)) ∧ Below w0.heap.size w0 w') from better_any e.W e.H e.A e.B e.Z e.P E.W E.H E.A E.B E.Z E.P cur w0 eok.w0 eok.w1 eok.h0 eok.h1 hEo.w0 hEo.w1 hEo.h0 hEo.h1))
      cases b0
      · have hi0 : 0 < i := by have h : ¬ (i : Int) = 0 := by simpa using hb0
                               omega
        obtain ⟨bt, hbt⟩ : ∃ b, e.beats E cur = b := ⟨_, rfl⟩
        rw [hbt] at HBT hIL
        cases bt
        · have hIL : iLoop n A cur k (i + 1) y' m' b E = IRS := hIL
          clear HE0
          go_wp2_with (first
            | (refine load_u (by kernel_rfl) 59 6 _ rfl d12 e.cells rfl rfl O12.out Try.underlying59 rfl (by kernel_rfl) ?_; intro _)
            | (refine load_ag (by kernel_rfl) 59 _ rfl d5 3 E.cells rfl O5.out rfl Try.underlying59 rfl (by kernel_rfl) ?_; intro _)
            | ((go_at_call 80; (with_reducible refine (HBT.out _).mono ?_); rintro e w8 ⟨rfl, hb⟩); have O0 := Lib.hid (O0.out.below hb O0.out.lt); have O1 := Lib.hid (O1.out.below hb O1.out.lt); have O5 := Lib.hid (O5.out.below hb O5.out.lt); have O12 := Lib.hid (O12.out.below hb O12.out.lt); have PX := Lib.hid (PX.out.upon hb PX.out.src.lt PX.out.led.lt); have CH := Lib.hid (CH.out.trans (chg_of_below hb _)); clear hb))
          go_roundw
          case rel => exact ⟨i + 1, y', m', b, E, by omega, by go_num, by rw [hk2]; exact hIL, hEo, fun _ => hEp hi0, by rw [hLy', hyL], PX.out, O5.out, O0.out, O1.out, CH.out⟩
          case measure => simp [intOf]; omega
        · have hIL : iLoop n A cur k (i + 1) y' m' i e = IRS := hIL
          clear HE0
          go_upto_region 17 with (first
            | (refine load_u (by kernel_rfl) 59 6 _ rfl d12 e.cells rfl rfl O12.out Try.underlying59 rfl (by kernel_rfl) ?_; intro _)
            | (refine load_ag (by kernel_rfl) 59 _ rfl d5 3 E.cells rfl O5.out rfl Try.underlying59 rfl (by kernel_rfl) ?_; intro _)
            | ((go_at_call 80; (with_reducible refine (HBT.out _).mono ?_); rintro e w8 ⟨rfl, hb⟩); have O0 := Lib.hid (O0.out.below hb O0.out.lt); have O1 := Lib.hid (O1.out.below hb O1.out.lt); have O5 := Lib.hid (O5.out.below hb O5.out.lt); have O12 := Lib.hid (O12.out.below hb O12.out.lt); have PX := Lib.hid (PX.out.upon hb PX.out.src.lt PX.out.led.lt); have CH := Lib.hid (CH.out.trans (chg_of_below hb _)); clear hb))
          refine wp_region_noPanic ?_
          refine wp_region_held_drew (S := fun w' => w'.rangeAt d12 0 e.cells) (by kernel_rfl) O12.out.range0 (fun hHeld => ?_)
          refine wpAnyH_take (i := 0) (v := .int .i64 i) rfl (by kernel_rfl) (by kernel_rfl) (by kernel_rfl) (fun _ _ _ h => h) (Or.inl ⟨by rfl, fun w hS => by go_simp⟩) hHeld ?_
          simp only [Act.put, List.setIfInBounds_toArray, List.set_cons_zero, List.set_cons_succ, List.getElem_toArray, List.getElem_cons_zero, List.getElem_cons_succ]
          refine wpAnyH_take (i := 1) rfl (by kernel_rfl) (by kernel_rfl) (by kernel_rfl) (fun _ _ _ h => h) (yieldsIf_load_mid (by rfl) 59 _ rfl (d12) 0 rfl e.cells _ (fun _ h => h) Try.underlying59 rfl (by kernel_rfl)) hHeld ?_
          simp only [Act.put, List.setIfInBounds_toArray, List.set_cons_zero, List.set_cons_succ, List.getElem_toArray, List.getElem_cons_zero, List.getElem_cons_succ]
          refine wpAnyH_take (i := 2) (v := .pointer (some ⟨d5, 2, none⟩)) rfl (by kernel_rfl) (by kernel_rfl) (by kernel_rfl) (fun _ _ _ h => h) (Or.inl ⟨by rfl, fun w hS => by go_simp⟩) hHeld ?_
          simp only [Act.put, List.setIfInBounds_toArray, List.set_cons_zero, List.set_cons_succ, List.getElem_toArray, List.getElem_cons_zero, List.getElem_cons_succ]
          have O0 := Lib.hid (O0.out.drew)
          have O1 := Lib.hid (O1.out.drew)
          have O5 := Lib.hid (O5.out.drew)
          have O12 := Lib.hid (O12.out.drew)
          have PX := Lib.hid (PX.out.drew1)
          have CH := Lib.hid CH.out.drew
          generalize World.drew _ = wk at O0 O1 O5 O12 PX CH ⊢
          have cB : wk.cell? ⟨d5, 2, none⟩ = some (.int .i64 b) := (O5.out.cell 2).trans rfl
          have fB : wk.frozen? ⟨d5, 2, none⟩ = false := O5.out.frozen 2
          refine wpAnyH_ready (rs := [3]) (by kernel_rfl) (by simp) ?_
          refine AllReadyH.cons (o := _) rfl (fun K' hK => ?_) AllReadyH.nil
          go_simp
          have O5 := Lib.hid ((O5.out.set 2 (.int .i64 i)).cells (show _ = (dCells cur n i E).toArray from rfl))
          have O12 := Lib.hid (O12.out.set_other ⟨d5, 2, none⟩ (.int .i64 i) (by simp; omega))
          have O0 := Lib.hid (O0.out.set_other ⟨d5, 2, none⟩ (.int .i64 i) (by simp; omega))
          have O1 := Lib.hid (O1.out.set_other ⟨d5, 2, none⟩ (.int .i64 i) (by simp; omega))
          have PX := Lib.hid (PX.out.setc (b := d5) (o := 2) (.int .i64 i) (by omega) (by omega))
          have CH := Lib.hid (CH.out.setc d5 2 (.int .i64 i) (by omega))
          generalize World.setCell _ _ _ = wk2 at O0 O1 O5 O12 PX CH ⊢
          refine hK _ _ O12.out.range0 (fun hH0 => ?_)
          clear hK K' cB fB
          try simp only [Act.put, List.setIfInBounds_toArray, List.set_cons_zero, List.set_cons_succ, List.getElem_toArray, List.getElem_cons_zero, List.getElem_cons_succ]
          obtain ⟨wk, rfl⟩ : ∃ z, z = wk2 := ⟨_, rfl⟩
          refine wpAnyH_take (i := 4) (v := .pointer (some ⟨d5, 3, none⟩)) rfl (by kernel_rfl) (by kernel_rfl) (by kernel_rfl) (fun _ _ _ h => h) (Or.inl ⟨by rfl, fun w hS => by go_simp⟩) hH0 ?_
          simp only [Act.put, List.setIfInBounds_toArray, List.set_cons_zero, List.set_cons_succ, List.getElem_toArray, List.getElem_cons_zero, List.getElem_cons_succ]
          refine wpAnyH_ready (rs := [5]) (by kernel_rfl) (by simp) ?_
          refine AllReadyH.cons (o := _) rfl (fun K' hK => ?_) AllReadyH.nil
          rw [if_pos (by rfl)]
          refine wp_store_mid 59 _ _ rfl (d5) 3 (List.toArray e.cells) rfl rfl (O5.out.there 3 6 (by simp [dCells])) (by kernel_rfl) (all_oneCell_toArray (List.all_eq_true.1 (by rfl))) ?_
          simp only [Act.put, List.setIfInBounds_toArray, List.set_cons_zero, List.set_cons_succ, List.getElem_toArray, List.getElem_cons_zero, List.getElem_cons_succ]
          have hst : Stored wk (d5) 3 e.cells (wk.setCells (d5) 3 e.cells) := rfl
          have O5 := Lib.hid (hst.obj O5.out)
          have O0 := Lib.hid (hst.oth O0.out (by omega))
          have O1 := Lib.hid (hst.oth O1.out (by omega))
          have O12 := Lib.hid (hst.oth O12.out (by omega))
          have PX := Lib.hid (PX.out.into hst (by omega) (by omega))
          have CH := Lib.hid (hst.chg CH.out (by omega))
          generalize World.setCells _ _ _ _ = wk2 at O0 O1 O5 O12 PX CH ⊢
          clear hst
          refine hK _ _ O12.out.range0 (fun hH1 => ?_)
          clear hK K'
          obtain ⟨wk, rfl⟩ : ∃ z, z = wk2 := ⟨_, rfl⟩
          refine wpAnyH_done (by kernel_rfl) ?_ _
          refine NoPanic.normal ?_
          have O5 := Lib.hid (O5.out.cells (show _ = (dCells cur n i e).toArray from rfl))
          go_wp2_with fail
          go_roundw
          case rel => exact ⟨i + 1, y', m', i, e, by omega, by go_num, by rw [hk2]; exact hIL, eok, fun _ => by omega, by rw [hLy', hyL], PX.out, O5.out, O0.out, O1.out, CH.out⟩
          case measure => simp [intOf]; omega
      · have hIL : iLoop n A cur k (i + 1) y' m' i e = IRS := hIL
        clear HE0
        go_upto_region 17 with (fail)
        refine wp_region_noPanic ?_
        refine wp_region_held_drew (S := fun w' => w'.rangeAt d12 0 e.cells) (by kernel_rfl) O12.out.range0 (fun hHeld => ?_)
        refine wpAnyH_take (i := 0) (v := .int .i64 i) rfl (by kernel_rfl) (by kernel_rfl) (by kernel_rfl) (fun _ _ _ h => h) (Or.inl ⟨by rfl, fun w hS => by go_simp⟩) hHeld ?_
        simp only [Act.put, List.setIfInBounds_toArray, List.set_cons_zero, List.set_cons_succ, List.getElem_toArray, List.getElem_cons_zero, List.getElem_cons_succ]
        refine wpAnyH_take (i := 1) rfl (by kernel_rfl) (by kernel_rfl) (by kernel_rfl) (fun _ _ _ h => h) (yieldsIf_load_mid (by rfl) 59 _ rfl (d12) 0 rfl e.cells _ (fun _ h => h) Try.underlying59 rfl (by kernel_rfl)) hHeld ?_
        simp only [Act.put, List.setIfInBounds_toArray, List.set_cons_zero, List.set_cons_succ, List.getElem_toArray, List.getElem_cons_zero, List.getElem_cons_succ]
        refine wpAnyH_take (i := 2) (v := .pointer (some ⟨d5, 2, none⟩)) rfl (by kernel_rfl) (by kernel_rfl) (by kernel_rfl) (fun _ _ _ h => h) (Or.inl ⟨by rfl, fun w hS => by go_simp⟩) hHeld ?_
        simp only [Act.put, List.setIfInBounds_toArray, List.set_cons_zero, List.set_cons_succ, List.getElem_toArray, List.getElem_cons_zero, List.getElem_cons_succ]
        have O0 := Lib.hid (O0.out.drew)
        have O1 := Lib.hid (O1.out.drew)
        have O5 := Lib.hid (O5.out.drew)
        have O12 := Lib.hid (O12.out.drew)
        have PX := Lib.hid (PX.out.drew1)
        have CH := Lib.hid CH.out.drew
        generalize World.drew _ = wk at O0 O1 O5 O12 PX CH ⊢
        have cB : wk.cell? ⟨d5, 2, none⟩ = some (.int .i64 b) := (O5.out.cell 2).trans rfl
        have fB : wk.frozen? ⟨d5, 2, none⟩ = false := O5.out.frozen 2
        refine wpAnyH_ready (rs := [3]) (by kernel_rfl) (by simp) ?_
        refine AllReadyH.cons (o := _) rfl (fun K' hK => ?_) AllReadyH.nil
        go_simp
        have O5 := Lib.hid ((O5.out.set 2 (.int .i64 i)).cells (show _ = (dCells cur n i E).toArray from rfl))
        have O12 := Lib.hid (O12.out.set_other ⟨d5, 2, none⟩ (.int .i64 i) (by simp; omega))
        have O0 := Lib.hid (O0.out.set_other ⟨d5, 2, none⟩ (.int .i64 i) (by simp; omega))
        have O1 := Lib.hid (O1.out.set_other ⟨d5, 2, none⟩ (.int .i64 i) (by simp; omega))
        have PX := Lib.hid (PX.out.setc (b := d5) (o := 2) (.int .i64 i) (by omega) (by omega))
        have CH := Lib.hid (CH.out.setc d5 2 (.int .i64 i) (by omega))
        generalize World.setCell _ _ _ = wk2 at O0 O1 O5 O12 PX CH ⊢
        refine hK _ _ O12.out.range0 (fun hH0 => ?_)
        clear hK K' cB fB
        try simp only [Act.put, List.setIfInBounds_toArray, List.set_cons_zero, List.set_cons_succ, List.getElem_toArray, List.getElem_cons_zero, List.getElem_cons_succ]
        obtain ⟨wk, rfl⟩ : ∃ z, z = wk2 := ⟨_, rfl⟩
        refine wpAnyH_take (i := 4) (v := .pointer (some ⟨d5, 3, none⟩)) rfl (by kernel_rfl) (by kernel_rfl) (by kernel_rfl) (fun _ _ _ h => h) (Or.inl ⟨by rfl, fun w hS => by go_simp⟩) hH0 ?_
        simp only [Act.put, List.setIfInBounds_toArray, List.set_cons_zero, List.set_cons_succ, List.getElem_toArray, List.getElem_cons_zero, List.getElem_cons_succ]
        refine wpAnyH_ready (rs := [5]) (by kernel_rfl) (by simp) ?_
        refine AllReadyH.cons (o := _) rfl (fun K' hK => ?_) AllReadyH.nil
        rw [if_pos (by rfl)]
        refine wp_store_mid 59 _ _ rfl (d5) 3 (List.toArray e.cells) rfl rfl (O5.out.there 3 6 (by simp [dCells])) (by kernel_rfl) (all_oneCell_toArray (List.all_eq_true.1 (by rfl))) ?_
        simp only [Act.put, List.setIfInBounds_toArray, List.set_cons_zero, List.set_cons_succ, List.getElem_toArray, List.getElem_cons_zero, List.getElem_cons_succ]
        have hst : Stored wk (d5) 3 e.cells (wk.setCells (d5) 3 e.cells) := rfl
        have O5 := Lib.hid (hst.obj O5.out)
        have O0 := Lib.hid (hst.oth O0.out (by omega))
        have O1 := Lib.hid (hst.oth O1.out (by omega))
        have O12 := Lib.hid (hst.oth O12.out (by omega))
        have PX := Lib.hid (PX.out.into hst (by omega) (by omega))
        have CH := Lib.hid (hst.chg CH.out (by omega))
        generalize World.setCells _ _ _ _ = wk2 at O0 O1 O5 O12 PX CH ⊢
        clear hst
        refine hK _ _ O12.out.range0 (fun hH1 => ?_)
        clear hK K'
        obtain ⟨wk, rfl⟩ : ∃ z, z = wk2 := ⟨_, rfl⟩
        refine wpAnyH_done (by kernel_rfl) ?_ _
        refine NoPanic.normal ?_
        have O5 := Lib.hid (O5.out.cells (show _ = (dCells cur n i e).toArray from rfl))
        go_wp2_with fail
        go_roundw
        case rel => exact ⟨i + 1, y', m', i, e, by omega, by go_num, by rw [hk2]; exact hIL, eok, fun _ => by omega, by rw [hLy', hyL], PX.out, O5.out, O0.out, O1.out, CH.out⟩
        case measure => simp [intOf]; omega
theorem iread_any (X : Nat) (x : Sr) (l : Led) (w : World) (h : Pair w X x l) : Calls Try.prog 38 #[.pointer (some ⟨X, 0, none⟩)] w (IReadPost w X x (dRead x l)) := by
  cases hg : bGood x l with
  | false => exact iread_bad X x l w h hg
  | true => exact iread_good X x l w h hg
end Go.Proofs.Ytomikbecbbjhoaa

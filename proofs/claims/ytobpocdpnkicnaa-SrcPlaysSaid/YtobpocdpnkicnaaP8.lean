/- The law SrcPlays: one call, walked: Window (printed by gen_one.py). -/
import Derived.Test.YtobpocdpnkicnaaP7
namespace Go.Proofs.Ytobpocdpnkicnaa
open Go.RowKit
set_option linter.unusedVariables false
set_option linter.unusedSimpArgs false
set_option maxRecDepth 100000 in
set_option maxHeartbeats 4000000 in
theorem one_win_a (X : Nat) (x : Sr) (l : Led) (N M : Int) (w : World) (h : Pair w X x l) (hN : N < x.b) :
    Calls Try.prog 65 #[.pointer (some ⟨X, 0, none⟩), .agg (St x l).toArray, .agg #[.int .i64 11, .int .i64 N, .int .i64 M]] w (OneP w X x X x l) := by
  have hX := h.src.lt
  have hL := h.led.lt
  have he1 : (x.e : Int) ≤ 9223372036854775807 := by have := h.src.ok.es; have := h.src.ok.sz; omega
  have HE1 := Lib.hid he1
  have HXL := Lib.hid (St_len x l)
  have HXO := Lib.hid (St_one x l)
  have hx1 : (St x l).toArray[1]? = some (.int .i64 x.b) := rfl
  have hx2 : (St x l).toArray[2]? = some (.int .i64 x.e) := rfl
  have hx3 : (St x l).toArray[3]? = some (.int .i64 x.p) := rfl
  have HP := Lib.hid (fun (w0 : World) (hb : Below w.heap.size w w0) => (window_no X x N M w0 (h.under hb hX hL).src (by unfold Sr.winB; omega)).mono (R' := fun e w' => e = .returned (.tuple #[.pointer none, .bool false]) ∧ Pair w' X x l ∧ Chg (two X x) w0 w') fun e w' hh => by obtain ⟨hh1, rfl⟩ := hh; exact ⟨hh1, h.under hb hX hL, Chg.refl _ _⟩)
  unfold OneP
  obtain ⟨XS, hXS⟩ : ∃ XS, St x l = XS := ⟨_, rfl⟩
  rw [hXS] at HXL HXO hx1 hx2 hx3 ⊢
  clear hXS h
  have O0 := Lib.hid (fun T1 cs1 T' cs' => (((obj1_new w XS.toArray 105).alloc (.cells cs1 T1)).alloc (.cells cs' T')))
  have O2 : Hid (∀ cs1 cs, Obj1 (((w.alloc (.cells XS.toArray 105)).alloc (.cells cs1 109)).alloc (.cells cs 105)) (w.heap.size + 1 + 1) cs 105) := fun cs1 cs => by
    have := (obj1_new2 (w.alloc (.cells XS.toArray 105)) (.cells cs1 109) (cs := cs) (cs' := cs) 105 rfl)
    simpa using this
  have O1 : Hid (∀ cs1 cs, Obj1 (((w.alloc (.cells XS.toArray 105)).alloc (.cells cs1 109)).alloc (.cells cs 105)) (w.heap.size + 1) cs1 109) := fun cs1 cs => (obj1_new2 w (.cells XS.toArray 105) (cs := cs1) (cs' := cs1) 109 rfl).alloc _
  have BB := Lib.hid (fun T1 cs1 T' cs' => ((((Below.refl w.heap.size w).alloc (Nat.le_refl _) (.cells XS.toArray 105)).alloc (by simp) (.cells cs1 T1)).alloc (by simp; omega) (.cells cs' T')))
  have CC := Lib.hid (fun T1 cs1 T' cs' => ((((Chg.refl (two X x) w).alloc (.cells XS.toArray 105)).alloc (.cells cs1 T1)).alloc (.cells cs' T')))
  have hn0 : ∀ k, w.heap.size ≤ k → ¬ two X x k := fun k hk h => by rcases h with h | h <;> omega
  have HN0 := Lib.hid hn0
  clear hn0
  have D0 : decide (N < (x.b : Int)) = true := by rw [decide_eq_true_iff]; omega
  go_enter Try.func65, Try.ntmps65
  go_wp2_with (first
    | ((go_at_call 42; (with_reducible refine (HP.out _ (BB.out _ _ _ _)).mono ?_); rintro e w1 ⟨rfl, hP1, hC1⟩); have OH1 := Lib.hid (hC1.obj (O0.out _ _ _ _) (HN0.out _ (Nat.le_refl _))); have OO1 := Lib.hid (hC1.obj (O1.out _ _) (HN0.out _ (by omega))); have OR1 := Lib.hid (hC1.obj (O2.out _ _) (HN0.out _ (by omega))); have C1 := Lib.hid ((CC.out _ _ _ _).trans hC1); have HP1 := Lib.hid hP1; have n1 : w1.cell? ⟨w.heap.size + 1, 1, none⟩ = some (.int .i64 N) := (OO1.out.cell 1).trans rfl; have n2 : w1.cell? ⟨w.heap.size + 1, 2, none⟩ = some (.int .i64 M) := (OO1.out.cell 2).trans rfl; have m1 : w1.cell? ⟨w.heap.size, 1, none⟩ = some (.int .i64 x.b) := (OH1.out.cell 1).trans hx1; have m2 : w1.cell? ⟨w.heap.size, 2, none⟩ = some (.int .i64 x.e) := (OH1.out.cell 2).trans hx2; have m3 : w1.cell? ⟨w.heap.size, 3, none⟩ = some (.int .i64 x.p) := (OH1.out.cell 3).trans hx3; have f1 := OH1.out.frozen 1; have f2 := OH1.out.frozen 2; have f3 := OH1.out.frozen 3; clear hP1 hC1))
  have hi : (Try.prog.info? 105).map (·.size) = some XS.length := by rw [HXL.out]; kernel_rfl
  refine wp_region_noPanic ?_
  refine wp_region_held_drew (S := fun w' => w'.rangeAt w.heap.size 0 XS ∧ w'.there (w.heap.size + 1 + 1) 0 13) (by kernel_rfl) ⟨OH1.out.range0, OR1.out.there 0 13 (by simp)⟩ (fun hHeld => ?_)
  refine wpAnyH_take (i := 0) (v := .pointer (some ⟨X, 0, none⟩)) rfl (by kernel_rfl) (by kernel_rfl) (by kernel_rfl) (fun _ _ _ h => h) (Or.inl ⟨by rfl, fun w _ => by go_simp⟩) hHeld ?_
  simp only [Act.put, List.setIfInBounds_toArray, List.set_cons_zero, List.set_cons_succ, List.getElem_toArray, List.getElem_cons_zero, List.getElem_cons_succ]
  refine wpAnyH_take (i := 1) rfl (by kernel_rfl) (by kernel_rfl) (by kernel_rfl) (fun _ _ _ h => h) (yieldsIf_load_mid (by rfl) 105 _ rfl w.heap.size 0 rfl XS _ (fun _ h => h.1) Try.underlying105 rfl hi) hHeld ?_
  simp only [Act.put, List.setIfInBounds_toArray, List.set_cons_zero, List.set_cons_succ, List.getElem_toArray, List.getElem_cons_zero, List.getElem_cons_succ]
  refine wpAnyH_take (i := 2) (v := .bool false) rfl (by kernel_rfl) (by kernel_rfl) (by kernel_rfl) (fun _ _ _ h => h) (Or.inl ⟨by rfl, fun w _ => by go_simp⟩) hHeld ?_
  simp only [Act.put, List.setIfInBounds_toArray, List.set_cons_zero, List.set_cons_succ, List.getElem_toArray, List.getElem_cons_zero, List.getElem_cons_succ]
  refine wpAnyH_take (i := 3) (v := .bool true) rfl (by kernel_rfl) (by kernel_rfl) (by kernel_rfl) (fun _ _ _ h => h) (Or.inl ⟨by rfl, fun w _ => by go_simp⟩) hHeld ?_
  simp only [Act.put, List.setIfInBounds_toArray, List.set_cons_zero, List.set_cons_succ, List.getElem_toArray, List.getElem_cons_zero, List.getElem_cons_succ]
  refine wpAnyH_take (i := 4) (v := .bool true) rfl (by kernel_rfl) (by kernel_rfl) (by kernel_rfl) (fun _ _ _ h => h) (Or.inl ⟨by rfl, fun w _ => by go_simp⟩) hHeld ?_
  simp only [Act.put, List.setIfInBounds_toArray, List.set_cons_zero, List.set_cons_succ, List.getElem_toArray, List.getElem_cons_zero, List.getElem_cons_succ]
  refine wpAnyH_take (i := 5) (v := .pointer none) rfl (by kernel_rfl) (by kernel_rfl) (by kernel_rfl) (fun _ _ _ h => h) (Or.inl ⟨by rfl, fun w _ => by go_simp⟩) hHeld ?_
  simp only [Act.put, List.setIfInBounds_toArray, List.set_cons_zero, List.set_cons_succ, List.getElem_toArray, List.getElem_cons_zero, List.getElem_cons_succ]
  refine wpAnyH_take (i := 6) (v := .bool true) rfl (by kernel_rfl) (by kernel_rfl) (by kernel_rfl) (fun _ _ _ h => h) (Or.inl ⟨by rfl, fun w _ => by go_simp⟩) hHeld ?_
  simp only [Act.put, List.setIfInBounds_toArray, List.set_cons_zero, List.set_cons_succ, List.getElem_toArray, List.getElem_cons_zero, List.getElem_cons_succ]
  refine wpAnyH_take (i := 7) (v := .bool true) rfl (by kernel_rfl) (by kernel_rfl) (by kernel_rfl) (fun _ _ _ h => h) (Or.inl ⟨by rfl, fun w _ => by go_simp⟩) hHeld ?_
  simp only [Act.put, List.setIfInBounds_toArray, List.set_cons_zero, List.set_cons_succ, List.getElem_toArray, List.getElem_cons_zero, List.getElem_cons_succ]
  refine wpAnyH_take (i := 8) (v := .pointer (some ⟨X, 0, none⟩)) rfl (by kernel_rfl) (by kernel_rfl) (by kernel_rfl) (fun _ _ _ h => h) (Or.inl ⟨by rfl, fun w _ => by go_simp⟩) hHeld ?_
  simp only [Act.put, List.setIfInBounds_toArray, List.set_cons_zero, List.set_cons_succ, List.getElem_toArray, List.getElem_cons_zero, List.getElem_cons_succ]
  refine wpAnyH_ready (rs := [9]) (by kernel_rfl) (by simp) ?_
  refine AllReadyH.cons (o := _) rfl (fun K hK => ?_) AllReadyH.nil
  rw [if_pos (by rfl)]
  refine wp_store_mid 105 _ _ rfl (w.heap.size + 1 + 1) 0 (List.toArray XS) rfl rfl (by have := OR1.out.there 0 13 (by simp); simpa [HXL.out] using this) (by rw [List.size_toArray]; exact hi) (all_oneCell_toArray (List.all_eq_true.1 HXO.out)) ?_
  simp only [Act.put, List.setIfInBounds_toArray, List.set_cons_zero, List.set_cons_succ, List.getElem_toArray, List.getElem_cons_zero, List.getElem_cons_succ]
  have hst : Stored w1.drew (w.heap.size + 1 + 1) 0 XS (w1.drew.setCells (w.heap.size + 1 + 1) 0 XS) := rfl
  have hO3 := hst.full (T := 105) OR1.out.drew HXL.out
  have hOY3 := hst.oth (OH1.out.drew) (by omega)
  have C3 := Lib.hid (hst.chg C1.out.drew (Or.inr (by omega)))
  have HP3 := Lib.hid (Pair.stored (⟨⟨HP1.out.src.obj.drew, HP1.out.src.ok, HP1.out.src.ne⟩, ⟨HP1.out.led.obj.drew, HP1.out.led.ok⟩⟩ : Pair w1.drew _ _ _) hst (by omega) (by omega))
  obtain ⟨w9, hw9⟩ : ∃ w9, w1.drew.setCells (w.heap.size + 1 + 1) 0 XS = w9 := ⟨_, rfl⟩
  rw [hw9] at hO3 hOY3 C3 HP3 ⊢
  clear hst hw9
  refine hK.out _ _ ⟨hOY3.range0, by have := hO3.there 0 13 (by simp [HXL.out]); simpa using this⟩ (fun hHeld2 => ?_)
  refine wpAnyH_take (i := 10) (v := .bool true) rfl (by kernel_rfl) (by kernel_rfl) (by kernel_rfl) (fun _ _ _ h => h) (Or.inl ⟨by rfl, fun w _ => by go_simp⟩) hHeld2 ?_
  simp only [Act.put, List.setIfInBounds_toArray, List.set_cons_zero, List.set_cons_succ, List.getElem_toArray, List.getElem_cons_zero, List.getElem_cons_succ]
  refine wpAnyH_done (by kernel_rfl) ?_ _
  refine NoPanic.normal ?_
  clear hK K
  go_wp2
  refine bodyPost_ret (v := .tuple #[.pointer (some ⟨X, 0, none⟩), .agg XS.toArray, .bool true]) ?_ rfl ⟨rfl, HP3.out, C3.out⟩
  exact results_tct Try.results65 _ _ _ _ _ rfl hO3.range0 Try.underlying105 rfl hi
set_option maxRecDepth 100000 in
set_option maxHeartbeats 4000000 in
theorem one_win_b (X : Nat) (x : Sr) (l : Led) (N M : Int) (w : World) (h : Pair w X x l) (hN : ¬ N < x.b ∧ (x.e : Int) < N) :
    Calls Try.prog 65 #[.pointer (some ⟨X, 0, none⟩), .agg (St x l).toArray, .agg #[.int .i64 11, .int .i64 N, .int .i64 M]] w (OneP w X x X x l) := by
  have hX := h.src.lt
  have hL := h.led.lt
  have he1 : (x.e : Int) ≤ 9223372036854775807 := by have := h.src.ok.es; have := h.src.ok.sz; omega
  have HE1 := Lib.hid he1
  have HXL := Lib.hid (St_len x l)
  have HXO := Lib.hid (St_one x l)
  have hx1 : (St x l).toArray[1]? = some (.int .i64 x.b) := rfl
  have hx2 : (St x l).toArray[2]? = some (.int .i64 x.e) := rfl
  have hx3 : (St x l).toArray[3]? = some (.int .i64 x.p) := rfl
  have HP := Lib.hid (fun (w0 : World) (hb : Below w.heap.size w w0) => (window_no X x N M w0 (h.under hb hX hL).src (by unfold Sr.winB; omega)).mono (R' := fun e w' => e = .returned (.tuple #[.pointer none, .bool false]) ∧ Pair w' X x l ∧ Chg (two X x) w0 w') fun e w' hh => by obtain ⟨hh1, rfl⟩ := hh; exact ⟨hh1, h.under hb hX hL, Chg.refl _ _⟩)
  unfold OneP
  obtain ⟨XS, hXS⟩ : ∃ XS, St x l = XS := ⟨_, rfl⟩
  rw [hXS] at HXL HXO hx1 hx2 hx3 ⊢
  clear hXS h
  have O0 := Lib.hid (fun T1 cs1 T' cs' => (((obj1_new w XS.toArray 105).alloc (.cells cs1 T1)).alloc (.cells cs' T')))
  have O2 : Hid (∀ cs1 cs, Obj1 (((w.alloc (.cells XS.toArray 105)).alloc (.cells cs1 109)).alloc (.cells cs 105)) (w.heap.size + 1 + 1) cs 105) := fun cs1 cs => by
    have := (obj1_new2 (w.alloc (.cells XS.toArray 105)) (.cells cs1 109) (cs := cs) (cs' := cs) 105 rfl)
    simpa using this
  have O1 : Hid (∀ cs1 cs, Obj1 (((w.alloc (.cells XS.toArray 105)).alloc (.cells cs1 109)).alloc (.cells cs 105)) (w.heap.size + 1) cs1 109) := fun cs1 cs => (obj1_new2 w (.cells XS.toArray 105) (cs := cs1) (cs' := cs1) 109 rfl).alloc _
  have BB := Lib.hid (fun T1 cs1 T' cs' => ((((Below.refl w.heap.size w).alloc (Nat.le_refl _) (.cells XS.toArray 105)).alloc (by simp) (.cells cs1 T1)).alloc (by simp; omega) (.cells cs' T')))
  have CC := Lib.hid (fun T1 cs1 T' cs' => ((((Chg.refl (two X x) w).alloc (.cells XS.toArray 105)).alloc (.cells cs1 T1)).alloc (.cells cs' T')))
  have hn0 : ∀ k, w.heap.size ≤ k → ¬ two X x k := fun k hk h => by rcases h with h | h <;> omega
  have HN0 := Lib.hid hn0
  clear hn0
  have D0 : decide (N < (x.b : Int)) = false := by rw [decide_eq_false_iff_not]; omega
  have D1 : decide (N > (x.e : Int)) = true := by rw [decide_eq_true_iff]; omega
  go_enter Try.func65, Try.ntmps65
  go_wp2_with (first
    | ((go_at_call 42; (with_reducible refine (HP.out _ (BB.out _ _ _ _)).mono ?_); rintro e w1 ⟨rfl, hP1, hC1⟩); have OH1 := Lib.hid (hC1.obj (O0.out _ _ _ _) (HN0.out _ (Nat.le_refl _))); have OO1 := Lib.hid (hC1.obj (O1.out _ _) (HN0.out _ (by omega))); have OR1 := Lib.hid (hC1.obj (O2.out _ _) (HN0.out _ (by omega))); have C1 := Lib.hid ((CC.out _ _ _ _).trans hC1); have HP1 := Lib.hid hP1; have n1 : w1.cell? ⟨w.heap.size + 1, 1, none⟩ = some (.int .i64 N) := (OO1.out.cell 1).trans rfl; have n2 : w1.cell? ⟨w.heap.size + 1, 2, none⟩ = some (.int .i64 M) := (OO1.out.cell 2).trans rfl; have m1 : w1.cell? ⟨w.heap.size, 1, none⟩ = some (.int .i64 x.b) := (OH1.out.cell 1).trans hx1; have m2 : w1.cell? ⟨w.heap.size, 2, none⟩ = some (.int .i64 x.e) := (OH1.out.cell 2).trans hx2; have m3 : w1.cell? ⟨w.heap.size, 3, none⟩ = some (.int .i64 x.p) := (OH1.out.cell 3).trans hx3; have f1 := OH1.out.frozen 1; have f2 := OH1.out.frozen 2; have f3 := OH1.out.frozen 3; clear hP1 hC1))
  have hi : (Try.prog.info? 105).map (·.size) = some XS.length := by rw [HXL.out]; kernel_rfl
  refine wp_region_noPanic ?_
  refine wp_region_held_drew (S := fun w' => w'.rangeAt w.heap.size 0 XS ∧ w'.there (w.heap.size + 1 + 1) 0 13) (by kernel_rfl) ⟨OH1.out.range0, OR1.out.there 0 13 (by simp)⟩ (fun hHeld => ?_)
  refine wpAnyH_take (i := 0) (v := .pointer (some ⟨X, 0, none⟩)) rfl (by kernel_rfl) (by kernel_rfl) (by kernel_rfl) (fun _ _ _ h => h) (Or.inl ⟨by rfl, fun w _ => by go_simp⟩) hHeld ?_
  simp only [Act.put, List.setIfInBounds_toArray, List.set_cons_zero, List.set_cons_succ, List.getElem_toArray, List.getElem_cons_zero, List.getElem_cons_succ]
  refine wpAnyH_take (i := 1) rfl (by kernel_rfl) (by kernel_rfl) (by kernel_rfl) (fun _ _ _ h => h) (yieldsIf_load_mid (by rfl) 105 _ rfl w.heap.size 0 rfl XS _ (fun _ h => h.1) Try.underlying105 rfl hi) hHeld ?_
  simp only [Act.put, List.setIfInBounds_toArray, List.set_cons_zero, List.set_cons_succ, List.getElem_toArray, List.getElem_cons_zero, List.getElem_cons_succ]
  refine wpAnyH_take (i := 2) (v := .bool false) rfl (by kernel_rfl) (by kernel_rfl) (by kernel_rfl) (fun _ _ _ h => h) (Or.inl ⟨by rfl, fun w _ => by go_simp⟩) hHeld ?_
  simp only [Act.put, List.setIfInBounds_toArray, List.set_cons_zero, List.set_cons_succ, List.getElem_toArray, List.getElem_cons_zero, List.getElem_cons_succ]
  refine wpAnyH_take (i := 3) (v := .bool true) rfl (by kernel_rfl) (by kernel_rfl) (by kernel_rfl) (fun _ _ _ h => h) (Or.inl ⟨by rfl, fun w _ => by go_simp⟩) hHeld ?_
  simp only [Act.put, List.setIfInBounds_toArray, List.set_cons_zero, List.set_cons_succ, List.getElem_toArray, List.getElem_cons_zero, List.getElem_cons_succ]
  refine wpAnyH_take (i := 4) (v := .bool true) rfl (by kernel_rfl) (by kernel_rfl) (by kernel_rfl) (fun _ _ _ h => h) (Or.inl ⟨by rfl, fun w _ => by go_simp⟩) hHeld ?_
  simp only [Act.put, List.setIfInBounds_toArray, List.set_cons_zero, List.set_cons_succ, List.getElem_toArray, List.getElem_cons_zero, List.getElem_cons_succ]
  refine wpAnyH_take (i := 5) (v := .pointer none) rfl (by kernel_rfl) (by kernel_rfl) (by kernel_rfl) (fun _ _ _ h => h) (Or.inl ⟨by rfl, fun w _ => by go_simp⟩) hHeld ?_
  simp only [Act.put, List.setIfInBounds_toArray, List.set_cons_zero, List.set_cons_succ, List.getElem_toArray, List.getElem_cons_zero, List.getElem_cons_succ]
  refine wpAnyH_take (i := 6) (v := .bool true) rfl (by kernel_rfl) (by kernel_rfl) (by kernel_rfl) (fun _ _ _ h => h) (Or.inl ⟨by rfl, fun w _ => by go_simp⟩) hHeld ?_
  simp only [Act.put, List.setIfInBounds_toArray, List.set_cons_zero, List.set_cons_succ, List.getElem_toArray, List.getElem_cons_zero, List.getElem_cons_succ]
  refine wpAnyH_take (i := 7) (v := .bool true) rfl (by kernel_rfl) (by kernel_rfl) (by kernel_rfl) (fun _ _ _ h => h) (Or.inl ⟨by rfl, fun w _ => by go_simp⟩) hHeld ?_
  simp only [Act.put, List.setIfInBounds_toArray, List.set_cons_zero, List.set_cons_succ, List.getElem_toArray, List.getElem_cons_zero, List.getElem_cons_succ]
  refine wpAnyH_take (i := 8) (v := .pointer (some ⟨X, 0, none⟩)) rfl (by kernel_rfl) (by kernel_rfl) (by kernel_rfl) (fun _ _ _ h => h) (Or.inl ⟨by rfl, fun w _ => by go_simp⟩) hHeld ?_
  simp only [Act.put, List.setIfInBounds_toArray, List.set_cons_zero, List.set_cons_succ, List.getElem_toArray, List.getElem_cons_zero, List.getElem_cons_succ]
  refine wpAnyH_ready (rs := [9]) (by kernel_rfl) (by simp) ?_
  refine AllReadyH.cons (o := _) rfl (fun K hK => ?_) AllReadyH.nil
  rw [if_pos (by rfl)]
  refine wp_store_mid 105 _ _ rfl (w.heap.size + 1 + 1) 0 (List.toArray XS) rfl rfl (by have := OR1.out.there 0 13 (by simp); simpa [HXL.out] using this) (by rw [List.size_toArray]; exact hi) (all_oneCell_toArray (List.all_eq_true.1 HXO.out)) ?_
  simp only [Act.put, List.setIfInBounds_toArray, List.set_cons_zero, List.set_cons_succ, List.getElem_toArray, List.getElem_cons_zero, List.getElem_cons_succ]
  have hst : Stored w1.drew (w.heap.size + 1 + 1) 0 XS (w1.drew.setCells (w.heap.size + 1 + 1) 0 XS) := rfl
  have hO3 := hst.full (T := 105) OR1.out.drew HXL.out
  have hOY3 := hst.oth (OH1.out.drew) (by omega)
  have C3 := Lib.hid (hst.chg C1.out.drew (Or.inr (by omega)))
  have HP3 := Lib.hid (Pair.stored (⟨⟨HP1.out.src.obj.drew, HP1.out.src.ok, HP1.out.src.ne⟩, ⟨HP1.out.led.obj.drew, HP1.out.led.ok⟩⟩ : Pair w1.drew _ _ _) hst (by omega) (by omega))
  obtain ⟨w9, hw9⟩ : ∃ w9, w1.drew.setCells (w.heap.size + 1 + 1) 0 XS = w9 := ⟨_, rfl⟩
  rw [hw9] at hO3 hOY3 C3 HP3 ⊢
  clear hst hw9
  refine hK.out _ _ ⟨hOY3.range0, by have := hO3.there 0 13 (by simp [HXL.out]); simpa using this⟩ (fun hHeld2 => ?_)
  refine wpAnyH_take (i := 10) (v := .bool true) rfl (by kernel_rfl) (by kernel_rfl) (by kernel_rfl) (fun _ _ _ h => h) (Or.inl ⟨by rfl, fun w _ => by go_simp⟩) hHeld2 ?_
  simp only [Act.put, List.setIfInBounds_toArray, List.set_cons_zero, List.set_cons_succ, List.getElem_toArray, List.getElem_cons_zero, List.getElem_cons_succ]
  refine wpAnyH_done (by kernel_rfl) ?_ _
  refine NoPanic.normal ?_
  clear hK K
  go_wp2
  refine bodyPost_ret (v := .tuple #[.pointer (some ⟨X, 0, none⟩), .agg XS.toArray, .bool true]) ?_ rfl ⟨rfl, HP3.out, C3.out⟩
  exact results_tct Try.results65 _ _ _ _ _ rfl hO3.range0 Try.underlying105 rfl hi
set_option maxRecDepth 100000 in
set_option maxHeartbeats 4000000 in
theorem one_win_c (X : Nat) (x : Sr) (l : Led) (N M : Int) (w : World) (h : Pair w X x l) (hN : ¬ N < x.b ∧ ¬ (x.e : Int) < N ∧ M < 0) :
    Calls Try.prog 65 #[.pointer (some ⟨X, 0, none⟩), .agg (St x l).toArray, .agg #[.int .i64 11, .int .i64 N, .int .i64 M]] w (OneP w X x X x l) := by
  have hX := h.src.lt
  have hL := h.led.lt
  have he1 : (x.e : Int) ≤ 9223372036854775807 := by have := h.src.ok.es; have := h.src.ok.sz; omega
  have HE1 := Lib.hid he1
  have HXL := Lib.hid (St_len x l)
  have HXO := Lib.hid (St_one x l)
  have hx1 : (St x l).toArray[1]? = some (.int .i64 x.b) := rfl
  have hx2 : (St x l).toArray[2]? = some (.int .i64 x.e) := rfl
  have hx3 : (St x l).toArray[3]? = some (.int .i64 x.p) := rfl
  have HP := Lib.hid (fun (w0 : World) (hb : Below w.heap.size w w0) => (window_no X x N M w0 (h.under hb hX hL).src (by unfold Sr.winB; omega)).mono (R' := fun e w' => e = .returned (.tuple #[.pointer none, .bool false]) ∧ Pair w' X x l ∧ Chg (two X x) w0 w') fun e w' hh => by obtain ⟨hh1, rfl⟩ := hh; exact ⟨hh1, h.under hb hX hL, Chg.refl _ _⟩)
  unfold OneP
  obtain ⟨XS, hXS⟩ : ∃ XS, St x l = XS := ⟨_, rfl⟩
  rw [hXS] at HXL HXO hx1 hx2 hx3 ⊢
  clear hXS h
  have O0 := Lib.hid (fun T1 cs1 T' cs' => (((obj1_new w XS.toArray 105).alloc (.cells cs1 T1)).alloc (.cells cs' T')))
  have O2 : Hid (∀ cs1 cs, Obj1 (((w.alloc (.cells XS.toArray 105)).alloc (.cells cs1 109)).alloc (.cells cs 105)) (w.heap.size + 1 + 1) cs 105) := fun cs1 cs => by
    have := (obj1_new2 (w.alloc (.cells XS.toArray 105)) (.cells cs1 109) (cs := cs) (cs' := cs) 105 rfl)
    simpa using this
  have O1 : Hid (∀ cs1 cs, Obj1 (((w.alloc (.cells XS.toArray 105)).alloc (.cells cs1 109)).alloc (.cells cs 105)) (w.heap.size + 1) cs1 109) := fun cs1 cs => (obj1_new2 w (.cells XS.toArray 105) (cs := cs1) (cs' := cs1) 109 rfl).alloc _
  have BB := Lib.hid (fun T1 cs1 T' cs' => ((((Below.refl w.heap.size w).alloc (Nat.le_refl _) (.cells XS.toArray 105)).alloc (by simp) (.cells cs1 T1)).alloc (by simp; omega) (.cells cs' T')))
  have CC := Lib.hid (fun T1 cs1 T' cs' => ((((Chg.refl (two X x) w).alloc (.cells XS.toArray 105)).alloc (.cells cs1 T1)).alloc (.cells cs' T')))
  have hn0 : ∀ k, w.heap.size ≤ k → ¬ two X x k := fun k hk h => by rcases h with h | h <;> omega
  have HN0 := Lib.hid hn0
  clear hn0
  have D0 : decide (N < (x.b : Int)) = false := by rw [decide_eq_false_iff_not]; omega
  have D1 : decide (N > (x.e : Int)) = false := by rw [decide_eq_false_iff_not]; omega
  have D2 : decide (M < 0) = true := by rw [decide_eq_true_iff]; omega
  go_enter Try.func65, Try.ntmps65
  go_wp2_with (first
    | ((go_at_call 42; (with_reducible refine (HP.out _ (BB.out _ _ _ _)).mono ?_); rintro e w1 ⟨rfl, hP1, hC1⟩); have OH1 := Lib.hid (hC1.obj (O0.out _ _ _ _) (HN0.out _ (Nat.le_refl _))); have OO1 := Lib.hid (hC1.obj (O1.out _ _) (HN0.out _ (by omega))); have OR1 := Lib.hid (hC1.obj (O2.out _ _) (HN0.out _ (by omega))); have C1 := Lib.hid ((CC.out _ _ _ _).trans hC1); have HP1 := Lib.hid hP1; have n1 : w1.cell? ⟨w.heap.size + 1, 1, none⟩ = some (.int .i64 N) := (OO1.out.cell 1).trans rfl; have n2 : w1.cell? ⟨w.heap.size + 1, 2, none⟩ = some (.int .i64 M) := (OO1.out.cell 2).trans rfl; have m1 : w1.cell? ⟨w.heap.size, 1, none⟩ = some (.int .i64 x.b) := (OH1.out.cell 1).trans hx1; have m2 : w1.cell? ⟨w.heap.size, 2, none⟩ = some (.int .i64 x.e) := (OH1.out.cell 2).trans hx2; have m3 : w1.cell? ⟨w.heap.size, 3, none⟩ = some (.int .i64 x.p) := (OH1.out.cell 3).trans hx3; have f1 := OH1.out.frozen 1; have f2 := OH1.out.frozen 2; have f3 := OH1.out.frozen 3; clear hP1 hC1))
  have hi : (Try.prog.info? 105).map (·.size) = some XS.length := by rw [HXL.out]; kernel_rfl
  refine wp_region_noPanic ?_
  refine wp_region_held_drew (S := fun w' => w'.rangeAt w.heap.size 0 XS ∧ w'.there (w.heap.size + 1 + 1) 0 13) (by kernel_rfl) ⟨OH1.out.range0, OR1.out.there 0 13 (by simp)⟩ (fun hHeld => ?_)
  refine wpAnyH_take (i := 0) (v := .pointer (some ⟨X, 0, none⟩)) rfl (by kernel_rfl) (by kernel_rfl) (by kernel_rfl) (fun _ _ _ h => h) (Or.inl ⟨by rfl, fun w _ => by go_simp⟩) hHeld ?_
  simp only [Act.put, List.setIfInBounds_toArray, List.set_cons_zero, List.set_cons_succ, List.getElem_toArray, List.getElem_cons_zero, List.getElem_cons_succ]
  refine wpAnyH_take (i := 1) rfl (by kernel_rfl) (by kernel_rfl) (by kernel_rfl) (fun _ _ _ h => h) (yieldsIf_load_mid (by rfl) 105 _ rfl w.heap.size 0 rfl XS _ (fun _ h => h.1) Try.underlying105 rfl hi) hHeld ?_
  simp only [Act.put, List.setIfInBounds_toArray, List.set_cons_zero, List.set_cons_succ, List.getElem_toArray, List.getElem_cons_zero, List.getElem_cons_succ]
  refine wpAnyH_take (i := 2) (v := .bool false) rfl (by kernel_rfl) (by kernel_rfl) (by kernel_rfl) (fun _ _ _ h => h) (Or.inl ⟨by rfl, fun w _ => by go_simp⟩) hHeld ?_
  simp only [Act.put, List.setIfInBounds_toArray, List.set_cons_zero, List.set_cons_succ, List.getElem_toArray, List.getElem_cons_zero, List.getElem_cons_succ]
  refine wpAnyH_take (i := 3) (v := .bool true) rfl (by kernel_rfl) (by kernel_rfl) (by kernel_rfl) (fun _ _ _ h => h) (Or.inl ⟨by rfl, fun w _ => by go_simp⟩) hHeld ?_
  simp only [Act.put, List.setIfInBounds_toArray, List.set_cons_zero, List.set_cons_succ, List.getElem_toArray, List.getElem_cons_zero, List.getElem_cons_succ]
  refine wpAnyH_take (i := 4) (v := .bool true) rfl (by kernel_rfl) (by kernel_rfl) (by kernel_rfl) (fun _ _ _ h => h) (Or.inl ⟨by rfl, fun w _ => by go_simp⟩) hHeld ?_
  simp only [Act.put, List.setIfInBounds_toArray, List.set_cons_zero, List.set_cons_succ, List.getElem_toArray, List.getElem_cons_zero, List.getElem_cons_succ]
  refine wpAnyH_take (i := 5) (v := .pointer none) rfl (by kernel_rfl) (by kernel_rfl) (by kernel_rfl) (fun _ _ _ h => h) (Or.inl ⟨by rfl, fun w _ => by go_simp⟩) hHeld ?_
  simp only [Act.put, List.setIfInBounds_toArray, List.set_cons_zero, List.set_cons_succ, List.getElem_toArray, List.getElem_cons_zero, List.getElem_cons_succ]
  refine wpAnyH_take (i := 6) (v := .bool true) rfl (by kernel_rfl) (by kernel_rfl) (by kernel_rfl) (fun _ _ _ h => h) (Or.inl ⟨by rfl, fun w _ => by go_simp⟩) hHeld ?_
  simp only [Act.put, List.setIfInBounds_toArray, List.set_cons_zero, List.set_cons_succ, List.getElem_toArray, List.getElem_cons_zero, List.getElem_cons_succ]
  refine wpAnyH_take (i := 7) (v := .bool true) rfl (by kernel_rfl) (by kernel_rfl) (by kernel_rfl) (fun _ _ _ h => h) (Or.inl ⟨by rfl, fun w _ => by go_simp⟩) hHeld ?_
  simp only [Act.put, List.setIfInBounds_toArray, List.set_cons_zero, List.set_cons_succ, List.getElem_toArray, List.getElem_cons_zero, List.getElem_cons_succ]
  refine wpAnyH_take (i := 8) (v := .pointer (some ⟨X, 0, none⟩)) rfl (by kernel_rfl) (by kernel_rfl) (by kernel_rfl) (fun _ _ _ h => h) (Or.inl ⟨by rfl, fun w _ => by go_simp⟩) hHeld ?_
  simp only [Act.put, List.setIfInBounds_toArray, List.set_cons_zero, List.set_cons_succ, List.getElem_toArray, List.getElem_cons_zero, List.getElem_cons_succ]
  refine wpAnyH_ready (rs := [9]) (by kernel_rfl) (by simp) ?_
  refine AllReadyH.cons (o := _) rfl (fun K hK => ?_) AllReadyH.nil
  rw [if_pos (by rfl)]
  refine wp_store_mid 105 _ _ rfl (w.heap.size + 1 + 1) 0 (List.toArray XS) rfl rfl (by have := OR1.out.there 0 13 (by simp); simpa [HXL.out] using this) (by rw [List.size_toArray]; exact hi) (all_oneCell_toArray (List.all_eq_true.1 HXO.out)) ?_
  simp only [Act.put, List.setIfInBounds_toArray, List.set_cons_zero, List.set_cons_succ, List.getElem_toArray, List.getElem_cons_zero, List.getElem_cons_succ]
  have hst : Stored w1.drew (w.heap.size + 1 + 1) 0 XS (w1.drew.setCells (w.heap.size + 1 + 1) 0 XS) := rfl
  have hO3 := hst.full (T := 105) OR1.out.drew HXL.out
  have hOY3 := hst.oth (OH1.out.drew) (by omega)
  have C3 := Lib.hid (hst.chg C1.out.drew (Or.inr (by omega)))
  have HP3 := Lib.hid (Pair.stored (⟨⟨HP1.out.src.obj.drew, HP1.out.src.ok, HP1.out.src.ne⟩, ⟨HP1.out.led.obj.drew, HP1.out.led.ok⟩⟩ : Pair w1.drew _ _ _) hst (by omega) (by omega))
  obtain ⟨w9, hw9⟩ : ∃ w9, w1.drew.setCells (w.heap.size + 1 + 1) 0 XS = w9 := ⟨_, rfl⟩
  rw [hw9] at hO3 hOY3 C3 HP3 ⊢
  clear hst hw9
  refine hK.out _ _ ⟨hOY3.range0, by have := hO3.there 0 13 (by simp [HXL.out]); simpa using this⟩ (fun hHeld2 => ?_)
  refine wpAnyH_take (i := 10) (v := .bool true) rfl (by kernel_rfl) (by kernel_rfl) (by kernel_rfl) (fun _ _ _ h => h) (Or.inl ⟨by rfl, fun w _ => by go_simp⟩) hHeld2 ?_
  simp only [Act.put, List.setIfInBounds_toArray, List.set_cons_zero, List.set_cons_succ, List.getElem_toArray, List.getElem_cons_zero, List.getElem_cons_succ]
  refine wpAnyH_done (by kernel_rfl) ?_ _
  refine NoPanic.normal ?_
  clear hK K
  go_wp2
  refine bodyPost_ret (v := .tuple #[.pointer (some ⟨X, 0, none⟩), .agg XS.toArray, .bool true]) ?_ rfl ⟨rfl, HP3.out, C3.out⟩
  exact results_tct Try.results65 _ _ _ _ _ rfl hO3.range0 Try.underlying105 rfl hi
set_option maxRecDepth 100000 in
set_option maxHeartbeats 4000000 in
theorem one_win_d (X : Nat) (x : Sr) (l : Led) (N M : Int) (w : World) (h : Pair w X x l) (hN : ¬ N < x.b ∧ ¬ (x.e : Int) < N ∧ 0 ≤ M ∧ (x.e : Int) - N < M) :
    Calls Try.prog 65 #[.pointer (some ⟨X, 0, none⟩), .agg (St x l).toArray, .agg #[.int .i64 11, .int .i64 N, .int .i64 M]] w (OneP w X x X x l) := by
  have hX := h.src.lt
  have hL := h.led.lt
  have he1 : (x.e : Int) ≤ 9223372036854775807 := by have := h.src.ok.es; have := h.src.ok.sz; omega
  have HE1 := Lib.hid he1
  have HXL := Lib.hid (St_len x l)
  have HXO := Lib.hid (St_one x l)
  have hx1 : (St x l).toArray[1]? = some (.int .i64 x.b) := rfl
  have hx2 : (St x l).toArray[2]? = some (.int .i64 x.e) := rfl
  have hx3 : (St x l).toArray[3]? = some (.int .i64 x.p) := rfl
  have HP := Lib.hid (fun (w0 : World) (hb : Below w.heap.size w w0) => (window_no X x N M w0 (h.under hb hX hL).src (by unfold Sr.winB; omega)).mono (R' := fun e w' => e = .returned (.tuple #[.pointer none, .bool false]) ∧ Pair w' X x l ∧ Chg (two X x) w0 w') fun e w' hh => by obtain ⟨hh1, rfl⟩ := hh; exact ⟨hh1, h.under hb hX hL, Chg.refl _ _⟩)
  unfold OneP
  obtain ⟨XS, hXS⟩ : ∃ XS, St x l = XS := ⟨_, rfl⟩
  rw [hXS] at HXL HXO hx1 hx2 hx3 ⊢
  clear hXS h
  have O0 := Lib.hid (fun T1 cs1 T' cs' => (((obj1_new w XS.toArray 105).alloc (.cells cs1 T1)).alloc (.cells cs' T')))
  have O2 : Hid (∀ cs1 cs, Obj1 (((w.alloc (.cells XS.toArray 105)).alloc (.cells cs1 109)).alloc (.cells cs 105)) (w.heap.size + 1 + 1) cs 105) := fun cs1 cs => by
    have := (obj1_new2 (w.alloc (.cells XS.toArray 105)) (.cells cs1 109) (cs := cs) (cs' := cs) 105 rfl)
    simpa using this
  have O1 : Hid (∀ cs1 cs, Obj1 (((w.alloc (.cells XS.toArray 105)).alloc (.cells cs1 109)).alloc (.cells cs 105)) (w.heap.size + 1) cs1 109) := fun cs1 cs => (obj1_new2 w (.cells XS.toArray 105) (cs := cs1) (cs' := cs1) 109 rfl).alloc _
  have BB := Lib.hid (fun T1 cs1 T' cs' => ((((Below.refl w.heap.size w).alloc (Nat.le_refl _) (.cells XS.toArray 105)).alloc (by simp) (.cells cs1 T1)).alloc (by simp; omega) (.cells cs' T')))
  have CC := Lib.hid (fun T1 cs1 T' cs' => ((((Chg.refl (two X x) w).alloc (.cells XS.toArray 105)).alloc (.cells cs1 T1)).alloc (.cells cs' T')))
  have hn0 : ∀ k, w.heap.size ≤ k → ¬ two X x k := fun k hk h => by rcases h with h | h <;> omega
  have HN0 := Lib.hid hn0
  clear hn0
  have D0 : decide (N < (x.b : Int)) = false := by rw [decide_eq_false_iff_not]; omega
  have D1 : decide (N > (x.e : Int)) = false := by rw [decide_eq_false_iff_not]; omega
  have D2 : decide (M < 0) = false := by rw [decide_eq_false_iff_not]; omega
  have D3 : decide (M > (x.e : Int) - N) = true := by rw [decide_eq_true_iff]; omega
  go_enter Try.func65, Try.ntmps65
  go_wp2_with (first
    | ((go_at_call 42; (with_reducible refine (HP.out _ (BB.out _ _ _ _)).mono ?_); rintro e w1 ⟨rfl, hP1, hC1⟩); have OH1 := Lib.hid (hC1.obj (O0.out _ _ _ _) (HN0.out _ (Nat.le_refl _))); have OO1 := Lib.hid (hC1.obj (O1.out _ _) (HN0.out _ (by omega))); have OR1 := Lib.hid (hC1.obj (O2.out _ _) (HN0.out _ (by omega))); have C1 := Lib.hid ((CC.out _ _ _ _).trans hC1); have HP1 := Lib.hid hP1; have n1 : w1.cell? ⟨w.heap.size + 1, 1, none⟩ = some (.int .i64 N) := (OO1.out.cell 1).trans rfl; have n2 : w1.cell? ⟨w.heap.size + 1, 2, none⟩ = some (.int .i64 M) := (OO1.out.cell 2).trans rfl; have m1 : w1.cell? ⟨w.heap.size, 1, none⟩ = some (.int .i64 x.b) := (OH1.out.cell 1).trans hx1; have m2 : w1.cell? ⟨w.heap.size, 2, none⟩ = some (.int .i64 x.e) := (OH1.out.cell 2).trans hx2; have m3 : w1.cell? ⟨w.heap.size, 3, none⟩ = some (.int .i64 x.p) := (OH1.out.cell 3).trans hx3; have f1 := OH1.out.frozen 1; have f2 := OH1.out.frozen 2; have f3 := OH1.out.frozen 3; clear hP1 hC1))
  have hi : (Try.prog.info? 105).map (·.size) = some XS.length := by rw [HXL.out]; kernel_rfl
  refine wp_region_noPanic ?_
  refine wp_region_held_drew (S := fun w' => w'.rangeAt w.heap.size 0 XS ∧ w'.there (w.heap.size + 1 + 1) 0 13) (by kernel_rfl) ⟨OH1.out.range0, OR1.out.there 0 13 (by simp)⟩ (fun hHeld => ?_)
  refine wpAnyH_take (i := 0) (v := .pointer (some ⟨X, 0, none⟩)) rfl (by kernel_rfl) (by kernel_rfl) (by kernel_rfl) (fun _ _ _ h => h) (Or.inl ⟨by rfl, fun w _ => by go_simp⟩) hHeld ?_
  simp only [Act.put, List.setIfInBounds_toArray, List.set_cons_zero, List.set_cons_succ, List.getElem_toArray, List.getElem_cons_zero, List.getElem_cons_succ]
  refine wpAnyH_take (i := 1) rfl (by kernel_rfl) (by kernel_rfl) (by kernel_rfl) (fun _ _ _ h => h) (yieldsIf_load_mid (by rfl) 105 _ rfl w.heap.size 0 rfl XS _ (fun _ h => h.1) Try.underlying105 rfl hi) hHeld ?_
  simp only [Act.put, List.setIfInBounds_toArray, List.set_cons_zero, List.set_cons_succ, List.getElem_toArray, List.getElem_cons_zero, List.getElem_cons_succ]
  refine wpAnyH_take (i := 2) (v := .bool false) rfl (by kernel_rfl) (by kernel_rfl) (by kernel_rfl) (fun _ _ _ h => h) (Or.inl ⟨by rfl, fun w _ => by go_simp⟩) hHeld ?_
  simp only [Act.put, List.setIfInBounds_toArray, List.set_cons_zero, List.set_cons_succ, List.getElem_toArray, List.getElem_cons_zero, List.getElem_cons_succ]
  refine wpAnyH_take (i := 3) (v := .bool true) rfl (by kernel_rfl) (by kernel_rfl) (by kernel_rfl) (fun _ _ _ h => h) (Or.inl ⟨by rfl, fun w _ => by go_simp⟩) hHeld ?_
  simp only [Act.put, List.setIfInBounds_toArray, List.set_cons_zero, List.set_cons_succ, List.getElem_toArray, List.getElem_cons_zero, List.getElem_cons_succ]
  refine wpAnyH_take (i := 4) (v := .bool true) rfl (by kernel_rfl) (by kernel_rfl) (by kernel_rfl) (fun _ _ _ h => h) (Or.inl ⟨by rfl, fun w _ => by go_simp⟩) hHeld ?_
  simp only [Act.put, List.setIfInBounds_toArray, List.set_cons_zero, List.set_cons_succ, List.getElem_toArray, List.getElem_cons_zero, List.getElem_cons_succ]
  refine wpAnyH_take (i := 5) (v := .pointer none) rfl (by kernel_rfl) (by kernel_rfl) (by kernel_rfl) (fun _ _ _ h => h) (Or.inl ⟨by rfl, fun w _ => by go_simp⟩) hHeld ?_
  simp only [Act.put, List.setIfInBounds_toArray, List.set_cons_zero, List.set_cons_succ, List.getElem_toArray, List.getElem_cons_zero, List.getElem_cons_succ]
  refine wpAnyH_take (i := 6) (v := .bool true) rfl (by kernel_rfl) (by kernel_rfl) (by kernel_rfl) (fun _ _ _ h => h) (Or.inl ⟨by rfl, fun w _ => by go_simp⟩) hHeld ?_
  simp only [Act.put, List.setIfInBounds_toArray, List.set_cons_zero, List.set_cons_succ, List.getElem_toArray, List.getElem_cons_zero, List.getElem_cons_succ]
  refine wpAnyH_take (i := 7) (v := .bool true) rfl (by kernel_rfl) (by kernel_rfl) (by kernel_rfl) (fun _ _ _ h => h) (Or.inl ⟨by rfl, fun w _ => by go_simp⟩) hHeld ?_
  simp only [Act.put, List.setIfInBounds_toArray, List.set_cons_zero, List.set_cons_succ, List.getElem_toArray, List.getElem_cons_zero, List.getElem_cons_succ]
  refine wpAnyH_take (i := 8) (v := .pointer (some ⟨X, 0, none⟩)) rfl (by kernel_rfl) (by kernel_rfl) (by kernel_rfl) (fun _ _ _ h => h) (Or.inl ⟨by rfl, fun w _ => by go_simp⟩) hHeld ?_
  simp only [Act.put, List.setIfInBounds_toArray, List.set_cons_zero, List.set_cons_succ, List.getElem_toArray, List.getElem_cons_zero, List.getElem_cons_succ]
  refine wpAnyH_ready (rs := [9]) (by kernel_rfl) (by simp) ?_
  refine AllReadyH.cons (o := _) rfl (fun K hK => ?_) AllReadyH.nil
  rw [if_pos (by rfl)]
  refine wp_store_mid 105 _ _ rfl (w.heap.size + 1 + 1) 0 (List.toArray XS) rfl rfl (by have := OR1.out.there 0 13 (by simp); simpa [HXL.out] using this) (by rw [List.size_toArray]; exact hi) (all_oneCell_toArray (List.all_eq_true.1 HXO.out)) ?_
  simp only [Act.put, List.setIfInBounds_toArray, List.set_cons_zero, List.set_cons_succ, List.getElem_toArray, List.getElem_cons_zero, List.getElem_cons_succ]
  have hst : Stored w1.drew (w.heap.size + 1 + 1) 0 XS (w1.drew.setCells (w.heap.size + 1 + 1) 0 XS) := rfl
  have hO3 := hst.full (T := 105) OR1.out.drew HXL.out
  have hOY3 := hst.oth (OH1.out.drew) (by omega)
  have C3 := Lib.hid (hst.chg C1.out.drew (Or.inr (by omega)))
  have HP3 := Lib.hid (Pair.stored (⟨⟨HP1.out.src.obj.drew, HP1.out.src.ok, HP1.out.src.ne⟩, ⟨HP1.out.led.obj.drew, HP1.out.led.ok⟩⟩ : Pair w1.drew _ _ _) hst (by omega) (by omega))
  obtain ⟨w9, hw9⟩ : ∃ w9, w1.drew.setCells (w.heap.size + 1 + 1) 0 XS = w9 := ⟨_, rfl⟩
  rw [hw9] at hO3 hOY3 C3 HP3 ⊢
  clear hst hw9
  refine hK.out _ _ ⟨hOY3.range0, by have := hO3.there 0 13 (by simp [HXL.out]); simpa using this⟩ (fun hHeld2 => ?_)
  refine wpAnyH_take (i := 10) (v := .bool true) rfl (by kernel_rfl) (by kernel_rfl) (by kernel_rfl) (fun _ _ _ h => h) (Or.inl ⟨by rfl, fun w _ => by go_simp⟩) hHeld2 ?_
  simp only [Act.put, List.setIfInBounds_toArray, List.set_cons_zero, List.set_cons_succ, List.getElem_toArray, List.getElem_cons_zero, List.getElem_cons_succ]
  refine wpAnyH_done (by kernel_rfl) ?_ _
  refine NoPanic.normal ?_
  clear hK K
  go_wp2
  refine bodyPost_ret (v := .tuple #[.pointer (some ⟨X, 0, none⟩), .agg XS.toArray, .bool true]) ?_ rfl ⟨rfl, HP3.out, C3.out⟩
  exact results_tct Try.results65 _ _ _ _ _ rfl hO3.range0 Try.underlying105 rfl hi
theorem St_set123 (x : Sr) (l : Led) (a n : Nat) (A B C : Int) (hA : A = a) (hB : B = ((a + n : Nat) : Int)) (hC : C = a) : (((St x l).toArray.setIfInBounds 1 (.int .i64 A)).setIfInBounds 2 (.int .i64 B)).setIfInBounds 3 (.int .i64 C) = (St ⟨x.L, x.s, a, a + n, a⟩ l).toArray := by subst hA hB hC; rfl
set_option maxRecDepth 100000 in
set_option maxHeartbeats 4000000 in
theorem one_win_yes (X : Nat) (x : Sr) (l : Led) (a n : Nat) (w : World) (h : Pair w X x l) (hw : x.winB a n) :
    Calls Try.prog 65 #[.pointer (some ⟨X, 0, none⟩), .agg (St x l).toArray, .agg #[.int .i64 11, .int .i64 a, .int .i64 n]] w fun e w9 => ∃ Y, w.heap.size ≤ Y ∧ OneP w X x Y ⟨x.L, x.s, a, a + n, a⟩ l e w9 := by
  have hX := h.src.lt
  have hL := h.led.lt
  have he1 : (x.e : Int) ≤ 9223372036854775807 := by have := h.src.ok.es; have := h.src.ok.sz; omega
  have HXL := Lib.hid (St_len x l)
  have hx1 : (St x l).toArray[1]? = some (.int .i64 x.b) := rfl
  have hx2 : (St x l).toArray[2]? = some (.int .i64 x.e) := rfl
  have hx3 : (St x l).toArray[3]? = some (.int .i64 x.p) := rfl
  have HP := Lib.hid (fun (w0 : World) (hb : Below w.heap.size w w0) => (window_at X x l a n a n w0 rfl rfl (h.under hb hX hL) hw).mono (R' := fun e w' => ∃ Y, e = .returned (.tuple #[.pointer (some ⟨Y, 0, none⟩), .bool true]) ∧ Pair w' Y ⟨x.L, x.s, a, a + n, a⟩ l ∧ w0.heap.size ≤ Y ∧ Chg (two X x) w0 w') fun e w' hh => by obtain ⟨Y, h1, h2, h3, h4⟩ := hh; exact ⟨Y, h1, h2, h3, h4.mono fun _ _ h => h.elim⟩)
  unfold Sr.winB at hw
  obtain ⟨q1, q2, q3, q4⟩ := hw
  have HSET := Lib.hid (fun A B C hA hB hC => St_set123 x l a n A B C hA hB hC)
  have HYL := Lib.hid (St_len ⟨x.L, x.s, a, a + n, a⟩ l)
  have HYO := Lib.hid (St_one ⟨x.L, x.s, a, a + n, a⟩ l)
  unfold OneP
  obtain ⟨XS, hXS⟩ : ∃ XS, St x l = XS := ⟨_, rfl⟩
  obtain ⟨YS, hYS⟩ : ∃ YS, St ⟨x.L, x.s, a, a + n, a⟩ l = YS := ⟨_, rfl⟩
  rw [hXS] at HXL HSET hx1 hx2 hx3 ⊢
  rw [hYS] at HYL HYO HSET ⊢
  clear hXS hYS h
  have O0 := Lib.hid (fun T1 cs1 T' cs' => (((obj1_new w XS.toArray 105).alloc (.cells cs1 T1)).alloc (.cells cs' T')))
  have O2 : Hid (∀ cs1 cs, Obj1 (((w.alloc (.cells XS.toArray 105)).alloc (.cells cs1 109)).alloc (.cells cs 105)) (w.heap.size + 1 + 1) cs 105) := fun cs1 cs => by
    have := (obj1_new2 (w.alloc (.cells XS.toArray 105)) (.cells cs1 109) (cs := cs) (cs' := cs) 105 rfl)
    simpa using this
  have O1 : Hid (∀ cs1 cs, Obj1 (((w.alloc (.cells XS.toArray 105)).alloc (.cells cs1 109)).alloc (.cells cs 105)) (w.heap.size + 1) cs1 109) := fun cs1 cs => (obj1_new2 w (.cells XS.toArray 105) (cs := cs1) (cs' := cs1) 109 rfl).alloc _
  have BB := Lib.hid (fun T1 cs1 T' cs' => ((((Below.refl w.heap.size w).alloc (Nat.le_refl _) (.cells XS.toArray 105)).alloc (by simp) (.cells cs1 T1)).alloc (by simp; omega) (.cells cs' T')))
  have CC := Lib.hid (fun T1 cs1 T' cs' => ((((Chg.refl (two X x) w).alloc (.cells XS.toArray 105)).alloc (.cells cs1 T1)).alloc (.cells cs' T')))
  have hn0 : ∀ k, w.heap.size ≤ k → ¬ two X x k := fun k hk h => by rcases h with h | h <;> omega
  have HN0 := Lib.hid hn0
  clear hn0
  have D0 : decide ((a : Int) < (x.b : Int)) = false := by rw [decide_eq_false_iff_not]; omega
  have D1 : decide ((a : Int) > (x.e : Int)) = false := by rw [decide_eq_false_iff_not]; omega
  have D2 : decide ((n : Int) < 0) = false := by rw [decide_eq_false_iff_not]; omega
  have D3 : decide ((n : Int) > (x.e : Int) - a) = false := by rw [decide_eq_false_iff_not]; omega
  go_enter Try.func65, Try.ntmps65
  go_wp2_with (first
    | ((go_at_call 42; (with_reducible refine (HP.out _ (BB.out _ _ _ _)).mono ?_); rintro e w1 ⟨Y, rfl, hP1, hY1, hC1⟩); have OH1 := Lib.hid (hC1.obj (O0.out _ _ _ _) (HN0.out _ (Nat.le_refl _))); have OO1 := Lib.hid (hC1.obj (O1.out _ _) (HN0.out _ (by omega))); have OR1 := Lib.hid (hC1.obj (O2.out _ _) (HN0.out _ (by omega))); have C1 := Lib.hid ((CC.out _ _ _ _).trans hC1); have HP1 := Lib.hid hP1; have n1 : w1.cell? ⟨w.heap.size + 1, 1, none⟩ = some (.int .i64 a) := (OO1.out.cell 1).trans rfl; have n2 : w1.cell? ⟨w.heap.size + 1, 2, none⟩ = some (.int .i64 n) := (OO1.out.cell 2).trans rfl; have m1 : w1.cell? ⟨w.heap.size, 1, none⟩ = some (.int .i64 x.b) := (OH1.out.cell 1).trans hx1; have m2 : w1.cell? ⟨w.heap.size, 2, none⟩ = some (.int .i64 x.e) := (OH1.out.cell 2).trans hx2; have m3 : w1.cell? ⟨w.heap.size, 3, none⟩ = some (.int .i64 x.p) := (OH1.out.cell 3).trans hx3; have f1 := OH1.out.frozen 1; have f2 := OH1.out.frozen 2; have f3 := OH1.out.frozen 3; clear hP1 hC1))
  have e1 : IntKind.i64.wrap ((a : Int) + n) = (a : Int) + n := i64_wrap_id _ (by omega) (by omega)
  have hYs : w.heap.size ≤ Y := by simp at hY1; omega
  have hYb : w.heap.size + 1 + 1 < Y := by simp at hY1; omega
  clear D0 D1 D2 D3 q1 q2 q3 q4 he1
  go_region_held3 (fun w' => w'.cell? ⟨w.heap.size + 1, 1, none⟩ = some (.int .i64 a) ∧ w'.cell? ⟨w.heap.size + 1, 2, none⟩ = some (.int .i64 n)) (simp [go_sem, n1, n2]) (fail)
  go_wp2
  have SO := Lib.hid (show Obj1 ((((w1.setCell ⟨w.heap.size, 1, none⟩ (.int .i64 a)).setCell ⟨w.heap.size, 2, none⟩ (.int .i64 ((a : Int) + n))).setCell ⟨w.heap.size, 3, none⟩ (.int .i64 a)).drew) w.heap.size YS.toArray 105 from by rw [← HSET.out a ((a : Int) + n) a rfl (by simp) rfl]; exact (((OH1.out.set 1 _).set 2 _).set 3 _).drew)
  have DO := Lib.hid (show Obj1 ((((w1.setCell ⟨w.heap.size, 1, none⟩ (.int .i64 a)).setCell ⟨w.heap.size, 2, none⟩ (.int .i64 ((a : Int) + n))).setCell ⟨w.heap.size, 3, none⟩ (.int .i64 a)).drew) (w.heap.size + 1 + 1) _ _ from (((OR1.out.set_other _ _ (by simp; omega)).set_other _ _ (by simp; omega)).set_other _ _ (by simp; omega)).drew)
  have CZ := Lib.hid ((((C1.out.set ⟨w.heap.size, 1, none⟩ (.int .i64 a) (Or.inr (Nat.le_refl _))).set ⟨w.heap.size, 2, none⟩ (.int .i64 ((a : Int) + n)) (Or.inr (Nat.le_refl _))).set ⟨w.heap.size, 3, none⟩ (.int .i64 a) (Or.inr (Nat.le_refl _))).drew)
  have HZ0 := (((HP1.out.putb (.int .i64 a) (i := 1) (K := w.heap.size) (by omega) (by simp only; omega)).putb (.int .i64 ((a : Int) + n)) (i := 2) (K := w.heap.size) (by omega) (by simp only; omega)).putb (.int .i64 a) (i := 3) (K := w.heap.size) (by omega) (by simp only; omega))
  have HZ := Lib.hid (⟨⟨HZ0.src.obj.drew, HZ0.src.ok, HZ0.src.ne⟩, ⟨HZ0.led.obj.drew, HZ0.led.ok⟩⟩ : Pair ((((w1.setCell ⟨w.heap.size, 1, none⟩ (.int .i64 a)).setCell ⟨w.heap.size, 2, none⟩ (.int .i64 ((a : Int) + n))).setCell ⟨w.heap.size, 3, none⟩ (.int .i64 a)).drew) Y _ _)
  clear HZ0
  obtain ⟨w2, hw2⟩ : ∃ w2, ((((w1.setCell ⟨w.heap.size, 1, none⟩ (.int .i64 a)).setCell ⟨w.heap.size, 2, none⟩ (.int .i64 ((a : Int) + n))).setCell ⟨w.heap.size, 3, none⟩ (.int .i64 a)).drew) = w2 := ⟨_, rfl⟩
  rw [hw2] at SO DO CZ HZ ⊢
  clear hw2
  have hi : (Try.prog.info? 105).map (·.size) = some YS.length := by rw [HYL.out]; kernel_rfl
  refine wp_region_noPanic ?_
  refine wp_region_held_drew (S := fun w' => w'.rangeAt w.heap.size 0 YS ∧ w'.there (w.heap.size + 1 + 1) 0 13) (by kernel_rfl) ⟨SO.out.range0, DO.out.there 0 13 (by simp)⟩ (fun hHeld => ?_)
  refine wpAnyH_take (i := 0) (v := .pointer (some ⟨Y, 0, none⟩)) rfl (by kernel_rfl) (by kernel_rfl) (by kernel_rfl) (fun _ _ _ h => h) (Or.inl ⟨by rfl, fun w _ => by go_simp⟩) hHeld ?_
  simp only [Act.put, List.setIfInBounds_toArray, List.set_cons_zero, List.set_cons_succ, List.getElem_toArray, List.getElem_cons_zero, List.getElem_cons_succ]
  refine wpAnyH_take (i := 1) rfl (by kernel_rfl) (by kernel_rfl) (by kernel_rfl) (fun _ _ _ h => h) (yieldsIf_load_mid (by rfl) 105 _ rfl w.heap.size 0 rfl YS _ (fun _ h => h.1) Try.underlying105 rfl hi) hHeld ?_
  simp only [Act.put, List.setIfInBounds_toArray, List.set_cons_zero, List.set_cons_succ, List.getElem_toArray, List.getElem_cons_zero, List.getElem_cons_succ]
  refine wpAnyH_take (i := 2) (v := .pointer (some ⟨Y, 0, none⟩)) rfl (by kernel_rfl) (by kernel_rfl) (by kernel_rfl) (fun _ _ _ h => h) (Or.inl ⟨by rfl, fun w _ => by go_simp⟩) hHeld ?_
  simp only [Act.put, List.setIfInBounds_toArray, List.set_cons_zero, List.set_cons_succ, List.getElem_toArray, List.getElem_cons_zero, List.getElem_cons_succ]
  refine wpAnyH_ready (rs := [3]) (by kernel_rfl) (by simp) ?_
  refine AllReadyH.cons (o := _) rfl (fun K hK => ?_) AllReadyH.nil
  rw [if_pos (by rfl)]
  refine wp_store_mid 105 _ _ rfl (w.heap.size + 1 + 1) 0 (List.toArray YS) rfl rfl (by have := DO.out.there 0 13 (by simp); simpa [HYL.out] using this) (by rw [List.size_toArray]; exact hi) (all_oneCell_toArray (List.all_eq_true.1 HYO.out)) ?_
  simp only [Act.put, List.setIfInBounds_toArray, List.set_cons_zero, List.set_cons_succ, List.getElem_toArray, List.getElem_cons_zero, List.getElem_cons_succ]
  have hst : Stored w2.drew (w.heap.size + 1 + 1) 0 YS (w2.drew.setCells (w.heap.size + 1 + 1) 0 YS) := rfl
  have hO3 := hst.full (T := 105) DO.out.drew HYL.out
  have hOY3 := hst.oth (SO.out.drew) (by omega)
  have C3 := Lib.hid (hst.chg CZ.out.drew (Or.inr (by omega)))
  have HP3 := Lib.hid (Pair.stored (⟨⟨HZ.out.src.obj.drew, HZ.out.src.ok, HZ.out.src.ne⟩, ⟨HZ.out.led.obj.drew, HZ.out.led.ok⟩⟩ : Pair w2.drew _ _ _) hst (by omega) (by simp only; omega))
  obtain ⟨w9, hw9⟩ : ∃ w9, w2.drew.setCells (w.heap.size + 1 + 1) 0 YS = w9 := ⟨_, rfl⟩
  rw [hw9] at hO3 hOY3 C3 HP3 ⊢
  clear hst hw9
  refine hK.out _ _ ⟨hOY3.range0, by have := hO3.there 0 13 (by simp [HYL.out]); simpa using this⟩ (fun hHeld2 => ?_)
  refine wpAnyH_take (i := 4) (v := .bool true) rfl (by kernel_rfl) (by kernel_rfl) (by kernel_rfl) (fun _ _ _ h => h) (Or.inl ⟨by rfl, fun w _ => by go_simp⟩) hHeld2 ?_
  simp only [Act.put, List.setIfInBounds_toArray, List.set_cons_zero, List.set_cons_succ, List.getElem_toArray, List.getElem_cons_zero, List.getElem_cons_succ]
  refine wpAnyH_done (by kernel_rfl) ?_ _
  refine NoPanic.normal ?_
  clear hK K
  go_wp2
  refine bodyPost_ret (v := .tuple #[.pointer (some ⟨Y, 0, none⟩), .agg YS.toArray, .bool true]) ?_ rfl ⟨Y, hYs, rfl, HP3.out, C3.out⟩
  exact results_tct Try.results65 _ _ _ _ _ rfl hO3.range0 Try.underlying105 rfl hi
end Go.Proofs.Ytobpocdpnkicnaa

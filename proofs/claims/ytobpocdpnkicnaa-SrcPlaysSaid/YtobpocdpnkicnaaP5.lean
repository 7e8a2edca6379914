/- The law SrcPlays: one call, walked: any other number, which does nothing (printed by gen_one.py). -/
import Derived.Test.YtobpocdpnkicnaaP4
namespace Go.Proofs.Ytobpocdpnkicnaa
open Go.RowKit
set_option linter.unusedVariables false
set_option linter.unusedSimpArgs false

set_option maxRecDepth 100000 in
set_option maxHeartbeats 4000000 in
theorem one_low (X : Nat) (x : Sr) (l : Led) (k N M : Int) (w : World) (h : Pair w X x l) (hk : k < 1) :
    Calls Try.prog 65 #[.pointer (some ⟨X, 0, none⟩), .agg (St x l).toArray, .agg #[.int .i64 k, .int .i64 N, .int .i64 M]] w (OneP w X x X x l) := by
  have hX := h.src.lt
  have hL := h.led.lt
  have HXL := Lib.hid (St_len x l)
  have HXO := Lib.hid (St_one x l)
  unfold OneP
  obtain ⟨XS, hXS⟩ : ∃ XS, St x l = XS := ⟨_, rfl⟩
  rw [hXS] at HXL HXO ⊢
  have O0 := Lib.hid (fun T1 cs1 T' cs' => (((obj1_new w XS.toArray 105).alloc (.cells cs1 T1)).alloc (.cells cs' T')))
  have O2 : Hid (∀ cs1 cs, Obj1 (((w.alloc (.cells XS.toArray 105)).alloc (.cells cs1 109)).alloc (.cells cs 105)) (w.heap.size + 1 + 1) cs 105) := fun cs1 cs => by
    have := (obj1_new2 (w.alloc (.cells XS.toArray 105)) (.cells cs1 109) (cs := cs) (cs' := cs) 105 rfl)
    simpa using this
  have O1 : Hid (∀ cs1 cs, Obj1 (((w.alloc (.cells XS.toArray 105)).alloc (.cells cs1 109)).alloc (.cells cs 105)) (w.heap.size + 1) cs1 109) := fun cs1 cs => (obj1_new2 w (.cells XS.toArray 105) (cs := cs1) (cs' := cs1) 109 rfl).alloc _
  have BB := Lib.hid (fun T1 cs1 T' cs' => ((((Below.refl w.heap.size w).alloc (Nat.le_refl _) (.cells XS.toArray 105)).alloc (by simp) (.cells cs1 T1)).alloc (by simp; omega) (.cells cs' T')))
  have CC := Lib.hid (fun T1 cs1 T' cs' => ((((Chg.refl (two X x) w).alloc (.cells XS.toArray 105)).alloc (.cells cs1 T1)).alloc (.cells cs' T')))
  have hn0 : ∀ k, w.heap.size ≤ k → ¬ two X x k := fun k hk h => by rcases h with h | h <;> omega
  have HN0 := Lib.hid hn0
  clear hn0
  have HP0 := Lib.hid (fun (w0 : World) (hb : Below w.heap.size w w0) => h.under hb hX hL)
  clear hXS h
  have G1 : decide (k ≥ 1) = false := by rw [decide_eq_false_iff_not]; omega
  have T7 : (k == 7) = false := by rw [beq_eq_false_iff_ne]; omega
  have T8 : (k == 8) = false := by rw [beq_eq_false_iff_ne]; omega
  have T9 : (k == 9) = false := by rw [beq_eq_false_iff_ne]; omega
  have T10 : (k == 10) = false := by rw [beq_eq_false_iff_ne]; omega
  have T11 : (k == 11) = false := by rw [beq_eq_false_iff_ne]; omega
  go_enter Try.func65, Try.ntmps65
  go_wp2
  have DO := Lib.hid (O2.out #[.int .i64 k, .int .i64 N, .int .i64 M] #[.string ⟨#[]⟩, .int .i64 0, .int .i64 0, .int .i64 0, .int .i64 0, .int .i64 0, .int .i64 0, .int .i64 0, .int .i64 0, .int .i64 0, .int .i64 0, .int .i64 0, .int .i64 0])
  have SO := Lib.hid (O0.out 109 #[.int .i64 k, .int .i64 N, .int .i64 M] 105 #[.string ⟨#[]⟩, .int .i64 0, .int .i64 0, .int .i64 0, .int .i64 0, .int .i64 0, .int .i64 0, .int .i64 0, .int .i64 0, .int .i64 0, .int .i64 0, .int .i64 0, .int .i64 0])
  have C2 := Lib.hid (CC.out 109 #[.int .i64 k, .int .i64 N, .int .i64 M] 105 #[.string ⟨#[]⟩, .int .i64 0, .int .i64 0, .int .i64 0, .int .i64 0, .int .i64 0, .int .i64 0, .int .i64 0, .int .i64 0, .int .i64 0, .int .i64 0, .int .i64 0, .int .i64 0])
  have HP2 := Lib.hid (HP0.out _ (BB.out 109 #[.int .i64 k, .int .i64 N, .int .i64 M] 105 #[.string ⟨#[]⟩, .int .i64 0, .int .i64 0, .int .i64 0, .int .i64 0, .int .i64 0, .int .i64 0, .int .i64 0, .int .i64 0, .int .i64 0, .int .i64 0, .int .i64 0, .int .i64 0]))
  obtain ⟨w2, hw2⟩ : ∃ w2, ((w.alloc (.cells XS.toArray 105)).alloc (.cells #[.int .i64 k, .int .i64 N, .int .i64 M] 109)).alloc (.cells #[.string ⟨#[]⟩, .int .i64 0, .int .i64 0, .int .i64 0, .int .i64 0, .int .i64 0, .int .i64 0, .int .i64 0, .int .i64 0, .int .i64 0, .int .i64 0, .int .i64 0, .int .i64 0] 105) = w2 := ⟨_, rfl⟩
  rw [hw2] at DO SO C2 HP2 ⊢
  clear hw2
  have hi : (Try.prog.info? 105).map (·.size) = some XS.length := by rw [HXL.out]; kernel_rfl
  refine wp_region_noPanic ?_
  refine wp_region_held_drew (S := fun w' => w'.rangeAt w.heap.size 0 XS ∧ w'.there (w.heap.size + 1 + 1) 0 13) (by kernel_rfl) ⟨SO.out.range0, DO.out.there 0 13 (by simp)⟩ (fun hHeld => ?_)
  refine wpAnyH_take (i := 0) (v := .pointer (some ⟨X, 0, none⟩)) rfl (by kernel_rfl) (by kernel_rfl) (by kernel_rfl) (fun _ _ _ h => h) (Or.inl ⟨by rfl, fun w _ => by go_simp⟩) hHeld ?_
  simp only [Act.put, List.setIfInBounds_toArray, List.set_cons_zero, List.set_cons_succ, List.getElem_toArray, List.getElem_cons_zero, List.getElem_cons_succ]
  refine wpAnyH_take (i := 1) rfl (by kernel_rfl) (by kernel_rfl) (by kernel_rfl) (fun _ _ _ h => h) (yieldsIf_load_mid (by rfl) 105 _ rfl w.heap.size 0 rfl XS _ (fun _ h => h.1) Try.underlying105 rfl hi) hHeld ?_
  simp only [Act.put, List.setIfInBounds_toArray, List.set_cons_zero, List.set_cons_succ, List.getElem_toArray, List.getElem_cons_zero, List.getElem_cons_succ]
  refine wpAnyH_take (i := 2) (v := .pointer (some ⟨X, 0, none⟩)) rfl (by kernel_rfl) (by kernel_rfl) (by kernel_rfl) (fun _ _ _ h => h) (Or.inl ⟨by rfl, fun w _ => by go_simp⟩) hHeld ?_
  simp only [Act.put, List.setIfInBounds_toArray, List.set_cons_zero, List.set_cons_succ, List.getElem_toArray, List.getElem_cons_zero, List.getElem_cons_succ]
  refine wpAnyH_ready (rs := [3]) (by kernel_rfl) (by simp) ?_
  refine AllReadyH.cons (o := _) rfl (fun K hK => ?_) AllReadyH.nil
  rw [if_pos (by rfl)]
  refine wp_store_mid 105 _ _ rfl (w.heap.size + 1 + 1) 0 (List.toArray XS) rfl rfl (by have := DO.out.there 0 13 (by simp); simpa [HXL.out] using this) (by rw [List.size_toArray]; exact hi) (all_oneCell_toArray (List.all_eq_true.1 HXO.out)) ?_
  simp only [Act.put, List.setIfInBounds_toArray, List.set_cons_zero, List.set_cons_succ, List.getElem_toArray, List.getElem_cons_zero, List.getElem_cons_succ]
  have hst : Stored w2.drew (w.heap.size + 1 + 1) 0 XS (w2.drew.setCells (w.heap.size + 1 + 1) 0 XS) := rfl
  have hO3 := hst.full (T := 105) DO.out.drew HXL.out
  have hOY3 := hst.oth (SO.out.drew) (by omega)
  have C3 := Lib.hid (hst.chg C2.out.drew (Or.inr (by omega)))
  have HP3 := Lib.hid (Pair.stored (⟨⟨HP2.out.src.obj.drew, HP2.out.src.ok, HP2.out.src.ne⟩, ⟨HP2.out.led.obj.drew, HP2.out.led.ok⟩⟩ : Pair w2.drew _ _ _) hst (by omega) (by omega))
  obtain ⟨w9, hw9⟩ : ∃ w9, w2.drew.setCells (w.heap.size + 1 + 1) 0 XS = w9 := ⟨_, rfl⟩
  rw [hw9] at hO3 hOY3 C3 HP3 ⊢
  clear hst hw9
  refine hK.out _ _ ⟨hOY3.range0, by have := hO3.there 0 13 (by simp [HXL.out]); simpa using this⟩ (fun hHeld2 => ?_)
  refine wpAnyH_take (i := 4) (v := .bool true) rfl (by kernel_rfl) (by kernel_rfl) (by kernel_rfl) (fun _ _ _ h => h) (Or.inl ⟨by rfl, fun w _ => by go_simp⟩) hHeld2 ?_
  simp only [Act.put, List.setIfInBounds_toArray, List.set_cons_zero, List.set_cons_succ, List.getElem_toArray, List.getElem_cons_zero, List.getElem_cons_succ]
  refine wpAnyH_done (by kernel_rfl) ?_ _
  refine NoPanic.normal ?_
  clear hK K
  go_wp2
  refine bodyPost_ret (v := .tuple #[.pointer (some ⟨X, 0, none⟩), .agg XS.toArray, .bool true]) ?_ rfl ⟨rfl, HP3.out, C3.out⟩
  exact results_tct Try.results65 _ _ _ _ _ rfl hO3.range0 Try.underlying105 rfl hi
set_option maxRecDepth 100000 in
set_option maxHeartbeats 4000000 in
theorem one_high (X : Nat) (x : Sr) (l : Led) (k N M : Int) (w : World) (h : Pair w X x l) (hk : 11 < k) :
    Calls Try.prog 65 #[.pointer (some ⟨X, 0, none⟩), .agg (St x l).toArray, .agg #[.int .i64 k, .int .i64 N, .int .i64 M]] w (OneP w X x X x l) := by
  have hX := h.src.lt
  have hL := h.led.lt
  have HXL := Lib.hid (St_len x l)
  have HXO := Lib.hid (St_one x l)
  unfold OneP
  obtain ⟨XS, hXS⟩ : ∃ XS, St x l = XS := ⟨_, rfl⟩
  rw [hXS] at HXL HXO ⊢
  have O0 := Lib.hid (fun T1 cs1 T' cs' => (((obj1_new w XS.toArray 105).alloc (.cells cs1 T1)).alloc (.cells cs' T')))
  have O2 : Hid (∀ cs1 cs, Obj1 (((w.alloc (.cells XS.toArray 105)).alloc (.cells cs1 109)).alloc (.cells cs 105)) (w.heap.size + 1 + 1) cs 105) := fun cs1 cs => by
    have := (obj1_new2 (w.alloc (.cells XS.toArray 105)) (.cells cs1 109) (cs := cs) (cs' := cs) 105 rfl)
    simpa using this
  have O1 : Hid (∀ cs1 cs, Obj1 (((w.alloc (.cells XS.toArray 105)).alloc (.cells cs1 109)).alloc (.cells cs 105)) (w.heap.size + 1) cs1 109) := fun cs1 cs => (obj1_new2 w (.cells XS.toArray 105) (cs := cs1) (cs' := cs1) 109 rfl).alloc _
  have BB := Lib.hid (fun T1 cs1 T' cs' => ((((Below.refl w.heap.size w).alloc (Nat.le_refl _) (.cells XS.toArray 105)).alloc (by simp) (.cells cs1 T1)).alloc (by simp; omega) (.cells cs' T')))
  have CC := Lib.hid (fun T1 cs1 T' cs' => ((((Chg.refl (two X x) w).alloc (.cells XS.toArray 105)).alloc (.cells cs1 T1)).alloc (.cells cs' T')))
  have hn0 : ∀ k, w.heap.size ≤ k → ¬ two X x k := fun k hk h => by rcases h with h | h <;> omega
  have HN0 := Lib.hid hn0
  clear hn0
  have HP0 := Lib.hid (fun (w0 : World) (hb : Below w.heap.size w w0) => h.under hb hX hL)
  clear hXS h
  have G1 : decide (k ≥ 1) = true := by rw [decide_eq_true_iff]; omega
  have G2 : decide (k ≤ 6) = false := by rw [decide_eq_false_iff_not]; omega
  have T7 : (k == 7) = false := by rw [beq_eq_false_iff_ne]; omega
  have T8 : (k == 8) = false := by rw [beq_eq_false_iff_ne]; omega
  have T9 : (k == 9) = false := by rw [beq_eq_false_iff_ne]; omega
  have T10 : (k == 10) = false := by rw [beq_eq_false_iff_ne]; omega
  have T11 : (k == 11) = false := by rw [beq_eq_false_iff_ne]; omega
  go_enter Try.func65, Try.ntmps65
  go_wp2
  have DO := Lib.hid (O2.out #[.int .i64 k, .int .i64 N, .int .i64 M] #[.string ⟨#[]⟩, .int .i64 0, .int .i64 0, .int .i64 0, .int .i64 0, .int .i64 0, .int .i64 0, .int .i64 0, .int .i64 0, .int .i64 0, .int .i64 0, .int .i64 0, .int .i64 0])
  have SO := Lib.hid (O0.out 109 #[.int .i64 k, .int .i64 N, .int .i64 M] 105 #[.string ⟨#[]⟩, .int .i64 0, .int .i64 0, .int .i64 0, .int .i64 0, .int .i64 0, .int .i64 0, .int .i64 0, .int .i64 0, .int .i64 0, .int .i64 0, .int .i64 0, .int .i64 0])
  have C2 := Lib.hid (CC.out 109 #[.int .i64 k, .int .i64 N, .int .i64 M] 105 #[.string ⟨#[]⟩, .int .i64 0, .int .i64 0, .int .i64 0, .int .i64 0, .int .i64 0, .int .i64 0, .int .i64 0, .int .i64 0, .int .i64 0, .int .i64 0, .int .i64 0, .int .i64 0])
  have HP2 := Lib.hid (HP0.out _ (BB.out 109 #[.int .i64 k, .int .i64 N, .int .i64 M] 105 #[.string ⟨#[]⟩, .int .i64 0, .int .i64 0, .int .i64 0, .int .i64 0, .int .i64 0, .int .i64 0, .int .i64 0, .int .i64 0, .int .i64 0, .int .i64 0, .int .i64 0, .int .i64 0]))
  obtain ⟨w2, hw2⟩ : ∃ w2, ((w.alloc (.cells XS.toArray 105)).alloc (.cells #[.int .i64 k, .int .i64 N, .int .i64 M] 109)).alloc (.cells #[.string ⟨#[]⟩, .int .i64 0, .int .i64 0, .int .i64 0, .int .i64 0, .int .i64 0, .int .i64 0, .int .i64 0, .int .i64 0, .int .i64 0, .int .i64 0, .int .i64 0, .int .i64 0] 105) = w2 := ⟨_, rfl⟩
  rw [hw2] at DO SO C2 HP2 ⊢
  clear hw2
  have hi : (Try.prog.info? 105).map (·.size) = some XS.length := by rw [HXL.out]; kernel_rfl
  refine wp_region_noPanic ?_
  refine wp_region_held_drew (S := fun w' => w'.rangeAt w.heap.size 0 XS ∧ w'.there (w.heap.size + 1 + 1) 0 13) (by kernel_rfl) ⟨SO.out.range0, DO.out.there 0 13 (by simp)⟩ (fun hHeld => ?_)
  refine wpAnyH_take (i := 0) (v := .pointer (some ⟨X, 0, none⟩)) rfl (by kernel_rfl) (by kernel_rfl) (by kernel_rfl) (fun _ _ _ h => h) (Or.inl ⟨by rfl, fun w _ => by go_simp⟩) hHeld ?_
  simp only [Act.put, List.setIfInBounds_toArray, List.set_cons_zero, List.set_cons_succ, List.getElem_toArray, List.getElem_cons_zero, List.getElem_cons_succ]
  refine wpAnyH_take (i := 1) rfl (by kernel_rfl) (by kernel_rfl) (by kernel_rfl) (fun _ _ _ h => h) (yieldsIf_load_mid (by rfl) 105 _ rfl w.heap.size 0 rfl XS _ (fun _ h => h.1) Try.underlying105 rfl hi) hHeld ?_
  simp only [Act.put, List.setIfInBounds_toArray, List.set_cons_zero, List.set_cons_succ, List.getElem_toArray, List.getElem_cons_zero, List.getElem_cons_succ]
  refine wpAnyH_take (i := 2) (v := .pointer (some ⟨X, 0, none⟩)) rfl (by kernel_rfl) (by kernel_rfl) (by kernel_rfl) (fun _ _ _ h => h) (Or.inl ⟨by rfl, fun w _ => by go_simp⟩) hHeld ?_
  simp only [Act.put, List.setIfInBounds_toArray, List.set_cons_zero, List.set_cons_succ, List.getElem_toArray, List.getElem_cons_zero, List.getElem_cons_succ]
  refine wpAnyH_ready (rs := [3]) (by kernel_rfl) (by simp) ?_
  refine AllReadyH.cons (o := _) rfl (fun K hK => ?_) AllReadyH.nil
  rw [if_pos (by rfl)]
  refine wp_store_mid 105 _ _ rfl (w.heap.size + 1 + 1) 0 (List.toArray XS) rfl rfl (by have := DO.out.there 0 13 (by simp); simpa [HXL.out] using this) (by rw [List.size_toArray]; exact hi) (all_oneCell_toArray (List.all_eq_true.1 HXO.out)) ?_
  simp only [Act.put, List.setIfInBounds_toArray, List.set_cons_zero, List.set_cons_succ, List.getElem_toArray, List.getElem_cons_zero, List.getElem_cons_succ]
  have hst : Stored w2.drew (w.heap.size + 1 + 1) 0 XS (w2.drew.setCells (w.heap.size + 1 + 1) 0 XS) := rfl
  have hO3 := hst.full (T := 105) DO.out.drew HXL.out
  have hOY3 := hst.oth (SO.out.drew) (by omega)
  have C3 := Lib.hid (hst.chg C2.out.drew (Or.inr (by omega)))
  have HP3 := Lib.hid (Pair.stored (⟨⟨HP2.out.src.obj.drew, HP2.out.src.ok, HP2.out.src.ne⟩, ⟨HP2.out.led.obj.drew, HP2.out.led.ok⟩⟩ : Pair w2.drew _ _ _) hst (by omega) (by omega))
  obtain ⟨w9, hw9⟩ : ∃ w9, w2.drew.setCells (w.heap.size + 1 + 1) 0 XS = w9 := ⟨_, rfl⟩
  rw [hw9] at hO3 hOY3 C3 HP3 ⊢
  clear hst hw9
  refine hK.out _ _ ⟨hOY3.range0, by have := hO3.there 0 13 (by simp [HXL.out]); simpa using this⟩ (fun hHeld2 => ?_)
  refine wpAnyH_take (i := 4) (v := .bool true) rfl (by kernel_rfl) (by kernel_rfl) (by kernel_rfl) (fun _ _ _ h => h) (Or.inl ⟨by rfl, fun w _ => by go_simp⟩) hHeld2 ?_
  simp only [Act.put, List.setIfInBounds_toArray, List.set_cons_zero, List.set_cons_succ, List.getElem_toArray, List.getElem_cons_zero, List.getElem_cons_succ]
  refine wpAnyH_done (by kernel_rfl) ?_ _
  refine NoPanic.normal ?_
  clear hK K
  go_wp2
  refine bodyPost_ret (v := .tuple #[.pointer (some ⟨X, 0, none⟩), .agg XS.toArray, .bool true]) ?_ rfl ⟨rfl, HP3.out, C3.out⟩
  exact results_tct Try.results65 _ _ _ _ _ rfl hO3.range0 Try.underlying105 rfl hi
end Go.Proofs.Ytobpocdpnkicnaa

/- The law SrcPlays: one call, walked: Skip and Take (printed by gen_one.py). -/
import Derived.Test.YtobpocdpnkicnaaP4
namespace Go.Proofs.Ytobpocdpnkicnaa
open Go.RowKit
set_option linter.unusedVariables false
set_option linter.unusedSimpArgs false

set_option maxRecDepth 100000 in
set_option maxHeartbeats 4000000 in
theorem one_skip (X : Nat) (x : Sr) (l : Led) (N M : Int) (w : World) (h : Pair w X x l) (hi : l.inv) :
    Calls Try.prog 65 #[.pointer (some ⟨X, 0, none⟩), .agg (St x l).toArray, .agg #[.int .i64 9, .int .i64 N, .int .i64 M]] w (OneP w X x X (x.next l N).1.1 (x.next l N).1.2) := by
  have hX := h.src.lt
  have hL := h.led.lt
  have HXL := Lib.hid (St_len x l)
  have HP := Lib.hid (fun (w0 : World) (hb : Below w.heap.size w w0) => skip_any X x l N w0 (h.under hb hX hL))
  have HR := Lib.hid (fun w0 => rread_any x l N w0 hi h.src.ok)
  have HLL := next_L x l N
  unfold rRead at HR
  unfold BoolPost at HP
  unfold OneP
  obtain ⟨s, hs⟩ : ∃ s, (x.next l N).2.1 = s := ⟨_, rfl⟩
  obtain ⟨ok, hok⟩ : ∃ ok, (x.next l N).2.2 = ok := ⟨_, rfl⟩
  obtain ⟨y, hy⟩ : ∃ y, (x.next l N).1.1 = y := ⟨_, rfl⟩
  obtain ⟨m, hm⟩ : ∃ m, (x.next l N).1.2 = m := ⟨_, rfl⟩
  rw [hs, hok, hy, hm] at HR
  rw [hok, hy, hm] at HP
  rw [hy] at HLL
  rw [hy, hm]
  have HYL := Lib.hid (St_len y m)
  have HYO := Lib.hid (St_one y m)
  obtain ⟨XS, hXS⟩ : ∃ XS, St x l = XS := ⟨_, rfl⟩
  obtain ⟨YS, hYS⟩ : ∃ YS, St y m = YS := ⟨_, rfl⟩
  rw [hXS] at HXL HR ⊢
  rw [hYS] at HYL HYO HR ⊢
  clear hXS hYS hs hok hy hm h hi
  have O0 := Lib.hid (fun T1 cs1 T' cs' => (((obj1_new w XS.toArray 105).alloc (.cells cs1 T1)).alloc (.cells cs' T')))
  have O2 : Hid (∀ cs1 cs, Obj1 (((w.alloc (.cells XS.toArray 105)).alloc (.cells cs1 109)).alloc (.cells cs 105)) (w.heap.size + 1 + 1) cs 105) := fun cs1 cs => by
    have := (obj1_new2 (w.alloc (.cells XS.toArray 105)) (.cells cs1 109) (cs := cs) (cs' := cs) 105 rfl)
    simpa using this
  have O1 : Hid (∀ cs1 cs, Obj1 (((w.alloc (.cells XS.toArray 105)).alloc (.cells cs1 109)).alloc (.cells cs 105)) (w.heap.size + 1) cs1 109) := fun cs1 cs => (obj1_new2 w (.cells XS.toArray 105) (cs := cs1) (cs' := cs1) 109 rfl).alloc _
  have BB := Lib.hid (fun T1 cs1 T' cs' => ((((Below.refl w.heap.size w).alloc (Nat.le_refl _) (.cells XS.toArray 105)).alloc (by simp) (.cells cs1 T1)).alloc (by simp; omega) (.cells cs' T')))
  have CC := Lib.hid (fun T1 cs1 T' cs' => ((((Chg.refl (two X x) w).alloc (.cells XS.toArray 105)).alloc (.cells cs1 T1)).alloc (.cells cs' T')))
  have hn0 : ∀ k, w.heap.size ≤ k → ¬ two X x k := fun k hk h => by rcases h with h | h <;> omega
  have HN0 := Lib.hid hn0
  clear hn0
  go_enter Try.func65, Try.ntmps65
  go_wp2_with (first
    | ((go_at_call 96; (with_reducible refine (HP.out _ (BB.out _ _ _ _)).mono ?_); rintro e w1 ⟨rfl, hP1, hC1⟩); have OH1 := Lib.hid (hC1.obj (O0.out _ _ _ _) (HN0.out _ (Nat.le_refl _))); have OO1 := Lib.hid (hC1.obj (O1.out _ _) (HN0.out _ (by omega))); have OR1 := Lib.hid (hC1.obj (O2.out _ _) (HN0.out _ (by omega))); have C1 := Lib.hid ((CC.out _ _ _ _).trans hC1); have HP1 := Lib.hid hP1; have n1 : w1.cell? ⟨w.heap.size + 1, 1, none⟩ = some (.int .i64 N) := (OO1.out.cell 1).trans rfl; have n2 : w1.cell? ⟨w.heap.size + 1, 2, none⟩ = some (.int .i64 M) := (OO1.out.cell 2).trans rfl; clear hP1 hC1)
    | (refine load_st rfl (.tmp 4) rfl w.heap.size XS HXL.out rfl OH1.out ?_)
    | ((go_at_call 94; (with_reducible refine (HR.out _).mono ?_); rintro e w2 ⟨rfl, hb2⟩); have OR2 := Lib.hid (OR1.out.below hb2 OR1.out.lt); have C2 := Lib.hid (C1.out.trans (chg_of_below hb2 _)); have HP2 := Lib.hid (HP1.out.under hb2 HP1.out.src.lt HP1.out.led.lt); clear hb2)
    | (refine store_st rfl (.tmp 22) (.tmp 130) rfl w2.heap.size YS HYL.out HYO.out rfl rfl (obj1_new w2 _ _) rfl ?_; intro w3 hst hO2; have OY := Lib.hid hO2; have OR3 := Lib.hid (hst.oth (OR2.out.alloc _) (Nat.ne_of_lt OR2.out.lt)); have CZ := Lib.hid (hst.chg (C2.out.alloc _) (Or.inr C2.out.size)); have HZ := Lib.hid (Pair.stored (HP2.out.under ((Below.refl _ _).alloc (Nat.le_refl _) _) HP2.out.src.lt HP2.out.led.lt) hst (Nat.ne_of_lt HP2.out.src.lt) (Nat.ne_of_lt HP2.out.led.lt)); have l2 := Lib.hid OR2.out.lt; clear hst hO2))
  have hi : (Try.prog.info? 105).map (·.size) = some YS.length := by rw [HYL.out]; kernel_rfl
  refine wp_region_noPanic ?_
  refine wp_region_held_drew (S := fun w' => w'.rangeAt w2.heap.size 0 YS ∧ w'.there (w.heap.size + 1 + 1) 0 13) (by kernel_rfl) ⟨OY.out.range0, OR3.out.there 0 13 (by simp)⟩ (fun hHeld => ?_)
  refine wpAnyH_take (i := 0) (v := .pointer (some ⟨X, 0, none⟩)) rfl (by kernel_rfl) (by kernel_rfl) (by kernel_rfl) (fun _ _ _ h => h) (Or.inl ⟨by rfl, fun w _ => by go_simp⟩) hHeld ?_
  simp only [Act.put, List.setIfInBounds_toArray, List.set_cons_zero, List.set_cons_succ, List.getElem_toArray, List.getElem_cons_zero, List.getElem_cons_succ]
  refine wpAnyH_take (i := 1) rfl (by kernel_rfl) (by kernel_rfl) (by kernel_rfl) (fun _ _ _ h => h) (yieldsIf_load_mid (by rfl) 105 _ rfl w2.heap.size 0 rfl YS _ (fun _ h => h.1) Try.underlying105 rfl hi) hHeld ?_
  simp only [Act.put, List.setIfInBounds_toArray, List.set_cons_zero, List.set_cons_succ, List.getElem_toArray, List.getElem_cons_zero, List.getElem_cons_succ]
  refine wpAnyH_take (i := 2) (v := .bool ok) rfl (by kernel_rfl) (by kernel_rfl) (by kernel_rfl) (fun _ _ _ h => h) (Or.inl ⟨by rfl, fun w _ => by go_simp⟩) hHeld ?_
  simp only [Act.put, List.setIfInBounds_toArray, List.set_cons_zero, List.set_cons_succ, List.getElem_toArray, List.getElem_cons_zero, List.getElem_cons_succ]
  refine wpAnyH_take (i := 3) (v := .bool ok) rfl (by kernel_rfl) (by kernel_rfl) (by kernel_rfl) (fun _ _ _ h => h) (Or.inl ⟨by rfl, fun w _ => by go_simp⟩) hHeld ?_
  simp only [Act.put, List.setIfInBounds_toArray, List.set_cons_zero, List.set_cons_succ, List.getElem_toArray, List.getElem_cons_zero, List.getElem_cons_succ]
  refine wpAnyH_take (i := 4) (v := .bool true) rfl (by kernel_rfl) (by kernel_rfl) (by kernel_rfl) (fun _ _ _ h => h) (Or.inl ⟨by rfl, fun w _ => by go_simp⟩) hHeld ?_
  simp only [Act.put, List.setIfInBounds_toArray, List.set_cons_zero, List.set_cons_succ, List.getElem_toArray, List.getElem_cons_zero, List.getElem_cons_succ]
  refine wpAnyH_take (i := 5) (v := .pointer (some ⟨X, 0, none⟩)) rfl (by kernel_rfl) (by kernel_rfl) (by kernel_rfl) (fun _ _ _ h => h) (Or.inl ⟨by rfl, fun w _ => by go_simp⟩) hHeld ?_
  simp only [Act.put, List.setIfInBounds_toArray, List.set_cons_zero, List.set_cons_succ, List.getElem_toArray, List.getElem_cons_zero, List.getElem_cons_succ]
  refine wpAnyH_ready (rs := [6]) (by kernel_rfl) (by simp) ?_
  refine AllReadyH.cons (o := _) rfl (fun K hK => ?_) AllReadyH.nil
  rw [if_pos (by rfl)]
  refine wp_store_mid 105 _ _ rfl (w.heap.size + 1 + 1) 0 (List.toArray YS) rfl rfl (by have := OR3.out.there 0 13 (by simp); simpa [HYL.out] using this) (by rw [List.size_toArray]; exact hi) (all_oneCell_toArray (List.all_eq_true.1 HYO.out)) ?_
  simp only [Act.put, List.setIfInBounds_toArray, List.set_cons_zero, List.set_cons_succ, List.getElem_toArray, List.getElem_cons_zero, List.getElem_cons_succ]
  have hst : Stored w3.drew (w.heap.size + 1 + 1) 0 YS (w3.drew.setCells (w.heap.size + 1 + 1) 0 YS) := rfl
  have hO3 := hst.full (T := 105) OR3.out.drew HYL.out
  have hOY3 := hst.oth (OY.out.drew) (fun e => by have := l2.out; omega)
  have C3 := Lib.hid (hst.chg CZ.out.drew (Or.inr (by omega)))
  have HP3 := Lib.hid (Pair.stored (⟨⟨HZ.out.src.obj.drew, HZ.out.src.ok, HZ.out.src.ne⟩, ⟨HZ.out.led.obj.drew, HZ.out.led.ok⟩⟩ : Pair w3.drew _ _ _) hst (by omega) (by rw [HLL]; omega))
  obtain ⟨w9, hw9⟩ : ∃ w9, w3.drew.setCells (w.heap.size + 1 + 1) 0 YS = w9 := ⟨_, rfl⟩
  rw [hw9] at hO3 hOY3 C3 HP3 ⊢
  clear hst hw9
  refine hK.out _ _ ⟨hOY3.range0, by have := hO3.there 0 13 (by simp [HYL.out]); simpa using this⟩ (fun hHeld2 => ?_)
  refine wpAnyH_take (i := 7) (v := .bool true) rfl (by kernel_rfl) (by kernel_rfl) (by kernel_rfl) (fun _ _ _ h => h) (Or.inl ⟨by rfl, fun w _ => by go_simp⟩) hHeld2 ?_
  simp only [Act.put, List.setIfInBounds_toArray, List.set_cons_zero, List.set_cons_succ, List.getElem_toArray, List.getElem_cons_zero, List.getElem_cons_succ]
  refine wpAnyH_done (by kernel_rfl) ?_ _
  refine NoPanic.normal ?_
  clear hK K
  go_wp2
  refine bodyPost_ret (v := .tuple #[.pointer (some ⟨X, 0, none⟩), .agg YS.toArray, .bool true]) ?_ rfl ⟨rfl, HP3.out, C3.out⟩
  exact results_tct Try.results65 _ _ _ _ _ rfl hO3.range0 Try.underlying105 rfl hi
set_option maxRecDepth 100000 in
set_option maxHeartbeats 4000000 in
theorem one_take (X : Nat) (x : Sr) (l : Led) (N M : Int) (w : World) (h : Pair w X x l) (hi : l.inv) :
    Calls Try.prog 65 #[.pointer (some ⟨X, 0, none⟩), .agg (St x l).toArray, .agg #[.int .i64 7, .int .i64 N, .int .i64 M]] w (OneP w X x X (x.next l N).1.1 (x.next l N).1.2) := by
  have hX := h.src.lt
  have hL := h.led.lt
  have HXL := Lib.hid (St_len x l)
  have HP := Lib.hid (fun (w0 : World) (hb : Below w.heap.size w w0) => take_any X x l N w0 (h.under hb hX hL))
  have HR := Lib.hid (fun w0 => rread_any x l N w0 hi h.src.ok)
  have HLL := next_L x l N
  unfold rRead at HR
  unfold NextPost at HP
  unfold OneP
  obtain ⟨s, hs⟩ : ∃ s, (x.next l N).2.1 = s := ⟨_, rfl⟩
  obtain ⟨ok, hok⟩ : ∃ ok, (x.next l N).2.2 = ok := ⟨_, rfl⟩
  obtain ⟨y, hy⟩ : ∃ y, (x.next l N).1.1 = y := ⟨_, rfl⟩
  obtain ⟨m, hm⟩ : ∃ m, (x.next l N).1.2 = m := ⟨_, rfl⟩
  rw [hs] at HP
  rw [hs, hok, hy, hm] at HR
  rw [hok, hy, hm] at HP
  rw [hy] at HLL
  rw [hy, hm]
  have HYL := Lib.hid (St_len y m)
  have HYO := Lib.hid (St_one y m)
  obtain ⟨XS, hXS⟩ : ∃ XS, St x l = XS := ⟨_, rfl⟩
  obtain ⟨YS, hYS⟩ : ∃ YS, St y m = YS := ⟨_, rfl⟩
  rw [hXS] at HXL HR ⊢
  rw [hYS] at HYL HYO HR ⊢
  clear hXS hYS hs hok hy hm h hi
  have O0 := Lib.hid (fun T1 cs1 T' cs' => (((obj1_new w XS.toArray 105).alloc (.cells cs1 T1)).alloc (.cells cs' T')))
  have O2 : Hid (∀ cs1 cs, Obj1 (((w.alloc (.cells XS.toArray 105)).alloc (.cells cs1 109)).alloc (.cells cs 105)) (w.heap.size + 1 + 1) cs 105) := fun cs1 cs => by
    have := (obj1_new2 (w.alloc (.cells XS.toArray 105)) (.cells cs1 109) (cs := cs) (cs' := cs) 105 rfl)
    simpa using this
  have O1 : Hid (∀ cs1 cs, Obj1 (((w.alloc (.cells XS.toArray 105)).alloc (.cells cs1 109)).alloc (.cells cs 105)) (w.heap.size + 1) cs1 109) := fun cs1 cs => (obj1_new2 w (.cells XS.toArray 105) (cs := cs1) (cs' := cs1) 109 rfl).alloc _
  have BB := Lib.hid (fun T1 cs1 T' cs' => ((((Below.refl w.heap.size w).alloc (Nat.le_refl _) (.cells XS.toArray 105)).alloc (by simp) (.cells cs1 T1)).alloc (by simp; omega) (.cells cs' T')))
  have CC := Lib.hid (fun T1 cs1 T' cs' => ((((Chg.refl (two X x) w).alloc (.cells XS.toArray 105)).alloc (.cells cs1 T1)).alloc (.cells cs' T')))
  have hn0 : ∀ k, w.heap.size ≤ k → ¬ two X x k := fun k hk h => by rcases h with h | h <;> omega
  have HN0 := Lib.hid hn0
  clear hn0
  go_enter Try.func65, Try.ntmps65
  go_wp2_with (first
    | ((go_at_call 43; (with_reducible refine (HP.out _ (BB.out _ _ _ _)).mono ?_); rintro e w1 ⟨rfl, hP1, hC1⟩); have OH1 := Lib.hid (hC1.obj (O0.out _ _ _ _) (HN0.out _ (Nat.le_refl _))); have OO1 := Lib.hid (hC1.obj (O1.out _ _) (HN0.out _ (by omega))); have OR1 := Lib.hid (hC1.obj (O2.out _ _) (HN0.out _ (by omega))); have C1 := Lib.hid ((CC.out _ _ _ _).trans hC1); have HP1 := Lib.hid hP1; have n1 : w1.cell? ⟨w.heap.size + 1, 1, none⟩ = some (.int .i64 N) := (OO1.out.cell 1).trans rfl; have n2 : w1.cell? ⟨w.heap.size + 1, 2, none⟩ = some (.int .i64 M) := (OO1.out.cell 2).trans rfl; clear hP1 hC1)
    | (refine load_st rfl (.tmp 4) rfl w.heap.size XS HXL.out rfl OH1.out ?_)
    | ((go_at_call 94; (with_reducible refine (HR.out _).mono ?_); rintro e w2 ⟨rfl, hb2⟩); have OR2 := Lib.hid (OR1.out.below hb2 OR1.out.lt); have C2 := Lib.hid (C1.out.trans (chg_of_below hb2 _)); have HP2 := Lib.hid (HP1.out.under hb2 HP1.out.src.lt HP1.out.led.lt); clear hb2)
    | (refine store_st rfl (.tmp 13) (.tmp 64) rfl w2.heap.size YS HYL.out HYO.out rfl rfl (obj1_new w2 _ _) rfl ?_; intro w3 hst hO2; have OY := Lib.hid hO2; have OR3 := Lib.hid (hst.oth (OR2.out.alloc _) (Nat.ne_of_lt OR2.out.lt)); have CZ := Lib.hid (hst.chg (C2.out.alloc _) (Or.inr C2.out.size)); have HZ := Lib.hid (Pair.stored (HP2.out.under ((Below.refl _ _).alloc (Nat.le_refl _) _) HP2.out.src.lt HP2.out.led.lt) hst (Nat.ne_of_lt HP2.out.src.lt) (Nat.ne_of_lt HP2.out.led.lt)); have l2 := Lib.hid OR2.out.lt; clear hst hO2))
  have hi : (Try.prog.info? 105).map (·.size) = some YS.length := by rw [HYL.out]; kernel_rfl
  refine wp_region_noPanic ?_
  refine wp_region_held_drew (S := fun w' => w'.rangeAt w2.heap.size 0 YS ∧ w'.there (w.heap.size + 1 + 1) 0 13) (by kernel_rfl) ⟨OY.out.range0, OR3.out.there 0 13 (by simp)⟩ (fun hHeld => ?_)
  refine wpAnyH_take (i := 0) (v := .pointer (some ⟨X, 0, none⟩)) rfl (by kernel_rfl) (by kernel_rfl) (by kernel_rfl) (fun _ _ _ h => h) (Or.inl ⟨by rfl, fun w _ => by go_simp⟩) hHeld ?_
  simp only [Act.put, List.setIfInBounds_toArray, List.set_cons_zero, List.set_cons_succ, List.getElem_toArray, List.getElem_cons_zero, List.getElem_cons_succ]
  refine wpAnyH_take (i := 1) rfl (by kernel_rfl) (by kernel_rfl) (by kernel_rfl) (fun _ _ _ h => h) (yieldsIf_load_mid (by rfl) 105 _ rfl w2.heap.size 0 rfl YS _ (fun _ h => h.1) Try.underlying105 rfl hi) hHeld ?_
  simp only [Act.put, List.setIfInBounds_toArray, List.set_cons_zero, List.set_cons_succ, List.getElem_toArray, List.getElem_cons_zero, List.getElem_cons_succ]
  refine wpAnyH_take (i := 2) (v := .string s) rfl (by kernel_rfl) (by kernel_rfl) (by kernel_rfl) (fun _ _ _ h => h) (Or.inl ⟨by rfl, fun w _ => by go_simp⟩) hHeld ?_
  simp only [Act.put, List.setIfInBounds_toArray, List.set_cons_zero, List.set_cons_succ, List.getElem_toArray, List.getElem_cons_zero, List.getElem_cons_succ]
  refine wpAnyH_take (i := 3) (v := .string s) rfl (by kernel_rfl) (by kernel_rfl) (by kernel_rfl) (fun _ _ _ h => h) (Or.inl ⟨by rfl, fun w _ => by go_simp⟩) hHeld ?_
  simp only [Act.put, List.setIfInBounds_toArray, List.set_cons_zero, List.set_cons_succ, List.getElem_toArray, List.getElem_cons_zero, List.getElem_cons_succ]
  refine wpAnyH_take (i := 4) (v := .bool true) rfl (by kernel_rfl) (by kernel_rfl) (by kernel_rfl) (fun _ _ _ h => h) (Or.inl ⟨by rfl, fun w _ => by go_simp⟩) hHeld ?_
  simp only [Act.put, List.setIfInBounds_toArray, List.set_cons_zero, List.set_cons_succ, List.getElem_toArray, List.getElem_cons_zero, List.getElem_cons_succ]
  refine wpAnyH_take (i := 5) (v := .bool true) rfl (by kernel_rfl) (by kernel_rfl) (by kernel_rfl) (fun _ _ _ h => h) (Or.inl ⟨by rfl, fun w _ => by go_simp⟩) hHeld ?_
  simp only [Act.put, List.setIfInBounds_toArray, List.set_cons_zero, List.set_cons_succ, List.getElem_toArray, List.getElem_cons_zero, List.getElem_cons_succ]
  refine wpAnyH_take (i := 6) (v := .bool ok) rfl (by kernel_rfl) (by kernel_rfl) (by kernel_rfl) (fun _ _ _ h => h) (Or.inl ⟨by rfl, fun w _ => by go_simp⟩) hHeld ?_
  simp only [Act.put, List.setIfInBounds_toArray, List.set_cons_zero, List.set_cons_succ, List.getElem_toArray, List.getElem_cons_zero, List.getElem_cons_succ]
  refine wpAnyH_take (i := 7) (v := .bool ok) rfl (by kernel_rfl) (by kernel_rfl) (by kernel_rfl) (fun _ _ _ h => h) (Or.inl ⟨by rfl, fun w _ => by go_simp⟩) hHeld ?_
  simp only [Act.put, List.setIfInBounds_toArray, List.set_cons_zero, List.set_cons_succ, List.getElem_toArray, List.getElem_cons_zero, List.getElem_cons_succ]
  refine wpAnyH_take (i := 8) (v := .bool true) rfl (by kernel_rfl) (by kernel_rfl) (by kernel_rfl) (fun _ _ _ h => h) (Or.inl ⟨by rfl, fun w _ => by go_simp⟩) hHeld ?_
  simp only [Act.put, List.setIfInBounds_toArray, List.set_cons_zero, List.set_cons_succ, List.getElem_toArray, List.getElem_cons_zero, List.getElem_cons_succ]
  refine wpAnyH_take (i := 9) (v := .bool true) rfl (by kernel_rfl) (by kernel_rfl) (by kernel_rfl) (fun _ _ _ h => h) (Or.inl ⟨by rfl, fun w _ => by go_simp⟩) hHeld ?_
  simp only [Act.put, List.setIfInBounds_toArray, List.set_cons_zero, List.set_cons_succ, List.getElem_toArray, List.getElem_cons_zero, List.getElem_cons_succ]
  refine wpAnyH_take (i := 10) (v := .pointer (some ⟨X, 0, none⟩)) rfl (by kernel_rfl) (by kernel_rfl) (by kernel_rfl) (fun _ _ _ h => h) (Or.inl ⟨by rfl, fun w _ => by go_simp⟩) hHeld ?_
  simp only [Act.put, List.setIfInBounds_toArray, List.set_cons_zero, List.set_cons_succ, List.getElem_toArray, List.getElem_cons_zero, List.getElem_cons_succ]
  refine wpAnyH_ready (rs := [11]) (by kernel_rfl) (by simp) ?_
  refine AllReadyH.cons (o := _) rfl (fun K hK => ?_) AllReadyH.nil
  rw [if_pos (by rfl)]
  refine wp_store_mid 105 _ _ rfl (w.heap.size + 1 + 1) 0 (List.toArray YS) rfl rfl (by have := OR3.out.there 0 13 (by simp); simpa [HYL.out] using this) (by rw [List.size_toArray]; exact hi) (all_oneCell_toArray (List.all_eq_true.1 HYO.out)) ?_
  simp only [Act.put, List.setIfInBounds_toArray, List.set_cons_zero, List.set_cons_succ, List.getElem_toArray, List.getElem_cons_zero, List.getElem_cons_succ]
  have hst : Stored w3.drew (w.heap.size + 1 + 1) 0 YS (w3.drew.setCells (w.heap.size + 1 + 1) 0 YS) := rfl
  have hO3 := hst.full (T := 105) OR3.out.drew HYL.out
  have hOY3 := hst.oth (OY.out.drew) (fun e => by have := l2.out; omega)
  have C3 := Lib.hid (hst.chg CZ.out.drew (Or.inr (by omega)))
  have HP3 := Lib.hid (Pair.stored (⟨⟨HZ.out.src.obj.drew, HZ.out.src.ok, HZ.out.src.ne⟩, ⟨HZ.out.led.obj.drew, HZ.out.led.ok⟩⟩ : Pair w3.drew _ _ _) hst (by omega) (by rw [HLL]; omega))
  obtain ⟨w9, hw9⟩ : ∃ w9, w3.drew.setCells (w.heap.size + 1 + 1) 0 YS = w9 := ⟨_, rfl⟩
  rw [hw9] at hO3 hOY3 C3 HP3 ⊢
  clear hst hw9
  refine hK.out _ _ ⟨hOY3.range0, by have := hO3.there 0 13 (by simp [HYL.out]); simpa using this⟩ (fun hHeld2 => ?_)
  refine wpAnyH_take (i := 12) (v := .bool true) rfl (by kernel_rfl) (by kernel_rfl) (by kernel_rfl) (fun _ _ _ h => h) (Or.inl ⟨by rfl, fun w _ => by go_simp⟩) hHeld2 ?_
  simp only [Act.put, List.setIfInBounds_toArray, List.set_cons_zero, List.set_cons_succ, List.getElem_toArray, List.getElem_cons_zero, List.getElem_cons_succ]
  refine wpAnyH_done (by kernel_rfl) ?_ _
  refine NoPanic.normal ?_
  clear hK K
  go_wp2
  refine bodyPost_ret (v := .tuple #[.pointer (some ⟨X, 0, none⟩), .agg YS.toArray, .bool true]) ?_ rfl ⟨rfl, HP3.out, C3.out⟩
  exact results_tct Try.results65 _ _ _ _ _ rfl hO3.range0 Try.underlying105 rfl hi
end Go.Proofs.Ytobpocdpnkicnaa

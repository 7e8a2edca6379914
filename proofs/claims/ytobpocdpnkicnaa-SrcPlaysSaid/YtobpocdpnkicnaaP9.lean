/- The law SrcPlays: one call, walked: Peek (printed by gen_one.py). -/
import Derived.Test.YtobpocdpnkicnaaP7
namespace Go.Proofs.Ytobpocdpnkicnaa
open Go.RowKit
set_option linter.unusedVariables false
set_option linter.unusedSimpArgs false
theorem peek_set (x : Sr) (l m : Led) (n : Int) : (St (x.next l n).1.1 m).toArray.setIfInBounds 3 (.int .i64 x.p) = (St x m).toArray := by
  have : ∃ p, (x.next l n).1.1 = { x with p := p } := by
    unfold Sr.next; split
    · exact ⟨_, rfl⟩
    · exact ⟨x.p, rfl⟩
  obtain ⟨p, hp⟩ := this
  rw [hp]; rfl
set_option maxRecDepth 100000 in
set_option maxHeartbeats 4000000 in
theorem one_peek_no (X : Nat) (x : Sr) (l : Led) (N M : Int) (w : World) (h : Pair w X x l) (hi : l.inv) (hok : (x.next l 1).2.2 = false) :
    Calls Try.prog 65 #[.pointer (some ⟨X, 0, none⟩), .agg (St x l).toArray, .agg #[.int .i64 8, .int .i64 N, .int .i64 M]] w (OneP w X x X x (x.next l 1).1.2) := by
  have hX := h.src.lt
  have hL := h.led.lt
  have hsz := next_size x l 1 (by decide)
  have HXL := Lib.hid (St_len x l)
  have hx3 : (St x l).toArray[3]? = some (.int .i64 x.p) := rfl
  have HP := Lib.hid (fun (w0 : World) (hb : Below w.heap.size w w0) => peek_any X x l w0 (h.under hb hX hL))
  have HR := Lib.hid (fun w0 => rread_any x l 1 w0 hi h.src.ok)
  have hset := peek_set x l (x.next l 1).1.2 1
  have HYL := Lib.hid (St_len (x.next l 1).1.1 (x.next l 1).1.2)
  have HYO := Lib.hid (St_one (x.next l 1).1.1 (x.next l 1).1.2)
  have HZL := Lib.hid (St_len x (x.next l 1).1.2)
  have HZO := Lib.hid (St_one x (x.next l 1).1.2)
  have hy3 : (St (x.next l 1).1.1 (x.next l 1).1.2).toArray[3]? = some (.int .i64 (x.next l 1).1.1.p) := rfl
  unfold rRead at HR
  unfold PeekOf NumPost at HP
  unfold OneP
  rw [hok] at HP HR
  rw [(next_bad hok).2.2.1] at HP HR
  have hv : numB ByteArray.empty true = 0 := num0
  rw [hv] at HP
  obtain ⟨m, hm⟩ : ∃ m, (x.next l 1).1.2 = m := ⟨_, rfl⟩
  obtain ⟨yp, hyp⟩ : ∃ yp, (x.next l 1).1.1.p = yp := ⟨_, rfl⟩
  rw [hm] at HP HR HYL HYO HZL HZO hset hy3 ⊢
  rw [hyp] at hy3
  obtain ⟨XS, hXS⟩ : ∃ XS, St x l = XS := ⟨_, rfl⟩
  obtain ⟨YS, hYS⟩ : ∃ YS, St (x.next l 1).1.1 m = YS := ⟨_, rfl⟩
  obtain ⟨ZS, hZS⟩ : ∃ ZS, St x m = ZS := ⟨_, rfl⟩
  rw [hXS] at HXL HR hx3 ⊢
  rw [hYS] at HYL HYO HR hset hy3
  rw [hZS] at HZL HZO hset ⊢
  have HSET := Lib.hid hset
  clear hXS hYS hZS hm hyp hset hok h hi hsz
  have O0 := Lib.hid (fun T1 cs1 T' cs' => (((obj1_new w XS.toArray 105).alloc (.cells cs1 T1)).alloc (.cells cs' T')))
  have O2 : Hid (∀ cs1 cs, Obj1 (((w.alloc (.cells XS.toArray 105)).alloc (.cells cs1 109)).alloc (.cells cs 105)) (w.heap.size + 1 + 1) cs 105) := fun cs1 cs => by
    have := (obj1_new2 (w.alloc (.cells XS.toArray 105)) (.cells cs1 109) (cs := cs) (cs' := cs) 105 rfl)
    simpa using this
  have O1 : Hid (∀ cs1 cs, Obj1 (((w.alloc (.cells XS.toArray 105)).alloc (.cells cs1 109)).alloc (.cells cs 105)) (w.heap.size + 1) cs1 109) := fun cs1 cs => (obj1_new2 w (.cells XS.toArray 105) (cs := cs1) (cs' := cs1) 109 rfl).alloc _
  have BB := Lib.hid (fun T1 cs1 T' cs' => ((((Below.refl w.heap.size w).alloc (Nat.le_refl _) (.cells XS.toArray 105)).alloc (by simp) (.cells cs1 T1)).alloc (by simp; omega) (.cells cs' T')))
  have CC := Lib.hid (fun T1 cs1 T' cs' => ((((Chg.refl (two X x) w).alloc (.cells XS.toArray 105)).alloc (.cells cs1 T1)).alloc (.cells cs' T')))
  have hn0 : ∀ k, w.heap.size ≤ k → ¬ two X x k := fun k hk h => by rcases h with h | h <;> omega
  have HN0 := Lib.hid hn0
  clear hn0
  go_enter Try.func65, Try.ntmps65
  go_wp2_with (first
    | ((go_at_call 95; (with_reducible refine (HP.out _ (BB.out _ _ _ _)).mono ?_); rintro e w1 ⟨rfl, hP1, hC1⟩); have OH1 := Lib.hid (hC1.obj (O0.out _ _ _ _) (HN0.out _ (Nat.le_refl _))); have OO1 := Lib.hid (hC1.obj (O1.out _ _) (HN0.out _ (by omega))); have OR1 := Lib.hid (hC1.obj (O2.out _ _) (HN0.out _ (by omega))); have C1 := Lib.hid ((CC.out _ _ _ _).trans hC1); have HP1 := Lib.hid hP1; have n1 : w1.cell? ⟨w.heap.size + 1, 1, none⟩ = some (.int .i64 N) := (OO1.out.cell 1).trans rfl; have n2 : w1.cell? ⟨w.heap.size + 1, 2, none⟩ = some (.int .i64 M) := (OO1.out.cell 2).trans rfl; clear hP1 hC1)
    | (refine load_st rfl (.tmp 4) rfl w.heap.size XS HXL.out rfl OH1.out ?_)
    | ((go_at_call 94; (with_reducible refine (HR.out _).mono ?_); rintro e w2 ⟨rfl, hb2⟩); have OR2 := Lib.hid (OR1.out.below hb2 OR1.out.lt); have C2 := Lib.hid (C1.out.trans (chg_of_below hb2 _)); have HP2 := Lib.hid (HP1.out.under hb2 HP1.out.src.lt HP1.out.led.lt); have OH2 := Lib.hid (OH1.out.below hb2 OH1.out.lt); clear hb2)
    | (refine store_st rfl (.tmp 18) (.tmp 89) rfl w2.heap.size YS HYL.out HYO.out rfl rfl (obj1_new w2 _ _) rfl ?_; intro w3 hst hO2; have OY := Lib.hid hO2; have OR3 := Lib.hid (hst.oth (OR2.out.alloc _) (Nat.ne_of_lt OR2.out.lt)); have CZ := Lib.hid (hst.chg (C2.out.alloc _) (Or.inr C2.out.size)); have HZ := Lib.hid (Pair.stored (HP2.out.under ((Below.refl _ _).alloc (Nat.le_refl _) _) HP2.out.src.lt HP2.out.led.lt) hst (Nat.ne_of_lt HP2.out.src.lt) (Nat.ne_of_lt HP2.out.led.lt)); have l2 := Lib.hid OR2.out.lt; have OH3 := Lib.hid (hst.oth (OH2.out.alloc _) (Nat.ne_of_lt OH2.out.lt)); have m3 : w3.cell? ⟨w.heap.size, 3, none⟩ = some (.int .i64 x.p) := (OH3.out.cell 3).trans hx3; have y3 : w3.cell? ⟨w2.heap.size, 3, none⟩ = some (.int .i64 yp) := (OY.out.cell 3).trans hy3; have g3 := OY.out.frozen 3; clear hst hO2))
  have SO := Lib.hid (show Obj1 (w3.setCell ⟨w2.heap.size, 3, none⟩ (.int .i64 x.p)) w2.heap.size ZS.toArray 105 from by rw [← HSET.out]; exact OY.out.set 3 _)
  have DO := Lib.hid (show Obj1 (w3.setCell ⟨w2.heap.size, 3, none⟩ (.int .i64 x.p)) (w.heap.size + 1 + 1) _ _ from OR3.out.set_other _ _ (by have := l2.out; simp; omega))
  have CZ2 := Lib.hid (CZ.out.set ⟨w2.heap.size, 3, none⟩ (.int .i64 x.p) (Or.inr (by have := l2.out; simp; omega)))
  have HZ2 := Lib.hid (HZ.out.putb (.int .i64 x.p) (i := 3) (K := w2.heap.size) (by have := l2.out; omega) (by have := l2.out; omega))
  obtain ⟨w4, hw4⟩ : ∃ w4, (w3.setCell ⟨w2.heap.size, 3, none⟩ (.int .i64 x.p)) = w4 := ⟨_, rfl⟩
  rw [hw4] at SO DO CZ2 HZ2 ⊢
  clear hw4
  have hi : (Try.prog.info? 105).map (·.size) = some ZS.length := by rw [HZL.out]; kernel_rfl
  refine wp_region_noPanic ?_
  refine wp_region_held_drew (S := fun w' => w'.rangeAt w2.heap.size 0 ZS ∧ w'.there (w.heap.size + 1 + 1) 0 13) (by kernel_rfl) ⟨SO.out.range0, DO.out.there 0 13 (by simp)⟩ (fun hHeld => ?_)
  refine wpAnyH_take (i := 0) (v := .pointer (some ⟨X, 0, none⟩)) rfl (by kernel_rfl) (by kernel_rfl) (by kernel_rfl) (fun _ _ _ h => h) (Or.inl ⟨by rfl, fun w _ => by go_simp⟩) hHeld ?_
  simp only [Act.put, List.setIfInBounds_toArray, List.set_cons_zero, List.set_cons_succ, List.getElem_toArray, List.getElem_cons_zero, List.getElem_cons_succ]
  refine wpAnyH_take (i := 1) rfl (by kernel_rfl) (by kernel_rfl) (by kernel_rfl) (fun _ _ _ h => h) (yieldsIf_load_mid (by rfl) 105 _ rfl w2.heap.size 0 rfl ZS _ (fun _ h => h.1) Try.underlying105 rfl hi) hHeld ?_
  simp only [Act.put, List.setIfInBounds_toArray, List.set_cons_zero, List.set_cons_succ, List.getElem_toArray, List.getElem_cons_zero, List.getElem_cons_succ]
  refine wpAnyH_take (i := 2) (v := .bool false) rfl (by kernel_rfl) (by kernel_rfl) (by kernel_rfl) (fun _ _ _ h => h) (Or.inl ⟨by rfl, fun w _ => by go_simp⟩) hHeld ?_
  simp only [Act.put, List.setIfInBounds_toArray, List.set_cons_zero, List.set_cons_succ, List.getElem_toArray, List.getElem_cons_zero, List.getElem_cons_succ]
  refine wpAnyH_take (i := 3) (v := .bool false) rfl (by kernel_rfl) (by kernel_rfl) (by kernel_rfl) (fun _ _ _ h => h) (Or.inl ⟨by rfl, fun w _ => by go_simp⟩) hHeld ?_
  simp only [Act.put, List.setIfInBounds_toArray, List.set_cons_zero, List.set_cons_succ, List.getElem_toArray, List.getElem_cons_zero, List.getElem_cons_succ]
  refine wpAnyH_take (i := 4) (v := .bool true) rfl (by kernel_rfl) (by kernel_rfl) (by kernel_rfl) (fun _ _ _ h => h) (Or.inl ⟨by rfl, fun w _ => by go_simp⟩) hHeld ?_
  simp only [Act.put, List.setIfInBounds_toArray, List.set_cons_zero, List.set_cons_succ, List.getElem_toArray, List.getElem_cons_zero, List.getElem_cons_succ]
  refine wpAnyH_take (i := 5) (v := .bool true) rfl (by kernel_rfl) (by kernel_rfl) (by kernel_rfl) (fun _ _ _ h => h) (Or.inl ⟨by rfl, fun w _ => by go_simp⟩) hHeld ?_
  simp only [Act.put, List.setIfInBounds_toArray, List.set_cons_zero, List.set_cons_succ, List.getElem_toArray, List.getElem_cons_zero, List.getElem_cons_succ]
  refine wpAnyH_take (i := 6) (v := .bool false) rfl (by kernel_rfl) (by kernel_rfl) (by kernel_rfl) (fun _ _ _ h => h) (Or.inl ⟨by rfl, fun w _ => by go_simp⟩) hHeld ?_
  simp only [Act.put, List.setIfInBounds_toArray, List.set_cons_zero, List.set_cons_succ, List.getElem_toArray, List.getElem_cons_zero, List.getElem_cons_succ]
  refine wpAnyH_take (i := 7) (v := .bool true) rfl (by kernel_rfl) (by kernel_rfl) (by kernel_rfl) (fun _ _ _ h => h) (Or.inl ⟨by rfl, fun w _ => by go_simp⟩) hHeld ?_
  simp only [Act.put, List.setIfInBounds_toArray, List.set_cons_zero, List.set_cons_succ, List.getElem_toArray, List.getElem_cons_zero, List.getElem_cons_succ]
  refine wpAnyH_take (i := 8) (v := .bool true) rfl (by kernel_rfl) (by kernel_rfl) (by kernel_rfl) (fun _ _ _ h => h) (Or.inl ⟨by rfl, fun w _ => by go_simp⟩) hHeld ?_
  simp only [Act.put, List.setIfInBounds_toArray, List.set_cons_zero, List.set_cons_succ, List.getElem_toArray, List.getElem_cons_zero, List.getElem_cons_succ]
  refine wpAnyH_take (i := 9) (v := .int .i64 0) rfl (by kernel_rfl) (by kernel_rfl) (by kernel_rfl) (fun _ _ _ h => h) (Or.inl ⟨by rfl, fun w _ => by go_simp⟩) hHeld ?_
  simp only [Act.put, List.setIfInBounds_toArray, List.set_cons_zero, List.set_cons_succ, List.getElem_toArray, List.getElem_cons_zero, List.getElem_cons_succ]
  refine wpAnyH_take (i := 10) (v := .bool true) rfl (by kernel_rfl) (by kernel_rfl) (by kernel_rfl) (fun _ _ _ h => h) (Or.inl ⟨by rfl, fun w _ => by go_simp⟩) hHeld ?_
  simp only [Act.put, List.setIfInBounds_toArray, List.set_cons_zero, List.set_cons_succ, List.getElem_toArray, List.getElem_cons_zero, List.getElem_cons_succ]
  refine wpAnyH_take (i := 11) (v := .bool true) rfl (by kernel_rfl) (by kernel_rfl) (by kernel_rfl) (fun _ _ _ h => h) (Or.inl ⟨by rfl, fun w _ => by go_simp⟩) hHeld ?_
  simp only [Act.put, List.setIfInBounds_toArray, List.set_cons_zero, List.set_cons_succ, List.getElem_toArray, List.getElem_cons_zero, List.getElem_cons_succ]
  refine wpAnyH_take (i := 12) (v := .bool true) rfl (by kernel_rfl) (by kernel_rfl) (by kernel_rfl) (fun _ _ _ h => h) (Or.inl ⟨by rfl, fun w _ => by go_simp⟩) hHeld ?_
  simp only [Act.put, List.setIfInBounds_toArray, List.set_cons_zero, List.set_cons_succ, List.getElem_toArray, List.getElem_cons_zero, List.getElem_cons_succ]
  refine wpAnyH_take (i := 13) (v := undef) rfl (by kernel_rfl) (by kernel_rfl) (by kernel_rfl) (fun _ _ _ h => h) (Or.inr ⟨by rfl, rfl⟩) hHeld ?_
  simp only [Act.put, List.setIfInBounds_toArray, List.set_cons_zero, List.set_cons_succ, List.getElem_toArray, List.getElem_cons_zero, List.getElem_cons_succ]
  refine wpAnyH_take (i := 14) (v := undef) rfl (by kernel_rfl) (by kernel_rfl) (by kernel_rfl) (fun _ _ _ h => h) (Or.inr ⟨by rfl, rfl⟩) hHeld ?_
  simp only [Act.put, List.setIfInBounds_toArray, List.set_cons_zero, List.set_cons_succ, List.getElem_toArray, List.getElem_cons_zero, List.getElem_cons_succ]
  refine wpAnyH_take (i := 15) (v := undef) rfl (by kernel_rfl) (by kernel_rfl) (by kernel_rfl) (fun _ _ _ h => h) (Or.inr ⟨by rfl, rfl⟩) hHeld ?_
  simp only [Act.put, List.setIfInBounds_toArray, List.set_cons_zero, List.set_cons_succ, List.getElem_toArray, List.getElem_cons_zero, List.getElem_cons_succ]
  refine wpAnyH_take (i := 16) (v := undef) rfl (by kernel_rfl) (by kernel_rfl) (by kernel_rfl) (fun _ _ _ h => h) (Or.inr ⟨by rfl, rfl⟩) hHeld ?_
  simp only [Act.put, List.setIfInBounds_toArray, List.set_cons_zero, List.set_cons_succ, List.getElem_toArray, List.getElem_cons_zero, List.getElem_cons_succ]
  refine wpAnyH_take (i := 17) (v := undef) rfl (by kernel_rfl) (by kernel_rfl) (by kernel_rfl) (fun _ _ _ h => h) (Or.inr ⟨by rfl, rfl⟩) hHeld ?_
  simp only [Act.put, List.setIfInBounds_toArray, List.set_cons_zero, List.set_cons_succ, List.getElem_toArray, List.getElem_cons_zero, List.getElem_cons_succ]
  refine wpAnyH_take (i := 18) (v := undef) rfl (by kernel_rfl) (by kernel_rfl) (by kernel_rfl) (fun _ _ _ h => h) (Or.inr ⟨by rfl, rfl⟩) hHeld ?_
  simp only [Act.put, List.setIfInBounds_toArray, List.set_cons_zero, List.set_cons_succ, List.getElem_toArray, List.getElem_cons_zero, List.getElem_cons_succ]
  refine wpAnyH_take (i := 19) (v := undef) rfl (by kernel_rfl) (by kernel_rfl) (by kernel_rfl) (fun _ _ _ h => h) (Or.inr ⟨by rfl, rfl⟩) hHeld ?_
  simp only [Act.put, List.setIfInBounds_toArray, List.set_cons_zero, List.set_cons_succ, List.getElem_toArray, List.getElem_cons_zero, List.getElem_cons_succ]
  refine wpAnyH_take (i := 20) (v := .bool true) rfl (by kernel_rfl) (by kernel_rfl) (by kernel_rfl) (fun _ _ _ h => h) (Or.inl ⟨by rfl, fun w _ => by go_simp⟩) hHeld ?_
  simp only [Act.put, List.setIfInBounds_toArray, List.set_cons_zero, List.set_cons_succ, List.getElem_toArray, List.getElem_cons_zero, List.getElem_cons_succ]
  refine wpAnyH_take (i := 21) (v := .bool true) rfl (by kernel_rfl) (by kernel_rfl) (by kernel_rfl) (fun _ _ _ h => h) (Or.inl ⟨by rfl, fun w _ => by go_simp⟩) hHeld ?_
  simp only [Act.put, List.setIfInBounds_toArray, List.set_cons_zero, List.set_cons_succ, List.getElem_toArray, List.getElem_cons_zero, List.getElem_cons_succ]
  refine wpAnyH_take (i := 22) (v := .pointer (some ⟨X, 0, none⟩)) rfl (by kernel_rfl) (by kernel_rfl) (by kernel_rfl) (fun _ _ _ h => h) (Or.inl ⟨by rfl, fun w _ => by go_simp⟩) hHeld ?_
  simp only [Act.put, List.setIfInBounds_toArray, List.set_cons_zero, List.set_cons_succ, List.getElem_toArray, List.getElem_cons_zero, List.getElem_cons_succ]
  refine wpAnyH_ready (rs := [23]) (by kernel_rfl) (by simp) ?_
  refine AllReadyH.cons (o := _) rfl (fun K hK => ?_) AllReadyH.nil
  rw [if_pos (by rfl)]
  refine wp_store_mid 105 _ _ rfl (w.heap.size + 1 + 1) 0 (List.toArray ZS) rfl rfl (by have := DO.out.there 0 13 (by simp); simpa [HZL.out] using this) (by rw [List.size_toArray]; exact hi) (all_oneCell_toArray (List.all_eq_true.1 HZO.out)) ?_
  simp only [Act.put, List.setIfInBounds_toArray, List.set_cons_zero, List.set_cons_succ, List.getElem_toArray, List.getElem_cons_zero, List.getElem_cons_succ]
  have hst : Stored w4.drew (w.heap.size + 1 + 1) 0 ZS (w4.drew.setCells (w.heap.size + 1 + 1) 0 ZS) := rfl
  have hO3 := hst.full (T := 105) DO.out.drew HZL.out
  have hOY3 := hst.oth (SO.out.drew) (fun e => by have := l2.out; omega)
  have C3 := Lib.hid (hst.chg CZ2.out.drew (Or.inr (by omega)))
  have HP3 := Lib.hid (Pair.stored (⟨⟨HZ2.out.src.obj.drew, HZ2.out.src.ok, HZ2.out.src.ne⟩, ⟨HZ2.out.led.obj.drew, HZ2.out.led.ok⟩⟩ : Pair w4.drew _ _ _) hst (by omega) (by omega))
  obtain ⟨w9, hw9⟩ : ∃ w9, w4.drew.setCells (w.heap.size + 1 + 1) 0 ZS = w9 := ⟨_, rfl⟩
  rw [hw9] at hO3 hOY3 C3 HP3 ⊢
  clear hst hw9
  refine hK.out _ _ ⟨hOY3.range0, by have := hO3.there 0 13 (by simp [HZL.out]); simpa using this⟩ (fun hHeld2 => ?_)
  refine wpAnyH_take (i := 24) (v := .bool true) rfl (by kernel_rfl) (by kernel_rfl) (by kernel_rfl) (fun _ _ _ h => h) (Or.inl ⟨by rfl, fun w _ => by go_simp⟩) hHeld2 ?_
  simp only [Act.put, List.setIfInBounds_toArray, List.set_cons_zero, List.set_cons_succ, List.getElem_toArray, List.getElem_cons_zero, List.getElem_cons_succ]
  refine wpAnyH_done (by kernel_rfl) ?_ _
  refine NoPanic.normal ?_
  clear hK K
  go_wp2
  refine bodyPost_ret (v := .tuple #[.pointer (some ⟨X, 0, none⟩), .agg ZS.toArray, .bool true]) ?_ rfl ⟨rfl, HP3.out, C3.out⟩
  exact results_tct Try.results65 _ _ _ _ _ rfl hO3.range0 Try.underlying105 rfl hi
set_option maxRecDepth 100000 in
set_option maxHeartbeats 4000000 in
theorem one_peek_yes (X : Nat) (x : Sr) (l : Led) (N M : Int) (w : World) (h : Pair w X x l) (hi : l.inv) (hok : (x.next l 1).2.2 = true) :
    Calls Try.prog 65 #[.pointer (some ⟨X, 0, none⟩), .agg (St x l).toArray, .agg #[.int .i64 8, .int .i64 N, .int .i64 M]] w (OneP w X x X x (x.next l 1).1.2) := by
  have hX := h.src.lt
  have hL := h.led.lt
  have hsz := next_size x l 1 (by decide)
  have HXL := Lib.hid (St_len x l)
  have hx3 : (St x l).toArray[3]? = some (.int .i64 x.p) := rfl
  have HP := Lib.hid (fun (w0 : World) (hb : Below w.heap.size w w0) => peek_any X x l w0 (h.under hb hX hL))
  have HR := Lib.hid (fun w0 => rread_any x l 1 w0 hi h.src.ok)
  have hset := peek_set x l (x.next l 1).1.2 1
  have HYL := Lib.hid (St_len (x.next l 1).1.1 (x.next l 1).1.2)
  have HYO := Lib.hid (St_one (x.next l 1).1.1 (x.next l 1).1.2)
  have HZL := Lib.hid (St_len x (x.next l 1).1.2)
  have HZO := Lib.hid (St_one x (x.next l 1).1.2)
  have hy3 : (St (x.next l 1).1.1 (x.next l 1).1.2).toArray[3]? = some (.int .i64 (x.next l 1).1.1.p) := rfl
  unfold rRead at HR
  unfold PeekOf NumPost at HP
  unfold OneP
  rw [hok] at HP HR
  obtain ⟨s, hs⟩ : ∃ s, (x.next l 1).2.1 = s := ⟨_, rfl⟩
  rw [hs] at HP HR hsz
  have HLE := Lib.hid (fun w0 => (rle_any s w0 (by omega)).mono (R' := fun e w' => e = .returned (.int .i64 (numB s true)) ∧ w0 = w') fun e w' hh => hh)
  obtain ⟨v, hv⟩ : ∃ v, numB s true = v := ⟨_, rfl⟩
  rw [hv] at HP HLE
  clear hs hv
  obtain ⟨m, hm⟩ : ∃ m, (x.next l 1).1.2 = m := ⟨_, rfl⟩
  obtain ⟨yp, hyp⟩ : ∃ yp, (x.next l 1).1.1.p = yp := ⟨_, rfl⟩
  rw [hm] at HP HR HYL HYO HZL HZO hset hy3 ⊢
  rw [hyp] at hy3
  obtain ⟨XS, hXS⟩ : ∃ XS, St x l = XS := ⟨_, rfl⟩
  obtain ⟨YS, hYS⟩ : ∃ YS, St (x.next l 1).1.1 m = YS := ⟨_, rfl⟩
  obtain ⟨ZS, hZS⟩ : ∃ ZS, St x m = ZS := ⟨_, rfl⟩
  rw [hXS] at HXL HR hx3 ⊢
  rw [hYS] at HYL HYO HR hset hy3
  rw [hZS] at HZL HZO hset ⊢
  have HSET := Lib.hid hset
  clear hXS hYS hZS hm hyp hset hok h hi hsz
  have O0 := Lib.hid (fun T1 cs1 T' cs' => (((obj1_new w XS.toArray 105).alloc (.cells cs1 T1)).alloc (.cells cs' T')))
  have O2 : Hid (∀ cs1 cs, Obj1 (((w.alloc (.cells XS.toArray 105)).alloc (.cells cs1 109)).alloc (.cells cs 105)) (w.heap.size + 1 + 1) cs 105) := fun cs1 cs => by
    have := (obj1_new2 (w.alloc (.cells XS.toArray 105)) (.cells cs1 109) (cs := cs) (cs' := cs) 105 rfl)
    simpa using this
  have O1 : Hid (∀ cs1 cs, Obj1 (((w.alloc (.cells XS.toArray 105)).alloc (.cells cs1 109)).alloc (.cells cs 105)) (w.heap.size + 1) cs1 109) := fun cs1 cs => (obj1_new2 w (.cells XS.toArray 105) (cs := cs1) (cs' := cs1) 109 rfl).alloc _
  have BB := Lib.hid (fun T1 cs1 T' cs' => ((((Below.refl w.heap.size w).alloc (Nat.le_refl _) (.cells XS.toArray 105)).alloc (by simp) (.cells cs1 T1)).alloc (by simp; omega) (.cells cs' T')))
  have CC := Lib.hid (fun T1 cs1 T' cs' => ((((Chg.refl (two X x) w).alloc (.cells XS.toArray 105)).alloc (.cells cs1 T1)).alloc (.cells cs' T')))
  have hn0 : ∀ k, w.heap.size ≤ k → ¬ two X x k := fun k hk h => by rcases h with h | h <;> omega
  have HN0 := Lib.hid hn0
  clear hn0
  go_enter Try.func65, Try.ntmps65
  go_wp2_with (first
    | ((go_at_call 95; (with_reducible refine (HP.out _ (BB.out _ _ _ _)).mono ?_); rintro e w1 ⟨rfl, hP1, hC1⟩); have OH1 := Lib.hid (hC1.obj (O0.out _ _ _ _) (HN0.out _ (Nat.le_refl _))); have OO1 := Lib.hid (hC1.obj (O1.out _ _) (HN0.out _ (by omega))); have OR1 := Lib.hid (hC1.obj (O2.out _ _) (HN0.out _ (by omega))); have C1 := Lib.hid ((CC.out _ _ _ _).trans hC1); have HP1 := Lib.hid hP1; have n1 : w1.cell? ⟨w.heap.size + 1, 1, none⟩ = some (.int .i64 N) := (OO1.out.cell 1).trans rfl; have n2 : w1.cell? ⟨w.heap.size + 1, 2, none⟩ = some (.int .i64 M) := (OO1.out.cell 2).trans rfl; clear hP1 hC1)
    | (refine load_st rfl (.tmp 4) rfl w.heap.size XS HXL.out rfl OH1.out ?_)
    | ((go_at_call 94; (with_reducible refine (HR.out _).mono ?_); rintro e w2 ⟨rfl, hb2⟩); have OR2 := Lib.hid (OR1.out.below hb2 OR1.out.lt); have C2 := Lib.hid (C1.out.trans (chg_of_below hb2 _)); have HP2 := Lib.hid (HP1.out.under hb2 HP1.out.src.lt HP1.out.led.lt); have OH2 := Lib.hid (OH1.out.below hb2 OH1.out.lt); clear hb2)
    | (refine store_st rfl (.tmp 18) (.tmp 89) rfl w2.heap.size YS HYL.out HYO.out rfl rfl (obj1_new w2 _ _) rfl ?_; intro w3 hst hO2; have OY := Lib.hid hO2; have OR3 := Lib.hid (hst.oth (OR2.out.alloc _) (Nat.ne_of_lt OR2.out.lt)); have CZ := Lib.hid (hst.chg (C2.out.alloc _) (Or.inr C2.out.size)); have HZ := Lib.hid (Pair.stored (HP2.out.under ((Below.refl _ _).alloc (Nat.le_refl _) _) HP2.out.src.lt HP2.out.led.lt) hst (Nat.ne_of_lt HP2.out.src.lt) (Nat.ne_of_lt HP2.out.led.lt)); have l2 := Lib.hid OR2.out.lt; have OH3 := Lib.hid (hst.oth (OH2.out.alloc _) (Nat.ne_of_lt OH2.out.lt)); have m3 : w3.cell? ⟨w.heap.size, 3, none⟩ = some (.int .i64 x.p) := (OH3.out.cell 3).trans hx3; have y3 : w3.cell? ⟨w2.heap.size, 3, none⟩ = some (.int .i64 yp) := (OY.out.cell 3).trans hy3; have g3 := OY.out.frozen 3; clear hst hO2))
  have SO := Lib.hid (show Obj1 (w3.setCell ⟨w2.heap.size, 3, none⟩ (.int .i64 x.p)) w2.heap.size ZS.toArray 105 from by rw [← HSET.out]; exact OY.out.set 3 _)
  have DO := Lib.hid (show Obj1 (w3.setCell ⟨w2.heap.size, 3, none⟩ (.int .i64 x.p)) (w.heap.size + 1 + 1) _ _ from OR3.out.set_other _ _ (by have := l2.out; simp; omega))
  have CZ2 := Lib.hid (CZ.out.set ⟨w2.heap.size, 3, none⟩ (.int .i64 x.p) (Or.inr (by have := l2.out; simp; omega)))
  have HZ2 := Lib.hid (HZ.out.putb (.int .i64 x.p) (i := 3) (K := w2.heap.size) (by have := l2.out; omega) (by have := l2.out; omega))
  obtain ⟨w4, hw4⟩ : ∃ w4, (w3.setCell ⟨w2.heap.size, 3, none⟩ (.int .i64 x.p)) = w4 := ⟨_, rfl⟩
  rw [hw4] at SO DO CZ2 HZ2 ⊢
  clear hw4
  have hi : (Try.prog.info? 105).map (·.size) = some ZS.length := by rw [HZL.out]; kernel_rfl
  refine wp_region_noPanic ?_
  refine wp_region_held_drew (S := fun w' => w'.rangeAt w2.heap.size 0 ZS ∧ w'.there (w.heap.size + 1 + 1) 0 13) (by kernel_rfl) ⟨SO.out.range0, DO.out.there 0 13 (by simp)⟩ (fun hHeld => ?_)
  refine wpAnyH_take (i := 0) (v := .pointer (some ⟨X, 0, none⟩)) rfl (by kernel_rfl) (by kernel_rfl) (by kernel_rfl) (fun _ _ _ h => h) (Or.inl ⟨by rfl, fun w _ => by go_simp⟩) hHeld ?_
  simp only [Act.put, List.setIfInBounds_toArray, List.set_cons_zero, List.set_cons_succ, List.getElem_toArray, List.getElem_cons_zero, List.getElem_cons_succ]
  refine wpAnyH_take (i := 1) rfl (by kernel_rfl) (by kernel_rfl) (by kernel_rfl) (fun _ _ _ h => h) (yieldsIf_load_mid (by rfl) 105 _ rfl w2.heap.size 0 rfl ZS _ (fun _ h => h.1) Try.underlying105 rfl hi) hHeld ?_
  simp only [Act.put, List.setIfInBounds_toArray, List.set_cons_zero, List.set_cons_succ, List.getElem_toArray, List.getElem_cons_zero, List.getElem_cons_succ]
  refine wpAnyH_take (i := 2) (v := .bool true) rfl (by kernel_rfl) (by kernel_rfl) (by kernel_rfl) (fun _ _ _ h => h) (Or.inl ⟨by rfl, fun w _ => by go_simp⟩) hHeld ?_
  simp only [Act.put, List.setIfInBounds_toArray, List.set_cons_zero, List.set_cons_succ, List.getElem_toArray, List.getElem_cons_zero, List.getElem_cons_succ]
  refine wpAnyH_take (i := 3) (v := .bool true) rfl (by kernel_rfl) (by kernel_rfl) (by kernel_rfl) (fun _ _ _ h => h) (Or.inl ⟨by rfl, fun w _ => by go_simp⟩) hHeld ?_
  simp only [Act.put, List.setIfInBounds_toArray, List.set_cons_zero, List.set_cons_succ, List.getElem_toArray, List.getElem_cons_zero, List.getElem_cons_succ]
  refine wpAnyH_take (i := 4) (v := .bool true) rfl (by kernel_rfl) (by kernel_rfl) (by kernel_rfl) (fun _ _ _ h => h) (Or.inl ⟨by rfl, fun w _ => by go_simp⟩) hHeld ?_
  simp only [Act.put, List.setIfInBounds_toArray, List.set_cons_zero, List.set_cons_succ, List.getElem_toArray, List.getElem_cons_zero, List.getElem_cons_succ]
  refine wpAnyH_take (i := 5) (v := .bool true) rfl (by kernel_rfl) (by kernel_rfl) (by kernel_rfl) (fun _ _ _ h => h) (Or.inl ⟨by rfl, fun w _ => by go_simp⟩) hHeld ?_
  simp only [Act.put, List.setIfInBounds_toArray, List.set_cons_zero, List.set_cons_succ, List.getElem_toArray, List.getElem_cons_zero, List.getElem_cons_succ]
  refine wpAnyH_take (i := 6) (v := .bool true) rfl (by kernel_rfl) (by kernel_rfl) (by kernel_rfl) (fun _ _ _ h => h) (Or.inl ⟨by rfl, fun w _ => by go_simp⟩) hHeld ?_
  simp only [Act.put, List.setIfInBounds_toArray, List.set_cons_zero, List.set_cons_succ, List.getElem_toArray, List.getElem_cons_zero, List.getElem_cons_succ]
  refine wpAnyH_take (i := 7) (v := .bool false) rfl (by kernel_rfl) (by kernel_rfl) (by kernel_rfl) (fun _ _ _ h => h) (Or.inl ⟨by rfl, fun w _ => by go_simp⟩) hHeld ?_
  simp only [Act.put, List.setIfInBounds_toArray, List.set_cons_zero, List.set_cons_succ, List.getElem_toArray, List.getElem_cons_zero, List.getElem_cons_succ]
  refine wpAnyH_take (i := 8) (v := .bool false) rfl (by kernel_rfl) (by kernel_rfl) (by kernel_rfl) (fun _ _ _ h => h) (Or.inl ⟨by rfl, fun w _ => by go_simp⟩) hHeld ?_
  simp only [Act.put, List.setIfInBounds_toArray, List.set_cons_zero, List.set_cons_succ, List.getElem_toArray, List.getElem_cons_zero, List.getElem_cons_succ]
  refine wpAnyH_take (i := 9) (v := undef) rfl (by kernel_rfl) (by kernel_rfl) (by kernel_rfl) (fun _ _ _ h => h) (Or.inr ⟨by rfl, rfl⟩) hHeld ?_
  simp only [Act.put, List.setIfInBounds_toArray, List.set_cons_zero, List.set_cons_succ, List.getElem_toArray, List.getElem_cons_zero, List.getElem_cons_succ]
  refine wpAnyH_take (i := 10) (v := undef) rfl (by kernel_rfl) (by kernel_rfl) (by kernel_rfl) (fun _ _ _ h => h) (Or.inr ⟨by rfl, rfl⟩) hHeld ?_
  simp only [Act.put, List.setIfInBounds_toArray, List.set_cons_zero, List.set_cons_succ, List.getElem_toArray, List.getElem_cons_zero, List.getElem_cons_succ]
  refine wpAnyH_take (i := 11) (v := .bool false) rfl (by kernel_rfl) (by kernel_rfl) (by kernel_rfl) (fun _ _ _ h => h) (Or.inl ⟨by rfl, fun w _ => by go_simp⟩) hHeld ?_
  simp only [Act.put, List.setIfInBounds_toArray, List.set_cons_zero, List.set_cons_succ, List.getElem_toArray, List.getElem_cons_zero, List.getElem_cons_succ]
  refine wpAnyH_take (i := 12) (v := .bool false) rfl (by kernel_rfl) (by kernel_rfl) (by kernel_rfl) (fun _ _ _ h => h) (Or.inl ⟨by rfl, fun w _ => by go_simp⟩) hHeld ?_
  simp only [Act.put, List.setIfInBounds_toArray, List.set_cons_zero, List.set_cons_succ, List.getElem_toArray, List.getElem_cons_zero, List.getElem_cons_succ]
  refine wpAnyH_take (i := 13) (v := .bool true) rfl (by kernel_rfl) (by kernel_rfl) (by kernel_rfl) (fun _ _ _ h => h) (Or.inl ⟨by rfl, fun w _ => by go_simp⟩) hHeld ?_
  simp only [Act.put, List.setIfInBounds_toArray, List.set_cons_zero, List.set_cons_succ, List.getElem_toArray, List.getElem_cons_zero, List.getElem_cons_succ]
  refine wpAnyH_take (i := 14) (v := .bool true) rfl (by kernel_rfl) (by kernel_rfl) (by kernel_rfl) (fun _ _ _ h => h) (Or.inl ⟨by rfl, fun w _ => by go_simp⟩) hHeld ?_
  simp only [Act.put, List.setIfInBounds_toArray, List.set_cons_zero, List.set_cons_succ, List.getElem_toArray, List.getElem_cons_zero, List.getElem_cons_succ]
  refine wpAnyH_take (i := 15) (v := .int .i64 v) rfl (by kernel_rfl) (by kernel_rfl) (by kernel_rfl) (fun _ _ _ h => h) (Or.inl ⟨by rfl, fun w _ => by go_simp⟩) hHeld ?_
  simp only [Act.put, List.setIfInBounds_toArray, List.set_cons_zero, List.set_cons_succ, List.getElem_toArray, List.getElem_cons_zero, List.getElem_cons_succ]
  refine wpAnyH_take (i := 16) (v := .string s) rfl (by kernel_rfl) (by kernel_rfl) (by kernel_rfl) (fun _ _ _ h => h) (Or.inl ⟨by rfl, fun w _ => by go_simp⟩) hHeld ?_
  simp only [Act.put, List.setIfInBounds_toArray, List.set_cons_zero, List.set_cons_succ, List.getElem_toArray, List.getElem_cons_zero, List.getElem_cons_succ]
  refine wpAnyH_ready (rs := [17]) (by kernel_rfl) (by simp) ?_
  refine AllReadyH.cons (o := _) rfl (fun K hK => ?_) AllReadyH.nil
  go_simp
  refine (HLE.out _).mono ?_
  rintro e w' ⟨rfl, rfl⟩
  go_wp2_with fail
  refine hK.out _ _ hHeld (fun hHeld => ?_)
  clear hK K
  try simp only [Act.put, List.setIfInBounds_toArray, List.set_cons_zero, List.set_cons_succ, List.getElem_toArray, List.getElem_cons_zero, List.getElem_cons_succ]
  refine wpAnyH_take (i := 18) (v := .bool true) rfl (by kernel_rfl) (by kernel_rfl) (by kernel_rfl) (fun _ _ _ h => h) (Or.inl ⟨by rfl, fun w _ => by go_simp⟩) hHeld ?_
  simp only [Act.put, List.setIfInBounds_toArray, List.set_cons_zero, List.set_cons_succ, List.getElem_toArray, List.getElem_cons_zero, List.getElem_cons_succ]
  refine wpAnyH_take (i := 19) (v := .bool true) rfl (by kernel_rfl) (by kernel_rfl) (by kernel_rfl) (fun _ _ _ h => h) (Or.inl ⟨by rfl, fun w _ => by go_simp⟩) hHeld ?_
  simp only [Act.put, List.setIfInBounds_toArray, List.set_cons_zero, List.set_cons_succ, List.getElem_toArray, List.getElem_cons_zero, List.getElem_cons_succ]
  refine wpAnyH_take (i := 20) (v := .bool true) rfl (by kernel_rfl) (by kernel_rfl) (by kernel_rfl) (fun _ _ _ h => h) (Or.inl ⟨by rfl, fun w _ => by go_simp⟩) hHeld ?_
  simp only [Act.put, List.setIfInBounds_toArray, List.set_cons_zero, List.set_cons_succ, List.getElem_toArray, List.getElem_cons_zero, List.getElem_cons_succ]
  refine wpAnyH_take (i := 21) (v := .bool true) rfl (by kernel_rfl) (by kernel_rfl) (by kernel_rfl) (fun _ _ _ h => h) (Or.inl ⟨by rfl, fun w _ => by go_simp⟩) hHeld ?_
  simp only [Act.put, List.setIfInBounds_toArray, List.set_cons_zero, List.set_cons_succ, List.getElem_toArray, List.getElem_cons_zero, List.getElem_cons_succ]
  refine wpAnyH_take (i := 22) (v := .pointer (some ⟨X, 0, none⟩)) rfl (by kernel_rfl) (by kernel_rfl) (by kernel_rfl) (fun _ _ _ h => h) (Or.inl ⟨by rfl, fun w _ => by go_simp⟩) hHeld ?_
  simp only [Act.put, List.setIfInBounds_toArray, List.set_cons_zero, List.set_cons_succ, List.getElem_toArray, List.getElem_cons_zero, List.getElem_cons_succ]
  refine wpAnyH_ready (rs := [23]) (by kernel_rfl) (by simp) ?_
  refine AllReadyH.cons (o := _) rfl (fun K hK => ?_) AllReadyH.nil
  rw [if_pos (by rfl)]
  refine wp_store_mid 105 _ _ rfl (w.heap.size + 1 + 1) 0 (List.toArray ZS) rfl rfl (by have := DO.out.there 0 13 (by simp); simpa [HZL.out] using this) (by rw [List.size_toArray]; exact hi) (all_oneCell_toArray (List.all_eq_true.1 HZO.out)) ?_
  simp only [Act.put, List.setIfInBounds_toArray, List.set_cons_zero, List.set_cons_succ, List.getElem_toArray, List.getElem_cons_zero, List.getElem_cons_succ]
  have hst : Stored w4.drew (w.heap.size + 1 + 1) 0 ZS (w4.drew.setCells (w.heap.size + 1 + 1) 0 ZS) := rfl
  have hO3 := hst.full (T := 105) DO.out.drew HZL.out
  have hOY3 := hst.oth (SO.out.drew) (fun e => by have := l2.out; omega)
  have C3 := Lib.hid (hst.chg CZ2.out.drew (Or.inr (by omega)))
  have HP3 := Lib.hid (Pair.stored (⟨⟨HZ2.out.src.obj.drew, HZ2.out.src.ok, HZ2.out.src.ne⟩, ⟨HZ2.out.led.obj.drew, HZ2.out.led.ok⟩⟩ : Pair w4.drew _ _ _) hst (by omega) (by omega))
  obtain ⟨w9, hw9⟩ : ∃ w9, w4.drew.setCells (w.heap.size + 1 + 1) 0 ZS = w9 := ⟨_, rfl⟩
  rw [hw9] at hO3 hOY3 C3 HP3 ⊢
  clear hst hw9
  refine hK.out _ _ ⟨hOY3.range0, by have := hO3.there 0 13 (by simp [HZL.out]); simpa using this⟩ (fun hHeld2 => ?_)
  refine wpAnyH_take (i := 24) (v := .bool true) rfl (by kernel_rfl) (by kernel_rfl) (by kernel_rfl) (fun _ _ _ h => h) (Or.inl ⟨by rfl, fun w _ => by go_simp⟩) hHeld2 ?_
  simp only [Act.put, List.setIfInBounds_toArray, List.set_cons_zero, List.set_cons_succ, List.getElem_toArray, List.getElem_cons_zero, List.getElem_cons_succ]
  refine wpAnyH_done (by kernel_rfl) ?_ _
  refine NoPanic.normal ?_
  clear hK K
  go_wp2
  refine bodyPost_ret (v := .tuple #[.pointer (some ⟨X, 0, none⟩), .agg ZS.toArray, .bool true]) ?_ rfl ⟨rfl, HP3.out, C3.out⟩
  exact results_tct Try.results65 _ _ _ _ _ rfl hO3.range0 Try.underlying105 rfl hi
end Go.Proofs.Ytobpocdpnkicnaa

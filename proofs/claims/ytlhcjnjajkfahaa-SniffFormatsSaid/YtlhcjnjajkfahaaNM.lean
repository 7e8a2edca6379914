/- SniffStops, walked. -/
import Derived.Test.YtlhcjnjajkfahaaNK
import Derived.Test.YtlhcjnjajkfahaaNL
namespace Go.Proofs.Ytlhcjnjajkfahaa
open Go.RowKit
set_option linter.unusedVariables false
set_option linter.unusedSimpArgs false
attribute [local go_sem] Oper.semAt_some
theorem ownFrom_at {β : Type} {B k : Nat} (o : β → Obj) (hk : k < B) : OwnFrom B (fun s X => X.heap[k]? = some (o s)) := fun s X Y row hs hg hr =>
  (hg.block k (Array.getElem?_eq_some_iff.1 hs).1 (fun e => by have := (hr k e.symm).1; omega)).trans hs
theorem ownFrom_const {β : Type} {B : Nat} (p : β → Prop) : OwnFrom B (fun (s : β) (_ : World) => p s) := fun s X Y row hs hg hr => hs
theorem keepB_of {B : Nat} {cs : Array Value} {T : TypeId} {W W' : World} (h : Obj1 W B cs T) (h' : Obj1 W' B cs T) (hz : W.heap.size ≤ W'.heap.size) : KeepB B W W' := ⟨(show W'.heap[B]? = _ from h').trans (show W.heap[B]? = _ from h).symm, hz⟩
/-- A function that holds ranges over functions is left: its collected calls are none. -/
theorem leaves_1 {F : Fence} {n : Nat} {P : Program} {fn : Func} {t : Tmp} (h : fn.results = #[.tmp t]) {tmps : Array Value} {v : Value} (ht : tmps.getD t undef = v) {w W : World} {D : Nat} (hD : w.heap.size ≤ D) (hK : W.heap[D]? = some (.deferred (some []))) (hL : Below w.heap.size w W)
    {R : Ending → World → Prop} (hR : ∀ W', Below w.heap.size w W' → R (.returned v) W') : LeavesInM F n P fn tmps R [{ target := .collected D, args := #[] }] .returning W := by
  refine ⟨by simp, .inl ⟨_, _, rfl, run_takeDeferred hK, ?_⟩⟩
  exact ⟨v, by rw [results_tmp h, ht], hR _ (hL.trans (belowK_b (w := w) (Nat.le_refl _) W D _ _ hD hK rfl rfl))⟩
theorem leaves_2 {F : Fence} {n : Nat} {P : Program} {fn : Func} {t : Tmp} (h : fn.results = #[.tmp t]) {tmps : Array Value} {v : Value} (ht : tmps.getD t undef = v) {w W : World} {D D2 : Nat} (hD : w.heap.size ≤ D) (hD2 : D < D2) (hK : W.heap[D]? = some (.deferred (some []))) (hK2 : W.heap[D2]? = some (.deferred (some []))) (hL : Below w.heap.size w W)
    {R : Ending → World → Prop} (hR : ∀ W', Below w.heap.size w W' → R (.returned v) W') : LeavesInM F n P fn tmps R [{ target := .collected D2, args := #[] }, { target := .collected D, args := #[] }] .returning W := by
  refine ⟨by simp, .inl ⟨_, _, rfl, run_takeDeferred hK2, ?_⟩⟩
  exact leaves_1 h ht hD ((World.putObj_heap_other (by omega)).trans hK) (hL.trans (belowK_b (w := w) (Nat.le_refl _) W D2 _ _ (by omega) hK2 rfl rfl)) hR
set_option maxRecDepth 100000 in
set_option maxHeartbeats 16000000 in
theorem sstops_law (s : ByteArray) (hs : s.size ≤ maxLen) (w : World) : Calls Try.prog 6 #[.string s] w (Yes30 w) := by
  unfold maxLen at hs
  have hbf : ∀ (g : Nat) (a b : Array Value) (w0 : World), (binOp BinOp.eql 44 (.func (.func g) a b) Value.nilFunc).run Try.prog w0 = .ok (.bool false) w0 := fun _ _ _ _ => rfl
  refine (callsIn_wide (n := 5)).1 ?_
  refine callsIn_of_wp_marks Try.func6 rfl trivial ?_ rfl
  refine wpIn_wide.2 ?_
  simp only [Try.ntmps6, List.size_toArray, List.length_cons, List.length_nil, Nat.reduceAdd, Nat.reduceSub, Array.replicate_succ, Array.replicate_zero, List.push_toArray, List.append_toArray, List.nil_append, List.cons_append]
  by_cases h1 : 3000 < s.size
  · have D1 : decide ((s.size : Int) > 3000) = true := by rw [decide_eq_true_iff]; omega
    go_wp2_with (go_at_call 19; (with_reducible refine (awake30 _).mono ?_); rintro e w1 ⟨rfl, hb⟩)
    exact ⟨.bool true, by rw [results_tmp rfl]; rfl, rfl, hb⟩
  have D1 : decide ((s.size : Int) > 3000) = false := by rw [decide_eq_false_iff_not]; omega
  have HW := Lib.hid (fun w0 => awake30 w0)
  obtain ⟨L, hLL⟩ : ∃ L, allTo s 8 = L := ⟨_, rfl⟩
  have EL := Lib.hid hLL
  have HF := Lib.hid (fun w0 => (show Calls Try.prog 23 #[.string s] w0 (fun e w' => e = .returned (.int .i64 (firstOf L)) ∧ Below w0.heap.size w0 w') from hLL ▸ rformat_any s w0 (by omega)))
  have HA := Lib.hid (fun w0 => (show Calls Try.prog 21 #[.string s] w0 (fun e w' => ∃ v, e = .returned v ∧ w'.ownsRow w0.heap.size 3 1 v L.length (L.map (.int .i64)) ∧ Below w0.heap.size w0 w') from hLL ▸ rall_any s w0 (by omega)))
  have hL8 : L.length ≤ 8 := hLL ▸ allTo_len s 8
  clear hLL
  have O0 := ((obj1_new w #[.string s] 9).alloc (.cells #[.int .i64 0] 3)).alloc (.cells #[.int .i64 0] 3)
  have ON := (obj1_new (w.alloc (.cells #[.string s] 9)) #[.int .i64 0] 3).alloc (.cells #[.int .i64 0] 3)
  have OF := obj1_new ((w.alloc (.cells #[.string s] 9)).alloc (.cells #[.int .i64 0] 3)) #[.int .i64 0] 3
  have BL := (((Below.refl w.heap.size w).alloc (Nat.le_refl _) (.cells #[.string s] 9)).alloc (by simp) (.cells #[.int .i64 0] 3)).alloc (by simp; omega) (.cells #[.int .i64 0] 3)
  simp only [World.size_alloc] at ON OF
  have O0 := Lib.hid O0
  have ON := Lib.hid ON
  have OF := Lib.hid OF
  have BL := Lib.hid BL
  go_wp2_with (go_at_call 20; (with_reducible refine (sall_any s _).mono ?_); rintro e w1 ⟨rfl, rfl⟩)
  generalize World.alloc _ _ = W1 at O0 ON OF BL ⊢
  have lF := OF.out.lt
  refine (wpIn_wide (n := 5)).1 ?_
  refine wpIn_rangeFunc_ownF (F := Fence.wide) (n := 5) rfl (by omega) (gf := 51) (lb := #[.pointer (some ⟨w.heap.size, 0, none⟩)]) (by first | rfl | simp) trivial (enters_of Try.func51 (by kernel_rfl) rfl)
    (all_stops s (by omega) _ w.heap.size _ (by omega) ((O0.out.cell 0).trans rfl)) keepB_t (keepB_b (by omega)) (Below.refl _ _) (fun _ => rfl)
    (fun pre X => pre = [] ∧ ((Obj1 X w.heap.size #[.string s] 9 ∧ Obj1 X (w.heap.size + 1) #[.int .i64 0] 3 ∧ Obj1 X (w.heap.size + 1 + 1) #[.int .i64 0] 3) ∧ Below w.heap.size w X)) (fun c pre X => c = .exit 0 ∧ (∃ f, pre = [f] ∧ ((Obj1 X w.heap.size #[.string s] 9 ∧ Obj1 X (w.heap.size + 1) #[.int .i64 1] 3 ∧ Obj1 X (w.heap.size + 1 + 1) #[.int .i64 f] 3) ∧ Below w.heap.size w X))) ?hI ?hIx ⟨rfl, ⟨O0.out, ON.out, OF.out⟩, BL.out⟩ ?a1 ?assign ?body ?done ?stop
  case hI => exact OwnFrom.and (ownFrom_const _) (OwnFrom.and (OwnFrom.and (ownFrom_at (fun _ => .cells #[.string s] 9 (0, 0)) (by omega)) (OwnFrom.and (ownFrom_at (fun _ => .cells #[.int .i64 0] 3 (0, 0)) (by omega)) (ownFrom_at (fun _ => .cells #[.int .i64 0] 3 (0, 0)) (by omega)))) (ownFrom_below (Nat.le_refl _) (by omega)))
  case hIx =>
    rintro c pre X Y row ⟨hc, f, hp, ⟨h0, hn, hf⟩, hL⟩ hg hr
    exact ⟨hc, f, hp, ⟨ownFrom_at (β := Unit) (B := W1.heap.size) (fun _ => .cells #[.string s] 9 (0, 0)) (by omega) () X Y row h0 hg hr, ownFrom_at (β := Unit) (B := W1.heap.size) (fun _ => .cells #[.int .i64 1] 3 (0, 0)) (by omega) () X Y row hn hg hr, ownFrom_at (β := Unit) (B := W1.heap.size) (fun _ => .cells #[.int .i64 f] 3 (0, 0)) (by omega) () X Y row hf hg hr⟩, ownFrom_below (β := Unit) (Nat.le_refl _) (by omega) () X Y row hL hg hr⟩
  case assign =>
    intro l x X K hK
    gi_wp2
    exact hK
  case body =>
    rintro l pre x X ⟨rfl, ⟨h0, hn, hf⟩, hL⟩ _
    have c1 : X.cell? ⟨w.heap.size + 1, 0, none⟩ = some (.int .i64 0) := (hn.cell 0).trans rfl
    have f1 : X.frozen? ⟨w.heap.size + 1, 0, none⟩ = false := hn.frozen 0
    have c2 : X.cell? ⟨w.heap.size + 1 + 1, 0, none⟩ = some (.int .i64 0) := (hf.cell 0).trans rfl
    have f2 : X.frozen? ⟨w.heap.size + 1 + 1, 0, none⟩ = false := hf.frozen 0
    have H0 := Lib.hid h0
    have HN := Lib.hid hn
    have HFF := Lib.hid hf
    have HL := Lib.hid hL
    clear h0 hn hf hL
    gi_wp2
    exact ⟨(KeepsOthers.setCell _ _ _).trans (KeepsOthers.setCell _ _ _), rfl, x, rfl, ⟨(H0.out.set_other _ _ (by first | (simp; done) | (simp; omega))).set_other _ _ (by first | (simp; done) | (simp; omega)), ((HN.out.set 0 _).cells (by simp)).set_other _ _ (by simp), ((HFF.out.set_other _ _ (by simp)).set 0 _).cells (by simp)⟩, (HL.out.setCell (p := ⟨w.heap.size + 1, 0, none⟩) (by simp) _).setCell (p := ⟨w.heap.size + 1 + 1, 0, none⟩) (by simp; omega) _⟩
  case done =>
    rintro D ys W hD hys ⟨hp, ⟨h0, hn, hf⟩, hL⟩ hK
    obtain rfl : L = [] := by rw [← EL.out, ← hys, hp]
    have HF := Lib.hid (fun w0 => (show Calls Try.prog 23 #[.string s] w0 (fun e w' => e = .returned (.int .i64 0) ∧ Below w0.heap.size w0 w') from HF.out w0))
    clear hp hys O0 ON OF BL
    have O0 := Lib.hid (h0.alloc (.cells #[.int .i64 0] 3))
    have ON := Lib.hid (hn.alloc (.cells #[.int .i64 0] 3))
    have OF := Lib.hid (hf.alloc (.cells #[.int .i64 0] 3))
    have OM := Lib.hid (obj1_new W #[.int .i64 0] 3)
    have KD := Lib.hid ((Below.heap_alloc W (.cells #[.int .i64 0] 3) D (Array.getElem?_eq_some_iff.1 hK).1).trans hK)
    have BL := Lib.hid (hL.alloc hL.size (.cells #[.int .i64 0] 3))
    have lD := (Array.getElem?_eq_some_iff.1 hK).1
    have zD := hL.size
    have zD2 := hD
    have l0 := hf.lt
    clear h0 hn hf hK hL hD
    go_wp2_with fail
    obtain ⟨b7, hb7⟩ : ∃ k, W.heap.size = k := ⟨_, rfl⟩
    have w2z : (W.alloc (.cells #[.int .i64 0] 3)).heap.size = b7 + 1 := by rw [← hb7]; simp
    rw [hb7] at OM lD l0 ⊢
    clear hb7
    generalize World.alloc W _ = W2 at O0 ON OF OM KD BL w2z ⊢
    refine (wpIn_wide (n := 5)).1 ?_
    refine wpIn_rangeFunc_ownF (F := Fence.wide) (n := 5) rfl (by omega) (gf := 51) (lb := #[.pointer (some ⟨w.heap.size, 0, none⟩)]) (by first | rfl | simp) trivial (enters_of Try.func51 (by kernel_rfl) rfl)
      (all_stops s (by omega) _ w.heap.size _ (by omega) ((O0.out.cell 0).trans rfl)) keepB_t (keepB_b (by omega)) (Below.refl _ _) (fun _ => rfl)
      (fun pre X => ((Obj1 X w.heap.size #[.string s] 9 ∧ Obj1 X (w.heap.size + 1) #[.int .i64 0] 3 ∧ Obj1 X (w.heap.size + 1 + 1) #[.int .i64 0] 3) ∧ (Obj1 X b7 #[.int .i64 (pre.length : Int)] 3 ∧ X.heap[D]? = some (.deferred (some [])))) ∧ Below w.heap.size w X) (fun _ _ _ => False) ?hI2x ?hIx2x ⟨⟨⟨O0.out, ON.out, OF.out⟩, OM.out, KD.out⟩, BL.out⟩ ?a2x ?assign2x ?body2x ?done2x ?stop2x
    case hI2x => exact OwnFrom.and (OwnFrom.and (OwnFrom.and (ownFrom_at (fun _ => .cells #[.string s] 9 (0, 0)) (by omega)) (OwnFrom.and (ownFrom_at (fun _ => .cells #[.int .i64 0] 3 (0, 0)) (by omega)) (ownFrom_at (fun _ => .cells #[.int .i64 0] 3 (0, 0)) (by omega)))) (OwnFrom.and (ownFrom_at (fun pre : List Int => .cells #[.int .i64 (pre.length : Int)] 3 (0, 0)) (by omega)) (ownFrom_at (fun _ => .deferred (some [])) (by omega)))) (ownFrom_below (Nat.le_refl _) (by omega))
    case hIx2x => exact fun c s X Y row hs hg hr => hs
    case assign2x =>
      intro l x X K hK
      gi_wp2
      exact hK
    case stop2x =>
      rintro D2 c pre X hD2 hp h hK2
      exact h.elim
    case body2x =>
      rintro l pre x X ⟨⟨⟨h0, hn, hf⟩, hm, hK⟩, hL⟩ hlen
      have c7 : X.cell? ⟨b7, 0, none⟩ = some (.int .i64 (pre.length : Int)) := (hm.cell 0).trans rfl
      have f7 : X.frozen? ⟨b7, 0, none⟩ = false := hm.frozen 0
      have M := Lib.hid hm
      have H0 := Lib.hid h0
      have HN := Lib.hid hn
      have HFF := Lib.hid hf
      have HKD := Lib.hid hK
      have HL := Lib.hid hL
      clear h0 hn hf hm hK hL
      gi_wp2
      have e0 := H0.out.set_other ⟨b7, 0, none⟩ (.int .i64 ((pre.length : Int) + 1)) (by simp; omega)
      exact ⟨KeepsOthers.setCell _ _ _, keepB_of H0.out e0 (by simp [World.setCell]), ⟨⟨e0, HN.out.set_other _ _ (by simp; omega), HFF.out.set_other _ _ (by simp; omega)⟩, (M.out.set 0 _).cells (by simp), (Below.heap_setCell _ _ _ _ (by simp; omega)).trans HKD.out⟩, HL.out.setCell (p := ⟨b7, 0, none⟩) (by simp; omega) _⟩
    case done2x =>
      rintro D2 ys X hD2 hys ⟨⟨⟨h0, hn, hf⟩, hm, hK⟩, hL⟩ hK2
      rw [hys, EL.out] at hm
      have O0 := Lib.hid h0
      have ON := Lib.hid hn
      have OF := Lib.hid hf
      have OM := Lib.hid (hm.cells (show _ = #[.int .i64 (0 : Int)] by simp))
      have KD := Lib.hid hK
      have KD2 := Lib.hid hK2
      have BL := Lib.hid hL
      clear h0 hn hf hm hK hL hK2
      go_upto_region 14 with (fail)
      refine wp_region_noPanic ?_
      refine wp_region_held_drew (S := fun X' => Obj1 X' (w.heap.size + 1) #[.int .i64 0] 3 ∧ Obj1 X' (w.heap.size + 1 + 1) #[.int .i64 0] 3 ∧ Obj1 X' b7 #[.int .i64 0] 3) (by kernel_rfl) ⟨ON.out, OF.out, OM.out⟩ (fun hHeld => ?_)
      refine wpAnyH_take (i := 0) (v := .int .i64 0) rfl (by kernel_rfl) (by kernel_rfl) (by kernel_rfl) (fun _ _ _ h => h) (Or.inl ⟨by rfl, fun w hS => by have h1 := (hS.1.cell 0).trans rfl; go_simp⟩) hHeld ?_
      simp only [Act.put, List.setIfInBounds_toArray, List.set_cons_zero, List.set_cons_succ, List.getElem_toArray, List.getElem_cons_zero, List.getElem_cons_succ]
      refine wpAnyH_take (i := 1) (v := .int .i64 0) rfl (by kernel_rfl) (by kernel_rfl) (by kernel_rfl) (fun _ _ _ h => h) (Or.inl ⟨by rfl, fun w hS => by have h1 := (hS.2.2.cell 0).trans rfl; go_simp⟩) hHeld ?_
      simp only [Act.put, List.setIfInBounds_toArray, List.set_cons_zero, List.set_cons_succ, List.getElem_toArray, List.getElem_cons_zero, List.getElem_cons_succ]
      refine wpAnyH_take (i := 2) (v := .int .i64 0) rfl (by kernel_rfl) (by kernel_rfl) (by kernel_rfl) (fun _ _ _ h => h) (Or.inl ⟨by rfl, fun w _ => by go_simp <;> (intro hh; omega)⟩) hHeld ?_
      simp only [Act.put, List.setIfInBounds_toArray, List.set_cons_zero, List.set_cons_succ, List.getElem_toArray, List.getElem_cons_zero, List.getElem_cons_succ]
      refine wpAnyH_take (i := 3) (v := .bool true) rfl (by kernel_rfl) (by kernel_rfl) (by kernel_rfl) (fun _ _ _ h => h) (Or.inl ⟨by rfl, fun w hS => by go_simp⟩) hHeld ?_
      simp only [Act.put, List.setIfInBounds_toArray, List.set_cons_zero, List.set_cons_succ, List.getElem_toArray, List.getElem_cons_zero, List.getElem_cons_succ]
      refine wpAnyH_take (i := 4) (v := .bool true) rfl (by kernel_rfl) (by kernel_rfl) (by kernel_rfl) (fun _ _ _ h => h) (Or.inl ⟨by rfl, fun w hS => by go_simp⟩) hHeld ?_
      simp only [Act.put, List.setIfInBounds_toArray, List.set_cons_zero, List.set_cons_succ, List.getElem_toArray, List.getElem_cons_zero, List.getElem_cons_succ]
      refine wpAnyH_take (i := 5) (v := .int .i64 0) rfl (by kernel_rfl) (by kernel_rfl) (by kernel_rfl) (fun _ _ _ h => h) (Or.inl ⟨by rfl, fun w hS => by have h1 := (hS.2.1.cell 0).trans rfl; go_simp⟩) hHeld ?_
      simp only [Act.put, List.setIfInBounds_toArray, List.set_cons_zero, List.set_cons_succ, List.getElem_toArray, List.getElem_cons_zero, List.getElem_cons_succ]
      refine wpAnyH_take (i := 6) (v := .string s) rfl (by kernel_rfl) (by kernel_rfl) (by kernel_rfl) (fun _ _ _ h => h) (Or.inl ⟨by rfl, fun w hS => by go_simp⟩) hHeld ?_
      simp only [Act.put, List.setIfInBounds_toArray, List.set_cons_zero, List.set_cons_succ, List.getElem_toArray, List.getElem_cons_zero, List.getElem_cons_succ]
      have ON := Lib.hid (ON.out.drew)
      have OF := Lib.hid (OF.out.drew)
      have OM := Lib.hid (OM.out.drew)
      have BL := Lib.hid (BL.out.drew)
      have KD := Lib.hid (show (World.drew _).heap[D]? = _ from KD.out)
      have KD2 := Lib.hid (show (World.drew _).heap[D2]? = _ from KD2.out)
      refine wpAnyH_ready (rs := [7]) (by kernel_rfl) (by simp) ?_
      refine AllReadyH.cons (o := _) rfl (fun K' hK => ?_) AllReadyH.nil
      go_simp
      refine (HF.out _).mono ?_
      rintro x wq ⟨rfl, hb⟩
      have ON := Lib.hid (ON.out.below hb ON.out.lt)
      have OF := Lib.hid (OF.out.below hb OF.out.lt)
      have OM := Lib.hid (OM.out.below hb OM.out.lt)
      have BL := Lib.hid (bthen hb BL.out BL.out.size)
      have KD := Lib.hid ((hb.block _ (Array.getElem?_eq_some_iff.1 KD.out).1).trans KD.out)
      have KD2 := Lib.hid ((hb.block _ (Array.getElem?_eq_some_iff.1 KD2.out).1).trans KD2.out)
      clear hb
      go_wp2_with fail
      refine hK _ _ ⟨ON.out, OF.out, OM.out⟩ (fun hC1 => ?_)
      clear hK K'
      try simp only [Act.put, List.setIfInBounds_toArray, List.set_cons_zero, List.set_cons_succ, List.getElem_toArray, List.getElem_cons_zero, List.getElem_cons_succ]
      refine wpAnyH_take (i := 8) (v := .bool true) rfl (by kernel_rfl) (by kernel_rfl) (by kernel_rfl) (fun _ _ _ h => h) (Or.inl ⟨by rfl, fun w hS => by go_simp⟩) hC1 ?_
      simp only [Act.put, List.setIfInBounds_toArray, List.set_cons_zero, List.set_cons_succ, List.getElem_toArray, List.getElem_cons_zero, List.getElem_cons_succ]
      refine wpAnyH_take (i := 9) (v := .bool true) rfl (by kernel_rfl) (by kernel_rfl) (by kernel_rfl) (fun _ _ _ h => h) (Or.inl ⟨by rfl, fun w hS => by go_simp⟩) hC1 ?_
      simp only [Act.put, List.setIfInBounds_toArray, List.set_cons_zero, List.set_cons_succ, List.getElem_toArray, List.getElem_cons_zero, List.getElem_cons_succ]
      refine wpAnyH_take (i := 10) (v := .bool true) rfl (by kernel_rfl) (by kernel_rfl) (by kernel_rfl) (fun _ _ _ h => h) (Or.inl ⟨by rfl, fun w hS => by go_simp⟩) hC1 ?_
      simp only [Act.put, List.setIfInBounds_toArray, List.set_cons_zero, List.set_cons_succ, List.getElem_toArray, List.getElem_cons_zero, List.getElem_cons_succ]
      refine wpAnyH_take (i := 11) (v := .int .i64 0) rfl (by kernel_rfl) (by kernel_rfl) (by kernel_rfl) (fun _ _ _ h => h) (Or.inl ⟨by rfl, fun w hS => by have h1 := (hS.2.2.cell 0).trans rfl; go_simp⟩) hC1 ?_
      simp only [Act.put, List.setIfInBounds_toArray, List.set_cons_zero, List.set_cons_succ, List.getElem_toArray, List.getElem_cons_zero, List.getElem_cons_succ]
      refine wpAnyH_take (i := 12) (v := .string s) rfl (by kernel_rfl) (by kernel_rfl) (by kernel_rfl) (fun _ _ _ h => h) (Or.inl ⟨by rfl, fun w hS => by go_simp⟩) hC1 ?_
      simp only [Act.put, List.setIfInBounds_toArray, List.set_cons_zero, List.set_cons_succ, List.getElem_toArray, List.getElem_cons_zero, List.getElem_cons_succ]
      refine wpAnyH_ready (rs := [13]) (by kernel_rfl) (by simp) ?_
      refine AllReadyH.cons (o := _) rfl (fun K' hK => ?_) AllReadyH.nil
      go_simp
      refine (HA.out _).mono ?_
      rintro x wq ⟨v, rfl, hown, hb⟩
      have ON := Lib.hid (ON.out.below hb ON.out.lt)
      have OF := Lib.hid (OF.out.below hb OF.out.lt)
      have OM := Lib.hid (OM.out.below hb OM.out.lt)
      have BL := Lib.hid (bthen hb BL.out BL.out.size)
      have KD := Lib.hid ((hb.block _ (Array.getElem?_eq_some_iff.1 KD.out).1).trans KD.out)
      have KD2 := Lib.hid ((hb.block _ (Array.getElem?_eq_some_iff.1 KD2.out).1).trans KD2.out)
      obtain ⟨va, vc, rfl⟩ := owns_shape hown
      clear hown
      clear hb
      go_wp2_with fail
      refine hK _ _ ⟨ON.out, OF.out, OM.out⟩ (fun hC2 => ?_)
      clear hK K'
      try simp only [Act.put, List.setIfInBounds_toArray, List.set_cons_zero, List.set_cons_succ, List.getElem_toArray, List.getElem_cons_zero, List.getElem_cons_succ]
      refine wpAnyH_take (i := 14) (v := .int .i64 0) rfl (by kernel_rfl) (by kernel_rfl) (by kernel_rfl) (fun _ _ _ h => h) (Or.inl ⟨by rfl, fun w hS => by go_simp⟩) hC2 ?_
      simp only [Act.put, List.setIfInBounds_toArray, List.set_cons_zero, List.set_cons_succ, List.getElem_toArray, List.getElem_cons_zero, List.getElem_cons_succ]
      refine wpAnyH_take (i := 15) (v := .bool true) rfl (by kernel_rfl) (by kernel_rfl) (by kernel_rfl) (fun _ _ _ h => h) (Or.inl ⟨by rfl, fun w hS => by go_simp⟩) hC2 ?_
      simp only [Act.put, List.setIfInBounds_toArray, List.set_cons_zero, List.set_cons_succ, List.getElem_toArray, List.getElem_cons_zero, List.getElem_cons_succ]
      refine wpAnyH_take (i := 16) (v := .bool true) rfl (by kernel_rfl) (by kernel_rfl) (by kernel_rfl) (fun _ _ _ h => h) (Or.inl ⟨by rfl, fun w hS => by go_simp⟩) hC2 ?_
      simp only [Act.put, List.setIfInBounds_toArray, List.set_cons_zero, List.set_cons_succ, List.getElem_toArray, List.getElem_cons_zero, List.getElem_cons_succ]
      refine wpAnyH_take (i := 17) (v := .bool true) rfl (by kernel_rfl) (by kernel_rfl) (by kernel_rfl) (fun _ _ _ h => h) (Or.inl ⟨by rfl, fun w hS => by go_simp⟩) hC2 ?_
      simp only [Act.put, List.setIfInBounds_toArray, List.set_cons_zero, List.set_cons_succ, List.getElem_toArray, List.getElem_cons_zero, List.getElem_cons_succ]
      refine wpAnyH_ready (rs := [18]) (by kernel_rfl) (by simp) ?_
      refine AllReadyH.cons (o := _) rfl (fun K' hK => ?_) AllReadyH.nil
      go_simp
      refine (HW.out _).mono ?_
      rintro x wq ⟨rfl, hb⟩
      have ON := Lib.hid (ON.out.below hb ON.out.lt)
      have OF := Lib.hid (OF.out.below hb OF.out.lt)
      have OM := Lib.hid (OM.out.below hb OM.out.lt)
      have BL := Lib.hid (bthen hb BL.out BL.out.size)
      have KD := Lib.hid ((hb.block _ (Array.getElem?_eq_some_iff.1 KD.out).1).trans KD.out)
      have KD2 := Lib.hid ((hb.block _ (Array.getElem?_eq_some_iff.1 KD2.out).1).trans KD2.out)
      clear hb
      go_wp2_with fail
      refine hK _ _ ⟨ON.out, OF.out, OM.out⟩ (fun hC3 => ?_)
      clear hK K'
      try simp only [Act.put, List.setIfInBounds_toArray, List.set_cons_zero, List.set_cons_succ, List.getElem_toArray, List.getElem_cons_zero, List.getElem_cons_succ]
      refine wpAnyH_take (i := 19) (v := .bool true) rfl (by kernel_rfl) (by kernel_rfl) (by kernel_rfl) (fun _ _ _ h => h) (Or.inl ⟨by rfl, fun w hS => by go_simp⟩) hC3 ?_
      simp only [Act.put, List.setIfInBounds_toArray, List.set_cons_zero, List.set_cons_succ, List.getElem_toArray, List.getElem_cons_zero, List.getElem_cons_succ]
      refine wpAnyH_take (i := 20) (v := .bool true) rfl (by kernel_rfl) (by kernel_rfl) (by kernel_rfl) (fun _ _ _ h => h) (Or.inl ⟨by rfl, fun w hS => by go_simp⟩) hC3 ?_
      simp only [Act.put, List.setIfInBounds_toArray, List.set_cons_zero, List.set_cons_succ, List.getElem_toArray, List.getElem_cons_zero, List.getElem_cons_succ]
      refine wpAnyH_done (by kernel_rfl) ?_ _
      refine NoPanic.normal ?_
      go_wp2_with fail
      exact leaves_2 rfl (by rfl) (by omega) (by omega) KD.out KD2.out BL.out (fun W' hb => ⟨rfl, hb⟩)
  case stop =>
    rintro D c pre W hD ⟨hp, hne⟩ ⟨rfl, f, rfl, ⟨h0, hn, hf⟩, hL⟩ hK
    rw [EL.out] at hp
    obtain ⟨t, rfl⟩ := hp
    refine wpIn_wide.2 ?_
    have HF := Lib.hid (fun w0 => (show Calls Try.prog 23 #[.string s] w0 (fun e w' => e = .returned (.int .i64 f) ∧ Below w0.heap.size w0 w') from HF.out w0))
    obtain ⟨m, hm⟩ : ∃ m : Nat, ([f] ++ t).length = m + 1 := ⟨t.length, by simp⟩
    rw [hm] at HA hL8
    have EL := Lib.hid (show (allTo s 8).length = m + 1 by rw [EL.out, hm])
    clear hm hne O0 ON OF BL
    have O0 := Lib.hid (h0.alloc (.cells #[.int .i64 0] 3))
    have ON := Lib.hid (hn.alloc (.cells #[.int .i64 0] 3))
    have OF := Lib.hid (hf.alloc (.cells #[.int .i64 0] 3))
    have OM := Lib.hid (obj1_new W #[.int .i64 0] 3)
    have KD := Lib.hid ((Below.heap_alloc W (.cells #[.int .i64 0] 3) D (Array.getElem?_eq_some_iff.1 hK).1).trans hK)
    have BL := Lib.hid (hL.alloc hL.size (.cells #[.int .i64 0] 3))
    have lD := (Array.getElem?_eq_some_iff.1 hK).1
    have zD := hL.size
    have zD2 := hD
    have l0 := hf.lt
    clear h0 hn hf hK hL hD
    go_wp2_with fail
    obtain ⟨b7, hb7⟩ : ∃ k, W.heap.size = k := ⟨_, rfl⟩
    have w2z : (W.alloc (.cells #[.int .i64 0] 3)).heap.size = b7 + 1 := by rw [← hb7]; simp
    rw [hb7] at OM lD l0 ⊢
    clear hb7
    generalize World.alloc W _ = W2 at O0 ON OF OM KD BL w2z ⊢
    refine (wpIn_wide (n := 5)).1 ?_
    refine wpIn_rangeFunc_ownF (F := Fence.wide) (n := 5) rfl (by omega) (gf := 51) (lb := #[.pointer (some ⟨w.heap.size, 0, none⟩)]) (by first | rfl | simp) trivial (enters_of Try.func51 (by kernel_rfl) rfl)
      (all_stops s (by omega) _ w.heap.size _ (by omega) ((O0.out.cell 0).trans rfl)) keepB_t (keepB_b (by omega)) (Below.refl _ _) (fun _ => rfl)
      (fun pre X => ((Obj1 X w.heap.size #[.string s] 9 ∧ Obj1 X (w.heap.size + 1) #[.int .i64 1] 3 ∧ Obj1 X (w.heap.size + 1 + 1) #[.int .i64 f] 3) ∧ (Obj1 X b7 #[.int .i64 (pre.length : Int)] 3 ∧ X.heap[D]? = some (.deferred (some [])))) ∧ Below w.heap.size w X) (fun _ _ _ => False) ?hI2y ?hIx2y ⟨⟨⟨O0.out, ON.out, OF.out⟩, OM.out, KD.out⟩, BL.out⟩ ?a2y ?assign2y ?body2y ?done2y ?stop2y
    case hI2y => exact OwnFrom.and (OwnFrom.and (OwnFrom.and (ownFrom_at (fun _ => .cells #[.string s] 9 (0, 0)) (by omega)) (OwnFrom.and (ownFrom_at (fun _ => .cells #[.int .i64 1] 3 (0, 0)) (by omega)) (ownFrom_at (fun _ => .cells #[.int .i64 f] 3 (0, 0)) (by omega)))) (OwnFrom.and (ownFrom_at (fun pre : List Int => .cells #[.int .i64 (pre.length : Int)] 3 (0, 0)) (by omega)) (ownFrom_at (fun _ => .deferred (some [])) (by omega)))) (ownFrom_below (Nat.le_refl _) (by omega))
    case hIx2y => exact fun c s X Y row hs hg hr => hs
    case assign2y =>
      intro l x X K hK
      gi_wp2
      exact hK
    case stop2y =>
      rintro D2 c pre X hD2 hp h hK2
      exact h.elim
    case body2y =>
      rintro l pre x X ⟨⟨⟨h0, hn, hf⟩, hm, hK⟩, hL⟩ hlen
      have c7 : X.cell? ⟨b7, 0, none⟩ = some (.int .i64 (pre.length : Int)) := (hm.cell 0).trans rfl
      have f7 : X.frozen? ⟨b7, 0, none⟩ = false := hm.frozen 0
      have M := Lib.hid hm
      have H0 := Lib.hid h0
      have HN := Lib.hid hn
      have HFF := Lib.hid hf
      have HKD := Lib.hid hK
      have HL := Lib.hid hL
      clear h0 hn hf hm hK hL
      gi_wp2
      have e0 := H0.out.set_other ⟨b7, 0, none⟩ (.int .i64 ((pre.length : Int) + 1)) (by simp; omega)
      exact ⟨KeepsOthers.setCell _ _ _, keepB_of H0.out e0 (by simp [World.setCell]), ⟨⟨e0, HN.out.set_other _ _ (by simp; omega), HFF.out.set_other _ _ (by simp; omega)⟩, (M.out.set 0 _).cells (by simp), (Below.heap_setCell _ _ _ _ (by simp; omega)).trans HKD.out⟩, HL.out.setCell (p := ⟨b7, 0, none⟩) (by simp; omega) _⟩
    case done2y =>
      rintro D2 ys X hD2 hys ⟨⟨⟨h0, hn, hf⟩, hm, hK⟩, hL⟩ hK2
      rw [hys, EL.out] at hm
      have O0 := Lib.hid h0
      have ON := Lib.hid hn
      have OF := Lib.hid hf
      have OM := Lib.hid (hm.cells (show _ = #[.int .i64 (((m + 1 : Nat) : Int) : Int)] by simp))
      have KD := Lib.hid hK
      have KD2 := Lib.hid hK2
      have BL := Lib.hid hL
      clear h0 hn hf hm hK hL hK2
      go_upto_region 14 with (fail)
      refine wp_region_noPanic ?_
      refine wp_region_held_drew (S := fun X' => Obj1 X' (w.heap.size + 1) #[.int .i64 1] 3 ∧ Obj1 X' (w.heap.size + 1 + 1) #[.int .i64 f] 3 ∧ Obj1 X' b7 #[.int .i64 ((m + 1 : Nat) : Int)] 3) (by kernel_rfl) ⟨ON.out, OF.out, OM.out⟩ (fun hHeld => ?_)
      refine wpAnyH_take (i := 0) (v := .int .i64 1) rfl (by kernel_rfl) (by kernel_rfl) (by kernel_rfl) (fun _ _ _ h => h) (Or.inl ⟨by rfl, fun w hS => by have h1 := (hS.1.cell 0).trans rfl; go_simp⟩) hHeld ?_
      simp only [Act.put, List.setIfInBounds_toArray, List.set_cons_zero, List.set_cons_succ, List.getElem_toArray, List.getElem_cons_zero, List.getElem_cons_succ]
      refine wpAnyH_take (i := 1) (v := .int .i64 ((m + 1 : Nat) : Int)) rfl (by kernel_rfl) (by kernel_rfl) (by kernel_rfl) (fun _ _ _ h => h) (Or.inl ⟨by rfl, fun w hS => by have h1 := (hS.2.2.cell 0).trans rfl; go_simp⟩) hHeld ?_
      simp only [Act.put, List.setIfInBounds_toArray, List.set_cons_zero, List.set_cons_succ, List.getElem_toArray, List.getElem_cons_zero, List.getElem_cons_succ]
      refine wpAnyH_take (i := 2) (v := .int .i64 1) rfl (by kernel_rfl) (by kernel_rfl) (by kernel_rfl) (fun _ _ _ h => h) (Or.inl ⟨by rfl, fun w _ => by go_simp <;> (intro hh; omega)⟩) hHeld ?_
      simp only [Act.put, List.setIfInBounds_toArray, List.set_cons_zero, List.set_cons_succ, List.getElem_toArray, List.getElem_cons_zero, List.getElem_cons_succ]
      refine wpAnyH_take (i := 3) (v := .bool true) rfl (by kernel_rfl) (by kernel_rfl) (by kernel_rfl) (fun _ _ _ h => h) (Or.inl ⟨by rfl, fun w hS => by go_simp⟩) hHeld ?_
      simp only [Act.put, List.setIfInBounds_toArray, List.set_cons_zero, List.set_cons_succ, List.getElem_toArray, List.getElem_cons_zero, List.getElem_cons_succ]
      refine wpAnyH_take (i := 4) (v := .bool true) rfl (by kernel_rfl) (by kernel_rfl) (by kernel_rfl) (fun _ _ _ h => h) (Or.inl ⟨by rfl, fun w hS => by go_simp⟩) hHeld ?_
      simp only [Act.put, List.setIfInBounds_toArray, List.set_cons_zero, List.set_cons_succ, List.getElem_toArray, List.getElem_cons_zero, List.getElem_cons_succ]
      refine wpAnyH_take (i := 5) (v := .int .i64 f) rfl (by kernel_rfl) (by kernel_rfl) (by kernel_rfl) (fun _ _ _ h => h) (Or.inl ⟨by rfl, fun w hS => by have h1 := (hS.2.1.cell 0).trans rfl; go_simp⟩) hHeld ?_
      simp only [Act.put, List.setIfInBounds_toArray, List.set_cons_zero, List.set_cons_succ, List.getElem_toArray, List.getElem_cons_zero, List.getElem_cons_succ]
      refine wpAnyH_take (i := 6) (v := .string s) rfl (by kernel_rfl) (by kernel_rfl) (by kernel_rfl) (fun _ _ _ h => h) (Or.inl ⟨by rfl, fun w hS => by go_simp⟩) hHeld ?_
      simp only [Act.put, List.setIfInBounds_toArray, List.set_cons_zero, List.set_cons_succ, List.getElem_toArray, List.getElem_cons_zero, List.getElem_cons_succ]
      have ON := Lib.hid (ON.out.drew)
      have OF := Lib.hid (OF.out.drew)
      have OM := Lib.hid (OM.out.drew)
      have BL := Lib.hid (BL.out.drew)
      have KD := Lib.hid (show (World.drew _).heap[D]? = _ from KD.out)
      have KD2 := Lib.hid (show (World.drew _).heap[D2]? = _ from KD2.out)
      refine wpAnyH_ready (rs := [7]) (by kernel_rfl) (by simp) ?_
      refine AllReadyH.cons (o := _) rfl (fun K' hK => ?_) AllReadyH.nil
      go_simp
      refine (HF.out _).mono ?_
      rintro x wq ⟨rfl, hb⟩
      have ON := Lib.hid (ON.out.below hb ON.out.lt)
      have OF := Lib.hid (OF.out.below hb OF.out.lt)
      have OM := Lib.hid (OM.out.below hb OM.out.lt)
      have BL := Lib.hid (bthen hb BL.out BL.out.size)
      have KD := Lib.hid ((hb.block _ (Array.getElem?_eq_some_iff.1 KD.out).1).trans KD.out)
      have KD2 := Lib.hid ((hb.block _ (Array.getElem?_eq_some_iff.1 KD2.out).1).trans KD2.out)
      clear hb
      go_wp2_with fail
      refine hK _ _ ⟨ON.out, OF.out, OM.out⟩ (fun hC1 => ?_)
      clear hK K'
      try simp only [Act.put, List.setIfInBounds_toArray, List.set_cons_zero, List.set_cons_succ, List.getElem_toArray, List.getElem_cons_zero, List.getElem_cons_succ]
      refine wpAnyH_take (i := 8) (v := .bool true) rfl (by kernel_rfl) (by kernel_rfl) (by kernel_rfl) (fun _ _ _ h => h) (Or.inl ⟨by rfl, fun w hS => by go_simp⟩) hC1 ?_
      simp only [Act.put, List.setIfInBounds_toArray, List.set_cons_zero, List.set_cons_succ, List.getElem_toArray, List.getElem_cons_zero, List.getElem_cons_succ]
      refine wpAnyH_take (i := 9) (v := .bool true) rfl (by kernel_rfl) (by kernel_rfl) (by kernel_rfl) (fun _ _ _ h => h) (Or.inl ⟨by rfl, fun w hS => by go_simp⟩) hC1 ?_
      simp only [Act.put, List.setIfInBounds_toArray, List.set_cons_zero, List.set_cons_succ, List.getElem_toArray, List.getElem_cons_zero, List.getElem_cons_succ]
      refine wpAnyH_take (i := 10) (v := .bool true) rfl (by kernel_rfl) (by kernel_rfl) (by kernel_rfl) (fun _ _ _ h => h) (Or.inl ⟨by rfl, fun w hS => by go_simp⟩) hC1 ?_
      simp only [Act.put, List.setIfInBounds_toArray, List.set_cons_zero, List.set_cons_succ, List.getElem_toArray, List.getElem_cons_zero, List.getElem_cons_succ]
      refine wpAnyH_take (i := 11) (v := .int .i64 ((m + 1 : Nat) : Int)) rfl (by kernel_rfl) (by kernel_rfl) (by kernel_rfl) (fun _ _ _ h => h) (Or.inl ⟨by rfl, fun w hS => by have h1 := (hS.2.2.cell 0).trans rfl; go_simp⟩) hC1 ?_
      simp only [Act.put, List.setIfInBounds_toArray, List.set_cons_zero, List.set_cons_succ, List.getElem_toArray, List.getElem_cons_zero, List.getElem_cons_succ]
      refine wpAnyH_take (i := 12) (v := .string s) rfl (by kernel_rfl) (by kernel_rfl) (by kernel_rfl) (fun _ _ _ h => h) (Or.inl ⟨by rfl, fun w hS => by go_simp⟩) hC1 ?_
      simp only [Act.put, List.setIfInBounds_toArray, List.set_cons_zero, List.set_cons_succ, List.getElem_toArray, List.getElem_cons_zero, List.getElem_cons_succ]
      refine wpAnyH_ready (rs := [13]) (by kernel_rfl) (by simp) ?_
      refine AllReadyH.cons (o := _) rfl (fun K' hK => ?_) AllReadyH.nil
      go_simp
      refine (HA.out _).mono ?_
      rintro x wq ⟨v, rfl, hown, hb⟩
      have ON := Lib.hid (ON.out.below hb ON.out.lt)
      have OF := Lib.hid (OF.out.below hb OF.out.lt)
      have OM := Lib.hid (OM.out.below hb OM.out.lt)
      have BL := Lib.hid (bthen hb BL.out BL.out.size)
      have KD := Lib.hid ((hb.block _ (Array.getElem?_eq_some_iff.1 KD.out).1).trans KD.out)
      have KD2 := Lib.hid ((hb.block _ (Array.getElem?_eq_some_iff.1 KD2.out).1).trans KD2.out)
      obtain ⟨va, vc, rfl⟩ := owns_shape hown
      clear hown
      clear hb
      go_wp2_with fail
      refine hK _ _ ⟨ON.out, OF.out, OM.out⟩ (fun hC2 => ?_)
      clear hK K'
      try simp only [Act.put, List.setIfInBounds_toArray, List.set_cons_zero, List.set_cons_succ, List.getElem_toArray, List.getElem_cons_zero, List.getElem_cons_succ]
      refine wpAnyH_take (i := 14) (v := .int .i64 ((m + 1 : Nat) : Int)) rfl (by kernel_rfl) (by kernel_rfl) (by kernel_rfl) (fun _ _ _ h => h) (Or.inl ⟨by rfl, fun w hS => by go_simp⟩) hC2 ?_
      simp only [Act.put, List.setIfInBounds_toArray, List.set_cons_zero, List.set_cons_succ, List.getElem_toArray, List.getElem_cons_zero, List.getElem_cons_succ]
      refine wpAnyH_take (i := 15) (v := .bool true) rfl (by kernel_rfl) (by kernel_rfl) (by kernel_rfl) (fun _ _ _ h => h) (Or.inl ⟨by rfl, fun w hS => by go_simp⟩) hC2 ?_
      simp only [Act.put, List.setIfInBounds_toArray, List.set_cons_zero, List.set_cons_succ, List.getElem_toArray, List.getElem_cons_zero, List.getElem_cons_succ]
      refine wpAnyH_take (i := 16) (v := .bool true) rfl (by kernel_rfl) (by kernel_rfl) (by kernel_rfl) (fun _ _ _ h => h) (Or.inl ⟨by rfl, fun w hS => by go_simp⟩) hC2 ?_
      simp only [Act.put, List.setIfInBounds_toArray, List.set_cons_zero, List.set_cons_succ, List.getElem_toArray, List.getElem_cons_zero, List.getElem_cons_succ]
      refine wpAnyH_take (i := 17) (v := .bool true) rfl (by kernel_rfl) (by kernel_rfl) (by kernel_rfl) (fun _ _ _ h => h) (Or.inl ⟨by rfl, fun w hS => by go_simp⟩) hC2 ?_
      simp only [Act.put, List.setIfInBounds_toArray, List.set_cons_zero, List.set_cons_succ, List.getElem_toArray, List.getElem_cons_zero, List.getElem_cons_succ]
      refine wpAnyH_ready (rs := [18]) (by kernel_rfl) (by simp) ?_
      refine AllReadyH.cons (o := _) rfl (fun K' hK => ?_) AllReadyH.nil
      go_simp
      refine (HW.out _).mono ?_
      rintro x wq ⟨rfl, hb⟩
      have ON := Lib.hid (ON.out.below hb ON.out.lt)
      have OF := Lib.hid (OF.out.below hb OF.out.lt)
      have OM := Lib.hid (OM.out.below hb OM.out.lt)
      have BL := Lib.hid (bthen hb BL.out BL.out.size)
      have KD := Lib.hid ((hb.block _ (Array.getElem?_eq_some_iff.1 KD.out).1).trans KD.out)
      have KD2 := Lib.hid ((hb.block _ (Array.getElem?_eq_some_iff.1 KD2.out).1).trans KD2.out)
      clear hb
      go_wp2_with fail
      refine hK _ _ ⟨ON.out, OF.out, OM.out⟩ (fun hC3 => ?_)
      clear hK K'
      try simp only [Act.put, List.setIfInBounds_toArray, List.set_cons_zero, List.set_cons_succ, List.getElem_toArray, List.getElem_cons_zero, List.getElem_cons_succ]
      refine wpAnyH_take (i := 19) (v := .bool true) rfl (by kernel_rfl) (by kernel_rfl) (by kernel_rfl) (fun _ _ _ h => h) (Or.inl ⟨by rfl, fun w hS => by go_simp⟩) hC3 ?_
      simp only [Act.put, List.setIfInBounds_toArray, List.set_cons_zero, List.set_cons_succ, List.getElem_toArray, List.getElem_cons_zero, List.getElem_cons_succ]
      refine wpAnyH_take (i := 20) (v := .bool true) rfl (by kernel_rfl) (by kernel_rfl) (by kernel_rfl) (fun _ _ _ h => h) (Or.inl ⟨by rfl, fun w hS => by go_simp⟩) hC3 ?_
      simp only [Act.put, List.setIfInBounds_toArray, List.set_cons_zero, List.set_cons_succ, List.getElem_toArray, List.getElem_cons_zero, List.getElem_cons_succ]
      refine wpAnyH_done (by kernel_rfl) ?_ _
      refine NoPanic.normal ?_
      go_wp2_with fail
      exact leaves_2 rfl (by rfl) (by omega) (by omega) KD.out KD2.out BL.out (fun W' hb => ⟨rfl, hb⟩)
end Go.Proofs.Ytlhcjnjajkfahaa

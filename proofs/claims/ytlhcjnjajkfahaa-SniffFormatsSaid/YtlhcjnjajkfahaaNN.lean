/- SniffFormats, walked. -/
import Derived.Test.YtlhcjnjajkfahaaNM
namespace Go.Proofs.Ytlhcjnjajkfahaa
open Go.RowKit
set_option linter.unusedVariables false
set_option linter.unusedSimpArgs false
attribute [local go_sem] Oper.semAt_some
theorem owns_drewK {w : World} {base e n size : Nat} {v : Value} {xs : List Value} (h : w.ownsRow base e size v n xs) (k : Nat) : (w.drewN k).ownsRow base e size v n xs := by
  induction k generalizing w with
  | zero => exact h
  | succ k ih => exact ih (w := w.drew) h
theorem cell_drewK (w : World) (k : Nat) (a : Addr) : (w.drewN k).cell? a = w.cell? a := by unfold World.cell?; rw [drewN_heap]
set_option maxRecDepth 100000 in
set_option maxHeartbeats 16000000 in
theorem sformats_law (s : ByteArray) (f : Int) (hs : s.size ≤ maxLen) (hf : (Lit.int .i64 f).wf = true) (w : World) : Calls Try.prog 4 #[.string s, .int .i64 f] w (Yes30 w) := by
  unfold maxLen at hs
  clear hf
  obtain ⟨i0, hi, hz0, hz1, hz2⟩ := info_parts (P := Try.prog) (e := 3) (z := .int .i64 0) (size := 1) (bytes := 8) (by kernel_rfl)
  have hbf : ∀ (g : Nat) (a b : Array Value) (w0 : World), (binOp BinOp.eql 44 (.func (.func g) a b) Value.nilFunc).run Try.prog w0 = .ok (.bool false) w0 := fun _ _ _ _ => rfl
  refine (callsIn_wide (n := 5)).1 ?_
  refine callsIn_of_wp_marks Try.func4 rfl trivial ?_ rfl
  refine wpIn_wide.2 ?_
  simp only [Try.ntmps4, List.size_toArray, List.length_cons, List.length_nil, Nat.reduceAdd, Nat.reduceSub, Array.replicate_succ, Array.replicate_zero, List.push_toArray, List.append_toArray, List.nil_append, List.cons_append]
  by_cases h1 : 3000 < s.size
  · have D1 : decide ((s.size : Int) > 3000) = true := by rw [decide_eq_true_iff]; omega
    go_wp2_with (go_at_call 19; (with_reducible refine (awake30 _).mono ?_); rintro e w1 ⟨rfl, hb⟩)
    exact ⟨.bool true, by rw [results_tmp rfl]; rfl, rfl, hb⟩
  have D1 : decide ((s.size : Int) > 3000) = false := by rw [decide_eq_false_iff_not]; omega
  have HW := Lib.hid (fun w0 => awake30 w0)
  obtain ⟨L, hLL⟩ : ∃ L, allTo s 8 = L := ⟨_, rfl⟩
  have EL := Lib.hid hLL
  have E2 := Lib.hid (show L = [] ∨ (∃ f, L = [f]) ∨ L = [4, 2] from hLL ▸ two_law s)
  obtain ⟨F, hF⟩ : ∃ F, firstOf L = F := ⟨_, rfl⟩
  obtain ⟨B, hB⟩ : ∃ B, hasB s f = B := ⟨_, rfl⟩
  have HF := Lib.hid (fun w0 => (show Calls Try.prog 23 #[.string s] w0 (fun e w' => e = .returned (.int .i64 F) ∧ Below w0.heap.size w0 w') from hF ▸ hLL ▸ rformat_any s w0 (by omega)))
  have HG := Lib.hid (fun w0 => (show Calls Try.prog 22 #[.string s] w0 (fun e w' => e = .returned (.int .i64 F) ∧ Below w0.heap.size w0 w') from hF ▸ hLL ▸ sformat_any s w0 (by omega)))
  have HH := Lib.hid (fun w0 => (show Calls Try.prog 24 #[.string s, .int .i64 f] w0 (fun e w' => e = .returned (.bool B) ∧ Below w0.heap.size w0 w') from hB ▸ has_any s f w0 (by omega)))
  have HI := Lib.hid (fun w0 => (show Calls Try.prog 25 #[.string s, .int .i64 f] w0 (fun e w' => e = .returned (.bool B) ∧ Below w0.heap.size w0 w') from hB ▸ rhas_any s f w0 (by omega)))
  have HA := Lib.hid (fun w0 => (show Calls Try.prog 21 #[.string s] w0 (fun e w' => ∃ v, e = .returned v ∧ w'.ownsRow w0.heap.size 3 1 v L.length (L.map (.int .i64)) ∧ Below w0.heap.size w0 w') from hLL ▸ rall_any s w0 (by omega)))
  have hL8 : L.length ≤ 8 := hLL ▸ allTo_len s 8
  clear hLL hF hB
  have bO := Boxed.new w 22 (.slice none 0 0)
  have bO := bO.alloc (.cells #[.string s] 9)
  have O0 := obj1_new (w.alloc (.cells #[.slice none 0 0] 22)) #[.string s] 9
  have BL := ((Below.refl w.heap.size w).alloc (Nat.le_refl _) (.cells #[.slice none 0 0] 22)).alloc (by simp) (.cells #[.string s] 9)
  simp only [World.size_alloc] at O0
  have BO := Lib.hid bO
  have O0 := Lib.hid O0
  have BL := Lib.hid BL
  clear bO
  go_wp2_with (go_at_call 20; (with_reducible refine (sall_any s _).mono ?_); rintro e w1 ⟨rfl, rfl⟩)
  generalize World.alloc _ _ = W1 at O0 BO BL ⊢
  have lF := O0.out.lt
  refine (wpIn_wide (n := 5)).1 ?_
  refine wpIn_rangeFunc_ownF (F := Fence.wide) (n := 5) rfl (by omega) (gf := 51) (lb := #[.pointer (some ⟨w.heap.size + 1, 0, none⟩)]) (by first | rfl | simp) trivial (enters_of Try.func51 (by kernel_rfl) rfl)
    (all_stops s (by omega) _ (w.heap.size + 1) _ (by omega) ((O0.out.cell 0).trans rfl)) keepB_t (keepB_b (by omega)) (Below.refl _ _) (fun _ => rfl)
    (fun pre X => (Obj1 X (w.heap.size + 1) #[.string s] 9 ∧ (∃ v, Boxed X w.heap.size 22 v ∧ X.ownsRow w.heap.size 3 1 v pre.length (pre.map (.int .i64)) ∧ True)) ∧ Below w.heap.size w X) (fun _ _ _ => False) ?hI ?hIx ⟨⟨O0.out, _, BO.out, World.ownsRow_nil _ _ _ _, trivial⟩, BL.out⟩ ?a1 ?assign ?body ?done ?stop
  case hI => exact OwnFrom.and (OwnFrom.and (ownFrom_at (fun _ => .cells #[.string s] 9 (0, 0)) (by omega)) (Own.from (holdsRow_own w.heap.size w.heap.size 22 3 1 (fun pre : List Int => pre.length) (fun pre => pre.map (.int .i64)) (fun _ _ => True)) _)) (ownFrom_below (Nat.le_refl _) (by omega))
  case hIx => exact fun c s X Y row hs hg hr => hs
  case assign =>
    intro l x X K hK
    gi_wp2
    exact hK
  case stop =>
    rintro D c pre X hD hp h hK
    exact h.elim
  case body =>
    rintro l pre x X ⟨⟨hS, v, hv, hrow, -⟩, hL⟩ hlen
    have hc := hv.cell
    have ROW := Lib.hid hrow
    have HV := Lib.hid hv
    have HS := Lib.hid hS
    have HL := Lib.hid hL
    have hzl := hL.size
    clear hv hrow hS hL
    gi_wp2_with (gi_at_builtin; refine wpListIn_append_own _ rfl _ _ 22 rfl w.heap.size 3 i0 (.int .i64 0) 1 8 Try.underlying22 hi hz0 hz1 hz2 rfl (by decide) _ _ _ rfl (ROW.out.alloc _) ⟨X.heap.size, 0, none⟩ 1 1 [.int .i64 x] rfl rfl (cell_one_new _ _ _) (by simp [Value.oneCell']) (by unfold maxLen; omega) (by omega) (by simp; omega) ?_; intro v' w1 hown' hgrow _; obtain ⟨g', cap', rfl⟩ := ownsRow_succ hown'; obtain ⟨hv1, hv2, hr2, hk2, hb2⟩ := HV.out.appended (by decide) ROW.out hzl (Nat.le_refl _) hown' hgrow; have hc1 := hv1.cell; have hf1 := hv1.frozen; have hS1 := ((Boxed.alloc (W := X) (B := w.heap.size + 1) (t := 9) (v := .string s) HS.out _).kept hgrow (Boxed.not_row (W := X) (B := w.heap.size + 1) (t := 9) HS.out (by decide) ROW.out)); have HS1 := Lib.hid hS1; have R2 := Lib.hid hr2; have V2 := Lib.hid hv2; have K2 := Lib.hid hk2; have B2 := Lib.hid hb2; clear hown' hgrow hv1 hv2 hr2 hk2 hb2 hS1)
    have e0 := Obj1.set_other (b := w.heap.size + 1) (cs := #[.string s]) (T := 9) HS1.out ⟨w.heap.size, 0, none⟩ (.slice (some ⟨g', 0, none⟩) (pre.length + 1) cap') (by simp)
    exact ⟨K2.out, keepB_of HS.out e0 B2.out.size, ⟨e0, _, V2.out, by simpa using R2.out, trivial⟩, HL.out.trans B2.out⟩
  case done =>
    rintro D ys X hD hys ⟨⟨-, v, hv, hrow, -⟩, hL⟩ hK
    rw [hys, EL.out] at hrow
    obtain ⟨n, hn⟩ : ∃ n, L.length = n := ⟨_, rfl⟩
    rw [hn] at hrow HA hL8
    obtain ⟨al, cl, rfl⟩ := owns_shape hrow
    have OL := Lib.hid (show Obj1 X w.heap.size #[.slice al n cl] 22 from hv)
    have RW := Lib.hid hrow
    have KD := Lib.hid hK
    have BL := Lib.hid hL
    have HN := Lib.hid hn
    have cL := (OL.out.cell 0).trans rfl
    clear hys hn hv hrow hK hL O0 BO
    go_upto_region 11 with ((go_at_call 21; (with_reducible refine (HA.out _).mono ?_); rintro x wq ⟨v2, rfl, hown2, hb⟩); clear cL; have OL := Lib.hid (OL.out.below hb OL.out.lt); have cL := (OL.out.cell 0).trans rfl; have RW := Lib.hid (owns_below3 RW.out hb (fun g hg => (owns_blk RW.out hg).2)); have BL := Lib.hid (bthen hb BL.out BL.out.size); have KD := Lib.hid ((hb.block _ (Array.getElem?_eq_some_iff.1 KD.out).1).trans KD.out); obtain ⟨a2, c2, rfl⟩ := owns_shape hown2; have RV := Lib.hid hown2; clear hown2; clear hb)
    go_upto_region 13 with (first
      | ((with_reducible refine skip_g rfl ?_ ?_); rfl; intro _)
      | ((go_at_call 22; (with_reducible refine (HG.out _).mono ?_); rintro x wq ⟨rfl, hb⟩); clear cL; have OL := Lib.hid (OL.out.below hb OL.out.lt); have cL := (OL.out.cell 0).trans rfl; have RW := Lib.hid (owns_below3 RW.out hb (fun g hg => (owns_blk RW.out hg).2)); have RV := Lib.hid (owns_below3 RV.out hb (fun g hg => (owns_blk RV.out hg).2)); have BL := Lib.hid (bthen hb BL.out BL.out.size); have KD := Lib.hid ((hb.block _ (Array.getElem?_eq_some_iff.1 KD.out).1).trans KD.out); clear hb)
      | ((go_at_call 23; (with_reducible refine (HF.out _).mono ?_); rintro x wq ⟨rfl, hb⟩); clear cL; have OL := Lib.hid (OL.out.below hb OL.out.lt); have cL := (OL.out.cell 0).trans rfl; have RW := Lib.hid (owns_below3 RW.out hb (fun g hg => (owns_blk RW.out hg).2)); have RV := Lib.hid (owns_below3 RV.out hb (fun g hg => (owns_blk RV.out hg).2)); have BL := Lib.hid (bthen hb BL.out BL.out.size); have KD := Lib.hid ((hb.block _ (Array.getElem?_eq_some_iff.1 KD.out).1).trans KD.out); clear hb)
      | ((go_at_call 24; (with_reducible refine (HH.out _).mono ?_); rintro x wq ⟨rfl, hb⟩); clear cL; have OL := Lib.hid (OL.out.below hb OL.out.lt); have cL := (OL.out.cell 0).trans rfl; have RW := Lib.hid (owns_below3 RW.out hb (fun g hg => (owns_blk RW.out hg).2)); have RV := Lib.hid (owns_below3 RV.out hb (fun g hg => (owns_blk RV.out hg).2)); have BL := Lib.hid (bthen hb BL.out BL.out.size); have KD := Lib.hid ((hb.block _ (Array.getElem?_eq_some_iff.1 KD.out).1).trans KD.out); clear hb)
      | ((go_at_call 25; (with_reducible refine (HI.out _).mono ?_); rintro x wq ⟨rfl, hb⟩); clear cL; have OL := Lib.hid (OL.out.below hb OL.out.lt); have cL := (OL.out.cell 0).trans rfl; have RW := Lib.hid (owns_below3 RW.out hb (fun g hg => (owns_blk RW.out hg).2)); have RV := Lib.hid (owns_below3 RV.out hb (fun g hg => (owns_blk RV.out hg).2)); have BL := Lib.hid (bthen hb BL.out BL.out.size); have KD := Lib.hid ((hb.block _ (Array.getElem?_eq_some_iff.1 KD.out).1).trans KD.out); clear hb))
    by_cases h0 : n = 0
    · subst h0
      go_wp2_with fail
      refine wp_loop_rounds 1 ?_
      rw [rounds_succ]
      go_wp2_with (first
        | ((with_reducible refine skip_g rfl ?_ ?_); rfl; intro _)
        | ((go_at_call 19; (with_reducible refine (HW.out _).mono ?_); rintro x wq ⟨rfl, hb⟩); clear cL; have OL := Lib.hid (OL.out.below hb OL.out.lt); have cL := (OL.out.cell 0).trans rfl; have BL := Lib.hid (bthen hb BL.out BL.out.size); have KD := Lib.hid ((hb.block _ (Array.getElem?_eq_some_iff.1 KD.out).1).trans KD.out); clear hb))
      exact leaves_1 rfl (by rfl) (by omega) KD.out BL.out (fun W' hb => ⟨rfl, hb⟩)
    · obtain ⟨g1, c1, e1, -, -, q1, q2⟩ := owns_form RW.out (by omega)
      obtain ⟨g2, c2', e2, -, -, q3, q4⟩ := owns_form RV.out (by omega)
      injection e1 with e1 e1b e1c
      injection e2 with e2 e2b e2c
      subst e1 e1c e2 e2c
      clear e1b e2b
      go_wp2_with fail
      obtain ⟨W2, hW2⟩ : ∃ W, wq = W := ⟨_, rfl⟩
      clear hW2 cL
      go_loopw [9, 49] (fun _ c wr => ∃ k : Nat, k ≤ n ∧ c = .int .i64 k ∧ Obj1 wr w.heap.size #[.slice (some ⟨g1, 0, none⟩) n cl] 22 ∧ wr.ownsRow w.heap.size 3 1 (.slice (some ⟨g1, 0, none⟩) n cl) n (L.map (.int .i64)) ∧ (∀ j x, (L.map (Value.int .i64))[j]? = some x → wr.cell? ⟨g2, j, none⟩ = some x) ∧ wr.heap[D]? = some (.deferred (some [])) ∧ Below w.heap.size w wr) (fun _ c _ => n - (intOf c).toNat)
      case atStart => exact ⟨0, by omega, rfl, OL.out, RW.out, fun j x hx => owns_cell RV.out j x hx, KD.out, BL.out⟩
      case round =>
        obtain ⟨k, hk, rfl, ho, hr, hc2, hkd, hb⟩ := hrel
        have OL := Lib.hid ho
        have RW := Lib.hid hr
        have RV := Lib.hid hc2
        have KD := Lib.hid hkd
        have BL := Lib.hid hb
        have cL : wr.cell? ⟨w.heap.size, 0, none⟩ = some (.slice (some ⟨g1, 0, none⟩) n cl) := (ho.cell 0).trans rfl
        clear ho hr hc2 hkd hb
        by_cases hlt : k < n
        · have hge : ¬ n ≤ k := by omega
          have hln : (L.map (Value.int .i64))[k]? = some (.int .i64 (L.getD k 0)) := by
            have := HN.out
            rw [List.getElem?_map, List.getD_eq_getElem?_getD, List.getElem?_eq_getElem (by omega)]; rfl
          obtain ⟨x, hx⟩ : ∃ x, L.getD k 0 = x := ⟨_, rfl⟩
          rw [hx] at hln
          have k1 : wr.cell? ⟨g1, k, none⟩ = some (.int .i64 x) := owns_cell RW.out k _ hln
          have k2 : wr.cell? ⟨g2, k, none⟩ = some (.int .i64 x) := RV.out k _ hln
          clear hx hln
          go_upto_region 16 with (fail)
          go_quiet (fail)
          go_wp2_with fail
          go_roundw
          case rel => exact ⟨k + 1, by omega, by go_num, OL.out.drewN _, owns_drewK RW.out _, fun j x hx => by rw [cell_drewK]; exact RV.out j x hx, by rw [drewN_heap]; exact KD.out, bdrew BL.out _⟩
          case measure => simp [intOf]; omega
        · have hge : n ≤ k := by omega
          rcases E2.out with rfl | ⟨f0, rfl⟩ | rfl
          · exact absurd HN.out (by simp; omega)
          · obtain rfl : n = 1 := HN.out.symm
            go_wp2_with (first
              | ((with_reducible refine skip_g rfl ?_ ?_); rfl; intro _)
              | ((go_at_call 19; (with_reducible refine (HW.out _).mono ?_); rintro x wq ⟨rfl, hb⟩); clear cL; have OL := Lib.hid (OL.out.below hb OL.out.lt); have cL := (OL.out.cell 0).trans rfl; have BL := Lib.hid (bthen hb BL.out BL.out.size); have KD := Lib.hid ((hb.block _ (Array.getElem?_eq_some_iff.1 KD.out).1).trans KD.out); clear hb))
            exact leaves_1 rfl (by rfl) (by omega) KD.out BL.out (fun W' hb => ⟨rfl, hb⟩)
          · obtain rfl : n = 2 := HN.out.symm
            have k1 : wr.cell? ⟨g1, 0, none⟩ = some (.int .i64 4) := owns_cell RW.out 0 _ rfl
            have k2 : wr.cell? ⟨g1, 1, none⟩ = some (.int .i64 2) := owns_cell RW.out 1 _ rfl
            go_wp2_with (first
              | ((with_reducible refine skip_g rfl ?_ ?_); rfl; intro _)
              | ((go_at_call 19; (with_reducible refine (HW.out _).mono ?_); rintro x wq ⟨rfl, hb⟩); clear cL; have OL := Lib.hid (OL.out.below hb OL.out.lt); have cL := (OL.out.cell 0).trans rfl; have BL := Lib.hid (bthen hb BL.out BL.out.size); have KD := Lib.hid ((hb.block _ (Array.getElem?_eq_some_iff.1 KD.out).1).trans KD.out); clear hb))
            exact leaves_1 rfl (by rfl) (by omega) KD.out BL.out (fun W' hb => ⟨rfl, hb⟩)
end Go.Proofs.Ytlhcjnjajkfahaa

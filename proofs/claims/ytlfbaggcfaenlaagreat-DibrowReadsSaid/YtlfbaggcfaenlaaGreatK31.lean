/- The reference of layer 21: Read (a table), walked. -/
import Derived.Test.YtlfbaggcfaenlaaGreatK30
import Derived.Test.YtlfbaggcfaenlaaGreatK0
namespace Go.Proofs.YtlfbaggcfaenlaaGreat
open Go.RowKit
set_option linter.unusedVariables false
set_option linter.unusedSimpArgs false
theorem owns_keep {w w' : World} {base b2 e sz n : Nat} {v : Value} {xs : List Value} (h : w.ownsRow base e sz v n xs) (hb : b2 ≤ base) (hh : ∀ k, base ≤ k → k < w.heap.size → w'.heap[k]? = w.heap[k]?) : w'.ownsRow b2 e sz v n xs := by
  obtain ⟨hl, h2⟩ := h
  refine ⟨hl, ?_⟩
  rcases h2 with h2 | ⟨g, cap, cur, rfl, hg, hp, rest⟩
  · exact Or.inl h2
  · exact Or.inr ⟨g, cap, cur, rfl, Nat.le_trans hb hg, (hh g hg (Array.getElem?_eq_some_iff.1 hp).1).trans hp, rest⟩
theorem owns_shape4 {w : World} {base e sz n : Nat} {v : Value} {xs : List Value} (h : w.ownsRow base e sz v n xs) : ∃ a cap, v = .slice a n cap := by
  obtain ⟨hl, h2⟩ := h
  rcases h2 with ⟨rfl, rfl⟩ | ⟨g', cap', cur, hv', hg, hh, hn, hc, hs, ht⟩
  · exact ⟨none, 0, rfl⟩
  · exact ⟨_, _, hv'⟩
theorem stored_chg2 {w w2 : World} {b o : Nat} {vs : List Value} (hst : Stored w b o vs w2) : Chg (fun k => k = b) w w2 := by
  rw [show w2 = _ from hst]; clear hst
  have key : ∀ (vs : List Value) (a w : World) (o : Nat), Chg (fun k => k = b) a w → Chg (fun k => k = b) a (w.setCells b o vs) := by
    intro vs
    induction vs with
    | nil => intro a w o h; exact h
    | cons v r ih => intro a w o h; rw [World.setCells]; exact ih a _ _ (h.set ⟨b, o, none⟩ v (Or.inl rfl))
  exact key vs w w o (Chg.refl _ w)
def Table21Post (w : World) (s : ByteArray) (kd co dp en nb : Nat) (e : Ending) (w' : World) : Prop :=
  (if s.size < en + nb then e = .returned (.agg (List.toArray [.int .i64 0, .slice none 0 0, .int .i64 1, .int .i64 s.size])) else
   if dp ≤ 8 then ∃ v, e = .returned (.agg (List.toArray [.int .i64 ((en : Int) + (nb : Int)), v, .int .i64 0, .int .i64 0])) ∧ w'.ownsRow w.heap.size 185 4 v co (colsL (s.extract en s.size) kd co) else e = .returned (.agg (List.toArray [.int .i64 ((en : Int) + (nb : Int)), .slice none 0 0, .int .i64 0, .int .i64 0]))) ∧ Below w.heap.size w w'
set_option maxRecDepth 100000 in
set_option maxHeartbeats 8000000 in
theorem table21_any (s : ByteArray) (sz W H : Int) (top : Bool) (dp : Nat) (mt : Int) (co : Nat) (r g b q fr : Int) (en kd nb : Nat) (w : World) (hkd : kd = if sz = 12 then 3 else 4) (hnb : nb = kd * co) (hco : co ≤ 256) (hen : en ≤ s.size) (hs : s.size ≤ 9223372036854775807) :
    Calls Tryz.prog 24 #[.string s, .agg (List.toArray [.int .i64 sz, .int .i64 W, .int .i64 H, .bool top, .int .i64 dp, .int .i64 mt, .int .i64 co, .int .i64 r, .int .i64 g, .int .i64 b, .int .i64 q, .int .i64 fr, .int .i64 en, .int .i64 0, .int .i64 0]), .int .i64 s.size] w (Table21Post w s kd co dp en nb) := by
  have HKD := Hi hkd
  have hk34 : kd = 3 ∨ kd = 4 := by rw [hkd]; split <;> simp
  have hnb4 : nb ≤ 1024 := by rw [hnb]; rcases hk34 with h | h <;> rw [h] <;> omega
  have eM : (kd : Int) * (co : Int) = (nb : Int) := by rw [hnb]; exact (Int.natCast_mul kd co).symm
  have eW : IntKind.i64.wrap ((kd : Int) * (co : Int)) = (nb : Int) := by rw [eM]; exact i64_wraps _ (by omega) (by omega)
  have eS : IntKind.i64.wrap ((s.size : Int) - (en : Int)) = (s.size : Int) - en := i64_wraps _ (by omega) (by omega)
  have HRD := Hi (fun w0 (h : ¬ s.size < en + nb) => read10_any (s.extract en s.size) co kd co w0 hk34 (by omega) (by rw [ByteArray.size_extract]; omega) (Nat.le_refl _) (by rw [ByteArray.size_extract, Nat.mul_comm, ← hnb]; omega) (Or.inl rfl))
  have HNB := Hi hnb
  have HK34 := Hi hk34
  have O4 := Hi ((obj1_new w (List.toArray [.int .i64 sz, .int .i64 W, .int .i64 H, .bool top, .int .i64 dp, .int .i64 mt, .int .i64 co, .int .i64 r, .int .i64 g, .int .i64 b, .int .i64 q, .int .i64 fr, .int .i64 en, .int .i64 0, .int .i64 0]) 52).alloc (.cells #[.int .i64 0, .slice none 0 0, .int .i64 0, .int .i64 0] 56))
  have O6 := Hi (obj1_new (w.alloc (.cells (List.toArray [.int .i64 sz, .int .i64 W, .int .i64 H, .bool top, .int .i64 dp, .int .i64 mt, .int .i64 co, .int .i64 r, .int .i64 g, .int .i64 b, .int .i64 q, .int .i64 fr, .int .i64 en, .int .i64 0, .int .i64 0]) 52)) #[.int .i64 0, .slice none 0 0, .int .i64 0, .int .i64 0] 56)
  rw [show (w.alloc (.cells (List.toArray [.int .i64 sz, .int .i64 W, .int .i64 H, .bool top, .int .i64 dp, .int .i64 mt, .int .i64 co, .int .i64 r, .int .i64 g, .int .i64 b, .int .i64 q, .int .i64 fr, .int .i64 en, .int .i64 0, .int .i64 0]) 52)).heap.size = w.heap.size + 1 by simp] at O6
  have BL := Hi (((Below.refl w.heap.size w).alloc (Nat.le_refl _) (.cells (List.toArray [.int .i64 sz, .int .i64 W, .int .i64 H, .bool top, .int .i64 dp, .int .i64 mt, .int .i64 co, .int .i64 r, .int .i64 g, .int .i64 b, .int .i64 q, .int .i64 fr, .int .i64 en, .int .i64 0, .int .i64 0]) 52)).alloc (by simp) (.cells #[.int .i64 0, .slice none 0 0, .int .i64 0, .int .i64 0] 56))
  obtain ⟨b12, hb12⟩ : ∃ x, (sz == 12) = x := ⟨_, rfl⟩
  have HB12 := Hi hb12
  clear hkd hnb hk34
  go_enter Tryz.func24, Tryz.ntmps24
  go_upto_region 1 with (fail)
  generalize World.alloc _ _ = w1 at O4 O6 BL ⊢
  have c0 : w1.cell? ⟨w.heap.size, 0, none⟩ = some (.int .i64 sz) := (O4.out.cell 0).trans rfl
  have c4 : w1.cell? ⟨w.heap.size, 4, none⟩ = some (.int .i64 dp) := (O4.out.cell 4).trans rfl
  have c6 : w1.cell? ⟨w.heap.size, 6, none⟩ = some (.int .i64 co) := (O4.out.cell 6).trans rfl
  have c12 : w1.cell? ⟨w.heap.size, 12, none⟩ = some (.int .i64 en) := (O4.out.cell 12).trans rfl
  go_upto_if 12 with (fail)
  clear hb12
  go_cut [7] from 13 to 13 (fun c wx => c = .int .i64 (kd : Nat) ∧ wx = w1)
  case first => as_aux_lemma =>
    cases b12
    · have e : kd = 4 := by
        rw [HKD.out, if_neg]; intro e; have h1 := HB12.out; rw [e] at h1; cases h1
      subst e
      go_wp2_with fail
      go_meet
      exact ⟨rfl, rfl⟩
    · have e : kd = 3 := by rw [HKD.out, if_pos (eq_of_beq HB12.out)]
      subst e
      go_wp2_with fail
      go_meet
      exact ⟨rfl, rfl⟩
  case rest =>
  obtain ⟨rfl, rfl⟩ := hcut
  obtain ⟨w1, rfl⟩ : ∃ x, x = wc := ⟨_, rfl⟩
  clear HB12 c0
  by_cases hf : s.size < en + nb
  · have D : (s.size : Int) - en < nb := by omega
    have HF := Hi hf
    clear hf
    go_wp2_with (refine store_o rfl 56 4 _ _ rfl (w.heap.size + 1) [.int .i64 0, .slice none 0 0, .int .i64 1, .int .i64 s.size] rfl rfl (by kernel_rfl) (by kernel_rfl) (by kernel_rfl) O6.out (by first | rfl | simp) ?_; intro ws hst hO; have O6 := Hi hO; have O4 := Hi (hst.oth O4.out (by omega)); have BL := Hi (hst.below BL.out (by omega)); clear hst hO)
    refine bodyPost_ret (v := .agg (List.toArray [.int .i64 0, .slice none 0 0, .int .i64 1, .int .i64 s.size])) ?_ rfl (show Table21Post w s kd co dp en nb _ _ from ⟨by rw [if_pos HF.out], BL.out⟩)
    exact results_c Tryz.results24 _ _ _ [.int .i64 0, .slice none 0 0, .int .i64 1, .int .i64 s.size] _ rfl O6.out.range0 Tryz.underlying56 rfl (by kernel_rfl)
  · have D : ¬ ((s.size : Int) - en < nb) := by omega
    have HRD := Hi (fun w0 => HRD.out w0 hf)
    have HF := Hi hf
    have eA : IntKind.i64.wrap ((en : Int) + (nb : Int)) = (en : Int) + (nb : Int) := i64_wraps _ (by omega) (by omega)
    have O9 := Hi (obj1_new w1 #[.int .i64 0, .slice none 0 0, .int .i64 0, .int .i64 0] 56)
    have l6 := O6.out.lt
    have O4 := Hi (O4.out.alloc (.cells #[.int .i64 0, .slice none 0 0, .int .i64 0, .int .i64 0] 56))
    have O6 := Hi (O6.out.alloc (.cells #[.int .i64 0, .slice none 0 0, .int .i64 0, .int .i64 0] 56))
    have BL := Hi (BL.out.alloc BL.out.size (.cells #[.int .i64 0, .slice none 0 0, .int .i64 0, .int .i64 0] 56))
    clear hf
    have hp6 : w.heap.size + 1 < w1.heap.size := l6
    by_cases hd : dp ≤ 8
    · have HDD := Hi hd
      go_upto_region 9 with (first
        | (refine store_o rfl 56 4 _ _ rfl w1.heap.size [.int .i64 ((en : Int) + (nb : Int)), .slice none 0 0, .int .i64 0, .int .i64 0] rfl rfl (by kernel_rfl) (by kernel_rfl) (by kernel_rfl) O9.out (by first | rfl | simp) ?_; intro wx hst hO; have O9 := Hi hO; have O4 := Hi (hst.oth O4.out (by omega)); have O6 := Hi (hst.oth O6.out (by omega)); have BL := Hi (hst.below BL.out (by omega)); clear hst hO; have c4 : wx.cell? ⟨w.heap.size, 4, none⟩ = some (.int .i64 dp) := (O4.out.cell 4).trans rfl; have c6 : wx.cell? ⟨w.heap.size, 6, none⟩ = some (.int .i64 co) := (O4.out.cell 6).trans rfl; have c12 : wx.cell? ⟨w.heap.size, 12, none⟩ = some (.int .i64 en) := (O4.out.cell 12).trans rfl))
      obtain ⟨d, hd0⟩ : ∃ d, w.heap.size = d := ⟨_, rfl⟩
      have HD0 := Hi hd0
      rw [hd0] at O4 O6
      rw [hd0]
      obtain ⟨p9, hp9⟩ : ∃ p, w1.heap.size = p := ⟨_, rfl⟩
      rw [hp9] at O9 hp6
      rw [hp9]
      rw [hd0] at hp6
      clear hd0 hp9
      refine wp_region_noPanic ?_
      refine wp_region_held_drew (S := fun w' => w'.rangeAt d 0 [.int .i64 sz, .int .i64 W, .int .i64 H, .bool top, .int .i64 dp, .int .i64 mt, .int .i64 co, .int .i64 r, .int .i64 g, .int .i64 b, .int .i64 q, .int .i64 fr, .int .i64 en, .int .i64 0, .int .i64 0]) (by kernel_rfl) O4.out.range0 (fun hHeld => ?_)
      refine wpAnyH_take (i := 0) (v := .string s) rfl (by kernel_rfl) (by kernel_rfl) (by kernel_rfl) (fun _ _ _ h => h) (Or.inl ⟨by rfl, fun w hS => by go_simp⟩) hHeld ?_
      simp only [Act.put, zq1, zq2, zq3, zq4, zq5, zq6]
      refine wpAnyH_take (i := 1) (v := .pointer (some ⟨d, 12, none⟩)) rfl (by kernel_rfl) (by kernel_rfl) (by kernel_rfl) (fun _ _ _ h => h) (Or.inl ⟨by rfl, fun w hS => by go_simp⟩) hHeld ?_
      simp only [Act.put, zq1, zq2, zq3, zq4, zq5, zq6]
      refine wpAnyH_take (i := 2) (v := .int .i64 en) rfl (by kernel_rfl) (by kernel_rfl) (by kernel_rfl) (fun _ _ _ h => h) (Or.inl ⟨by rfl, fun w hS => by (have hc : w.cell? ⟨d, 12, none⟩ = some (.int .i64 en) := hS 12 _ rfl); go_simp⟩) hHeld ?_
      simp only [Act.put, zq1, zq2, zq3, zq4, zq5, zq6]
      refine wpAnyH_take (i := 3) (v := .int .i64 s.size) rfl (by kernel_rfl) (by kernel_rfl) (by kernel_rfl) (fun _ _ _ h => h) (Or.inl ⟨by rfl, fun w hS => by go_simp⟩) hHeld ?_
      simp only [Act.put, zq1, zq2, zq3, zq4, zq5, zq6]
      refine wpAnyH_take (i := 4) (v := .string (s.extract en s.size)) rfl (by kernel_rfl) (by kernel_rfl) (by kernel_rfl) (fun _ _ _ h => h) (Or.inl ⟨by rfl, fun w hS => by (go_simp) <;> first | rfl | (intro hh; exfalso; omega) | (rw [if_pos (by omega)]; rfl)⟩) hHeld ?_
      simp only [Act.put, zq1, zq2, zq3, zq4, zq5, zq6]
      refine wpAnyH_take (i := 5) (v := .pointer (some ⟨d, 6, none⟩)) rfl (by kernel_rfl) (by kernel_rfl) (by kernel_rfl) (fun _ _ _ h => h) (Or.inl ⟨by rfl, fun w hS => by go_simp⟩) hHeld ?_
      simp only [Act.put, zq1, zq2, zq3, zq4, zq5, zq6]
      refine wpAnyH_take (i := 6) (v := .int .i64 co) rfl (by kernel_rfl) (by kernel_rfl) (by kernel_rfl) (fun _ _ _ h => h) (Or.inl ⟨by rfl, fun w hS => by (have hc : w.cell? ⟨d, 6, none⟩ = some (.int .i64 co) := hS 6 _ rfl); go_simp⟩) hHeld ?_
      simp only [Act.put, zq1, zq2, zq3, zq4, zq5, zq6]
      refine wpAnyH_take (i := 7) (v := .int .i64 (kd : Nat)) rfl (by kernel_rfl) (by kernel_rfl) (by kernel_rfl) (fun _ _ _ h => h) (Or.inl ⟨by rfl, fun w hS => by go_simp⟩) hHeld ?_
      simp only [Act.put, zq1, zq2, zq3, zq4, zq5, zq6]
      have O4 := Hi (O4.out.drew)
      have O6 := Hi (O6.out.drew)
      have O9 := Hi (O9.out.drew)
      have BL := Hi BL.out.drew
      generalize World.drew _ = wk at O4 O6 O9 BL ⊢
      refine wpAnyH_ready (rs := [8]) (by kernel_rfl) (by simp) ?_
      refine AllReadyH.cons (o := _) rfl (fun K' hK => ?_) AllReadyH.nil
      go_simp
      refine (HRD.out _).mono ?_
      rintro x w5 ⟨v, rfl, hv, hb⟩
      have l9 := O9.out.lt
      have lw := BL.out.size
      have O4 := Hi (O4.out.below hb O4.out.lt)
      have O6 := Hi (O6.out.below hb O6.out.lt)
      have O9 := Hi (O9.out.below hb O9.out.lt)
      have BL := Hi (bthen hb BL.out BL.out.size)
      have HV := Hi hv
      have lz := hb.size
      clear hb hv
      go_wp2_with fail
      refine hK _ _ O4.out.range0 (fun hC1 => ?_)
      clear hK K'
      try simp only [Act.put, zq1, zq2, zq3, zq4, zq5, zq6]
      refine wpAnyH_take (i := 9) (v := .pointer (some ⟨p9, 1, none⟩)) rfl (by kernel_rfl) (by kernel_rfl) (by kernel_rfl) (fun _ _ _ h => h) (Or.inl ⟨by rfl, fun w hS => by go_simp⟩) hC1 ?_
      simp only [Act.put, zq1, zq2, zq3, zq4, zq5, zq6]
      obtain ⟨av, cv, rfl⟩ := owns_shape4 HV.out
      have cB : w5.cell? ⟨p9, 1, none⟩ = some (.slice none 0 0) := (O9.out.cell 1).trans rfl
      have fB : w5.frozen? ⟨p9, 1, none⟩ = false := O9.out.frozen 1
      refine wpAnyH_ready (rs := [10]) (by kernel_rfl) (by simp) ?_
      refine AllReadyH.cons (o := _) rfl (fun K' hK => ?_) AllReadyH.nil
      go_simp
      have HV := Hi (owns_keep (b2 := p9 + 1) (w' := w5.setCell ⟨p9, 1, none⟩ (.slice av co cv)) HV.out l9 (fun k hk1 hk2 => heap_setCell_other _ _ _ _ (by simp; omega)))
      have O9 := Hi ((O9.out.set 1 (.slice av co cv)).cells (show _ = List.toArray [.int .i64 ((en : Int) + (nb : Int)), .slice av co cv, .int .i64 0, .int .i64 0] from rfl))
      have O4 := Hi (O4.out.set_other ⟨p9, 1, none⟩ (.slice av co cv) (by simp; omega))
      have O6 := Hi (O6.out.set_other ⟨p9, 1, none⟩ (.slice av co cv) (by simp; omega))
      have hdw : w.heap.size = d := HD0.out
      have BL := Hi (BL.out.setCell (p := ⟨p9, 1, none⟩) (by simp; omega) (.slice av co cv))
      generalize World.setCell _ _ _ = w6 at O4 O6 O9 BL HV ⊢
      refine hK _ _ O4.out.range0 (fun hC2 => ?_)
      clear hK K' cB fB
      refine wpAnyH_done (by kernel_rfl) ?_ _
      refine NoPanic.normal ?_
      rw [hdw] at BL
      go_wp2_with (first
        | (refine load_u (by kernel_rfl) 56 4 _ rfl p9 [.int .i64 ((en : Int) + (nb : Int)), .slice av co cv, .int .i64 0, .int .i64 0] rfl rfl O9.out Tryz.underlying56 rfl (by kernel_rfl) ?_; intro _)
        | (refine store_o rfl 56 4 _ _ rfl (d + 1) [.int .i64 ((en : Int) + (nb : Int)), .slice av co cv, .int .i64 0, .int .i64 0] rfl rfl (by kernel_rfl) (by kernel_rfl) (by kernel_rfl) O6.out (by first | rfl | simp) ?_; intro wy hst hO; have O6 := Hi hO; have O4 := Hi (hst.oth O4.out (by omega)); have O9 := Hi (hst.oth O9.out (by omega)); have BL := Hi (hst.below BL.out (by omega)); have HV := Hi (owns_keep (b2 := w.heap.size) HV.out (by omega) (fun k hk1 hk2 => (stored_chg2 hst).block k hk2 (by omega))); clear hst hO))
      refine bodyPost_ret (v := .agg (List.toArray [.int .i64 ((en : Int) + (nb : Int)), .slice av co cv, .int .i64 0, .int .i64 0])) ?_ rfl (show Table21Post w s kd co dp en nb _ _ from ⟨by rw [if_neg HF.out, if_pos HDD.out]; exact ⟨_, rfl, HV.out⟩, by rw [hdw]; exact BL.out⟩)
      exact results_c Tryz.results24 _ _ _ [.int .i64 ((en : Int) + (nb : Int)), .slice av co cv, .int .i64 0, .int .i64 0] _ rfl O6.out.range0 Tryz.underlying56 rfl (by kernel_rfl)
    · have HDD := Hi hd
      go_upto_region 10 with (refine store_o rfl 56 4 _ _ rfl w1.heap.size [.int .i64 ((en : Int) + (nb : Int)), .slice none 0 0, .int .i64 0, .int .i64 0] rfl rfl (by kernel_rfl) (by kernel_rfl) (by kernel_rfl) O9.out (by first | rfl | simp) ?_; intro wx hst hO; have O9 := Hi hO; have O4 := Hi (hst.oth O4.out (by omega)); have O6 := Hi (hst.oth O6.out (by omega)); have BL := Hi (hst.below BL.out (by omega)); clear hst hO; have c4 : wx.cell? ⟨w.heap.size, 4, none⟩ = some (.int .i64 dp) := (O4.out.cell 4).trans rfl; have c6 : wx.cell? ⟨w.heap.size, 6, none⟩ = some (.int .i64 co) := (O4.out.cell 6).trans rfl; have c12 : wx.cell? ⟨w.heap.size, 12, none⟩ = some (.int .i64 en) := (O4.out.cell 12).trans rfl)
      go_wp2_with (first
        | (refine load_u (by kernel_rfl) 56 4 _ rfl w1.heap.size [.int .i64 ((en : Int) + (nb : Int)), .slice none 0 0, .int .i64 0, .int .i64 0] rfl rfl O9.out Tryz.underlying56 rfl (by kernel_rfl) ?_; intro _)
        | (refine store_o rfl 56 4 _ _ rfl (w.heap.size + 1) [.int .i64 ((en : Int) + (nb : Int)), .slice none 0 0, .int .i64 0, .int .i64 0] rfl rfl (by kernel_rfl) (by kernel_rfl) (by kernel_rfl) O6.out (by first | rfl | simp) ?_; intro wy hst hO; have O6 := Hi hO; have O4 := Hi (hst.oth O4.out (by omega)); have O9 := Hi (hst.oth O9.out (by omega)); have BL := Hi (hst.below BL.out (by omega)); clear hst hO))
      refine bodyPost_ret (v := .agg (List.toArray [.int .i64 ((en : Int) + (nb : Int)), .slice none 0 0, .int .i64 0, .int .i64 0])) ?_ rfl (show Table21Post w s kd co dp en nb _ _ from ⟨by rw [if_neg HF.out, if_neg HDD.out], BL.out⟩)
      exact results_c Tryz.results24 _ _ _ [.int .i64 ((en : Int) + (nb : Int)), .slice none 0 0, .int .i64 0, .int .i64 0] _ rfl O6.out.range0 Tryz.underlying56 rfl (by kernel_rfl)
end Go.Proofs.YtlfbaggcfaenlaaGreat

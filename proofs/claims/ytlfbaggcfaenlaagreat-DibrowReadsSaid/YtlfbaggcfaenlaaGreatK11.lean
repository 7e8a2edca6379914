/- dibhead.Head.masks, walked. -/
import Derived.Test.YtlfbaggcfaenlaaGreatK8
import Derived.Test.YtlfbaggcfaenlaaGreatK6
import Derived.Test.YtlfbaggcfaenlaaGreatK10
import Derived.Test.YtlfbaggcfaenlaaGreatK0
namespace Go.Proofs.YtlfbaggcfaenlaaGreat
open Go.RowKit
set_option linter.unusedVariables false
set_option linter.unusedSimpArgs false
def mkL (s : ByteArray) (sz : Int) (k : Nat) : Int := if k = 0 then lowK s 40 4 else if k = 1 then lowK s 44 4 else if k = 2 then lowK s 48 4 else if 56 ≤ sz then lowK s 52 4 else 0
def mk8 (l : Nat → Int) (dp : Int) : List Int := if (scan4 (pstep l dp)).2 = 0 then [(findI (l 0) dp).1, (findI (l 0) dp).2.1, (findI (l 1) dp).1, (findI (l 1) dp).2.1, (findI (l 2) dp).1, (findI (l 2) dp).2.1, (findI (l 3) dp).1, (findI (l 3) dp).2.1] else z8
theorem four_c (l : Nat → Int) (a0 a1 a2 a3 width i e : Int) (ks : List Int) (w : World) (h0 : l 0 = a0) (h1 : l 1 = a1) (h2 : l 2 = a2) (h3 : l 3 = a3) (hi : (scan4 (pstep l width)).1 = i) (he : (scan4 (pstep l width)).2 = e) (hk : mk8 l width = ks) :
    Calls Tryz.prog 143 #[.int .i64 a0, .int .i64 a1, .int .i64 a2, .int .i64 a3, .int .i64 width] w fun x w' => x = .returned (.tuple #[.agg (List.toArray (ks.map (.int .i64))), .int .i64 i, .int .i64 e]) ∧ Below w.heap.size w w' := by
  subst h0 h1 h2 h3 hi he hk
  refine (four_any l width w).mono ?_
  rintro x w' ⟨hb, hx⟩
  refine ⟨?_, hb⟩
  rw [hx]; unfold mk8
  split <;> rfl
theorem scan4_bd (f : Nat → Int) : 0 ≤ (scan4 f).1 ∧ (scan4 f).1 ≤ 3 := by unfold scan4; (repeat' split) <;> simp
theorem Stored.chgS {S : Nat → Prop} {a w w2 : World} {b o : Nat} {vs : List Value} (hst : Stored w b o vs w2) (h : Chg S a w) (hb : S b ∨ a.heap.size ≤ b) : Chg S a w2 := by
  rw [show w2 = _ from hst]; clear hst
  induction vs generalizing w o with
  | nil => exact h
  | cons v r ih => rw [World.setCells]; exact ih (h.set _ v hb)
def MaskPost (w : World) (HB : Nat) (L : List Value) (i : Int) (bad : Bool) (e : Ending) (w' : World) : Prop := e = .returned (.tuple #[.agg #[.bool bad, .int .i64 2, .int .i64 (40 + 4 * i)], .bool bad]) ∧ Obj1 w' HB (List.toArray L) 37 ∧ Chg (fun k => k = HB) w w'
set_option maxRecDepth 100000 in
set_option maxHeartbeats 8000000 in
theorem hmasks_any (s : ByteArray) (HB : Nat) (sz W H : Int) (top : Bool) (dp mt co fr : Int) (w : World) (h : 52 ≤ s.size) (h2 : 56 ≤ sz → 56 ≤ s.size) (hs : s.size ≤ 9223372036854775807) (hO : Obj1 w HB (List.toArray [.int .i64 sz, .int .i64 W, .int .i64 H, .bool top, .int .i64 dp, .int .i64 mt, .int .i64 co, .int .i64 0, .int .i64 0, .int .i64 0, .int .i64 0, .int .i64 0, .int .i64 0, .int .i64 0, .int .i64 0, .int .i64 fr]) 37) :
    Calls Tryz.prog 68 #[.pointer (some ⟨HB, 0, none⟩), .string s] w (MaskPost w HB ([.int .i64 sz, .int .i64 W, .int .i64 H, .bool top, .int .i64 dp, .int .i64 mt, .int .i64 co] ++ ((mk8 (mkL s sz) dp).map (Value.int .i64) ++ [.int .i64 fr])) (scan4 (pstep (mkL s sz) dp)).1 ((scan4 (pstep (mkL s sz) dp)).2 != 0)) := by
  unfold MaskPost
  obtain ⟨i, hi⟩ : ∃ i, (scan4 (pstep (mkL s sz) dp)).1 = i := ⟨_, rfl⟩
  obtain ⟨er, he⟩ : ∃ i, (scan4 (pstep (mkL s sz) dp)).2 = i := ⟨_, rfl⟩
  obtain ⟨bd, hbd⟩ : ∃ b, (er != 0) = b := ⟨_, rfl⟩
  obtain ⟨ks, hk⟩ : ∃ ks, mk8 (mkL s sz) dp = ks := ⟨_, rfl⟩
  obtain ⟨a0, h0⟩ : ∃ x, lowK s 40 4 = x := ⟨_, rfl⟩
  obtain ⟨a1, h1⟩ : ∃ x, lowK s 44 4 = x := ⟨_, rfl⟩
  obtain ⟨a2, h2'⟩ : ∃ x, lowK s 48 4 = x := ⟨_, rfl⟩
  obtain ⟨a3, h3⟩ : ∃ x, (if 56 ≤ sz then lowK s 52 4 else 0) = x := ⟨_, rfl⟩
  have hib := scan4_bd (pstep (mkL s sz) dp)
  rw [hi] at hib
  have HF := Hi (fun w0 => four_c (mkL s sz) a0 a1 a2 a3 dp i er ks w0 h0 h1 h2' h3 hi he hk)
  have hk8 : ∃ k0 k1 k2 k3 k4 k5 k6 k7, ks = [k0, k1, k2, k3, k4, k5, k6, k7] := by rw [← hk]; unfold mk8; split <;> exact ⟨_, _, _, _, _, _, _, _, rfl⟩
  obtain ⟨k0, k1, k2, k3, k4, k5, k6, k7, rfl⟩ := hk8
  have HF := Hi (fun w0 => (show Calls Tryz.prog 143 #[.int .i64 a0, .int .i64 a1, .int .i64 a2, .int .i64 a3, .int .i64 dp] w0 (fun x w' => x = .returned (.tuple #[.agg (List.toArray [.int .i64 k0, .int .i64 k1, .int .i64 k2, .int .i64 k3, .int .i64 k4, .int .i64 k5, .int .i64 k6, .int .i64 k7]), .int .i64 i, .int .i64 er]) ∧ Below w0.heap.size w0 w') from HF.out w0))
  rw [hi, he, hk, hbd]
  have H0 := Hi (fun w0 => hlow_at s 40 4 40 4 a0 w0 rfl rfl h0 (by omega) (by omega) hs)
  have H1 := Hi (fun w0 => hlow_at s 44 4 44 4 a1 w0 rfl rfl h1 (by omega) (by omega) hs)
  have H2 := Hi (fun w0 => hlow_at s 48 4 48 4 a2 w0 rfl rfl h2' (by omega) (by omega) hs)
  have OH := Hi (hO.alloc (.cells #[.bool false, .int .i64 0, .int .i64 0] 134))
  have O4 := Hi (obj1_new w #[.bool false, .int .i64 0, .int .i64 0] 134)
  have CH := Hi ((Chg.refl (fun k => k = HB) w).alloc (.cells #[.bool false, .int .i64 0, .int .i64 0] 134))
  have lH := hO.lt
  have H3 := Hi h3
  have E0 := fun (hc : 56 ≤ sz) => (show Calls Tryz.prog 134 #[.string s, .int .i64 52, .int .i64 4] w (fun e w' => e = .returned (.int .i64 a3) ∧ w' = w) from hlow_at s 52 4 52 4 a3 w rfl rfl (by rw [← h3, if_pos hc]) (by omega) (by have := h2 hc; omega) hs)
  have E3 := fun (hc : 56 ≤ sz) => Hi (fun w0 => hlow_at s 52 4 52 4 a3 w0 rfl rfl (by rw [← h3, if_pos hc]) (by omega) (by have := h2 hc; omega) hs)
  have E3n := fun (hc : ¬ 56 ≤ sz) => (show a3 = 0 by rw [← h3, if_neg hc])
  clear hi he hk h0 h1 h2' h3 hO E0
  go_enter Tryz.func68, Tryz.ntmps68
  go_upto_region 1 with (fail)
  generalize World.alloc _ _ = w1 at OH O4 CH ⊢
  obtain ⟨sb, hsb⟩ : ∃ b, decide (sz ≥ 56) = b := ⟨_, rfl⟩
  have HSB := Hi hsb
  have c0 : w1.cell? ⟨HB, 0, none⟩ = some (.int .i64 sz) := (OH.out.cell 0).trans rfl
  go_upto_if 14 with (fail)
  go_cut [6] from 15 to 16 (fun c wx => c = .int .i64 a3 ∧ wx = w1)
  case first =>
    clear hsb
    cases sb
    · obtain rfl := E3n (of_decide_eq_false HSB.out)
      clear E3 E3n
      go_wp2_with fail
      go_meet
      exact ⟨rfl, rfl⟩
    · have E := E3 (of_decide_eq_true HSB.out)
      clear E3 E3n
      go_wp2_with ((go_at_call 134; (with_reducible refine (E.out _).mono ?_); rintro e wl ⟨rfl, rfl⟩))
      go_meet
      exact ⟨rfl, rfl⟩
  case rest =>
    obtain ⟨rfl, rfl⟩ := hcut
    clear E3 E3n c0
    go_upto_region 4 with (fail)
    refine wp_region_noPanic ?_
    refine wp_region_held_drew (S := fun w' => w'.rangeAt HB 0 [.int .i64 sz, .int .i64 W, .int .i64 H, .bool top, .int .i64 dp, .int .i64 mt, .int .i64 co, .int .i64 0, .int .i64 0, .int .i64 0, .int .i64 0, .int .i64 0, .int .i64 0, .int .i64 0, .int .i64 0, .int .i64 fr]) (by kernel_rfl) OH.out.range0 (fun hHeld => ?_)
    refine wpAnyH_take (i := 0) (v := .string s) rfl (by kernel_rfl) (by kernel_rfl) (by kernel_rfl) (fun _ _ _ h => h) (Or.inl ⟨by rfl, fun w hS => by go_simp⟩) hHeld ?_
    simp only [Act.put, zq1, zq2, zq3, zq4, zq5, zq6]
    refine wpAnyH_take (i := 2) (v := .string s) rfl (by kernel_rfl) (by kernel_rfl) (by kernel_rfl) (fun _ _ _ h => h) (Or.inl ⟨by rfl, fun w hS => by go_simp⟩) hHeld ?_
    simp only [Act.put, zq1, zq2, zq3, zq4, zq5, zq6]
    refine wpAnyH_take (i := 4) (v := .string s) rfl (by kernel_rfl) (by kernel_rfl) (by kernel_rfl) (fun _ _ _ h => h) (Or.inl ⟨by rfl, fun w hS => by go_simp⟩) hHeld ?_
    simp only [Act.put, zq1, zq2, zq3, zq4, zq5, zq6]
    refine wpAnyH_take (i := 6) (v := .int .i64 a3) rfl (by kernel_rfl) (by kernel_rfl) (by kernel_rfl) (fun _ _ _ h => h) (Or.inl ⟨by rfl, fun w hS => by go_simp⟩) hHeld ?_
    simp only [Act.put, zq1, zq2, zq3, zq4, zq5, zq6]
    refine wpAnyH_take (i := 7) (v := .pointer (some ⟨HB, 0, none⟩)) rfl (by kernel_rfl) (by kernel_rfl) (by kernel_rfl) (fun _ _ _ h => h) (Or.inl ⟨by rfl, fun w hS => by go_simp⟩) hHeld ?_
    simp only [Act.put, zq1, zq2, zq3, zq4, zq5, zq6]
    refine wpAnyH_take (i := 8) (v := .pointer (some ⟨HB, 0, none⟩)) rfl (by kernel_rfl) (by kernel_rfl) (by kernel_rfl) (fun _ _ _ h => h) (Or.inl ⟨by rfl, fun w hS => by go_simp⟩) hHeld ?_
    simp only [Act.put, zq1, zq2, zq3, zq4, zq5, zq6]
    refine wpAnyH_take (i := 9) (v := .pointer (some ⟨HB, 4, none⟩)) rfl (by kernel_rfl) (by kernel_rfl) (by kernel_rfl) (fun _ _ _ h => h) (Or.inl ⟨by rfl, fun w hS => by go_simp⟩) hHeld ?_
    simp only [Act.put, zq1, zq2, zq3, zq4, zq5, zq6]
    refine wpAnyH_take (i := 10) (v := .int .i64 dp) rfl (by kernel_rfl) (by kernel_rfl) (by kernel_rfl) (fun _ _ _ h => h) (Or.inl ⟨by rfl, fun wx hS => by have h1 : wx.cell? ⟨HB, 4, none⟩ = some (.int .i64 dp) := hS 4 _ rfl; go_simp⟩) hHeld ?_
    simp only [Act.put, zq1, zq2, zq3, zq4, zq5, zq6]
    refine wpAnyH_call2 (i := 1) (v := .int .i64 a0) rfl (by kernel_rfl) (by kernel_rfl) (by kernel_rfl) (fun _ _ _ h => h) (Or.inr ⟨by rfl, fun wx _ => ⟨134, #[.string s, .int .i64 40, .int .i64 4], by kernel_rfl, H0.out wx⟩⟩) hHeld ?_
    simp only [Act.put, zq1, zq2, zq3, zq4, zq5, zq6]
    refine wpAnyH_call2 (i := 3) (v := .int .i64 a1) rfl (by kernel_rfl) (by kernel_rfl) (by kernel_rfl) (fun _ _ _ h => h) (Or.inr ⟨by rfl, fun wx _ => ⟨134, #[.string s, .int .i64 44, .int .i64 4], by kernel_rfl, H1.out wx⟩⟩) hHeld ?_
    simp only [Act.put, zq1, zq2, zq3, zq4, zq5, zq6]
    refine wpAnyH_call2 (i := 5) (v := .int .i64 a2) rfl (by kernel_rfl) (by kernel_rfl) (by kernel_rfl) (fun _ _ _ h => h) (Or.inr ⟨by rfl, fun wx _ => ⟨134, #[.string s, .int .i64 48, .int .i64 4], by kernel_rfl, H2.out wx⟩⟩) hHeld ?_
    simp only [Act.put, zq1, zq2, zq3, zq4, zq5, zq6]
    have OH := Hi (OH.out.drew)
    have O4 := Hi (O4.out.drew)
    have CH := Hi CH.out.drew
    generalize World.drew _ = wk at OH O4 CH ⊢
    refine wpAnyH_ready (rs := [11, 16]) (by kernel_rfl) (by simp) ?_
    refine AllReadyH.cons (o := _) rfl (fun K' hK => ?_) (AllReadyH.cons (o := _) rfl (fun K' hK => ?_) AllReadyH.nil)
    · skip
      go_simp
      refine (HF.out _).mono ?_
      rintro x wq ⟨rfl, hb⟩
      have zq := hb.size
      have OH := Hi (OH.out.below hb OH.out.lt)
      have O4 := Hi (O4.out.below hb O4.out.lt)
      have CH := Hi (CH.out.trans (chg_of_below hb _))
      clear hb
      go_wp2_with fail
      refine hK _ _ OH.out.range0 (fun hA1 => ?_)
      clear hK K'
      try simp only [Act.put, zq1, zq2, zq3, zq4, zq5, zq6]
      obtain ⟨wk, rfl⟩ : ∃ z, z = wq := ⟨_, rfl⟩
      refine wpAnyH_take (i := 12) (v := .tuple #[.agg (List.toArray [.int .i64 k0, .int .i64 k1, .int .i64 k2, .int .i64 k3, .int .i64 k4, .int .i64 k5, .int .i64 k6, .int .i64 k7]), .int .i64 i, .int .i64 er]) rfl (by kernel_rfl) (by kernel_rfl) (by kernel_rfl) (fun _ _ _ h => h) (Or.inl ⟨by rfl, fun w hS => by go_simp⟩) hA1 ?_
      simp only [Act.put, zq1, zq2, zq3, zq4, zq5, zq6]
      refine wpAnyH_take (i := 13) (v := .agg (List.toArray [.int .i64 k0, .int .i64 k1, .int .i64 k2, .int .i64 k3, .int .i64 k4, .int .i64 k5, .int .i64 k6, .int .i64 k7])) rfl (by kernel_rfl) (by kernel_rfl) (by kernel_rfl) (fun _ _ _ h => h) (Or.inl ⟨by rfl, fun w hS => by go_simp⟩) hA1 ?_
      simp only [Act.put, zq1, zq2, zq3, zq4, zq5, zq6]
      refine wpAnyH_take (i := 14) (v := .int .i64 i) rfl (by kernel_rfl) (by kernel_rfl) (by kernel_rfl) (fun _ _ _ h => h) (Or.inl ⟨by rfl, fun w hS => by go_simp⟩) hA1 ?_
      simp only [Act.put, zq1, zq2, zq3, zq4, zq5, zq6]
      refine wpAnyH_take (i := 15) (v := .int .i64 er) rfl (by kernel_rfl) (by kernel_rfl) (by kernel_rfl) (fun _ _ _ h => h) (Or.inl ⟨by rfl, fun w hS => by go_simp⟩) hA1 ?_
      simp only [Act.put, zq1, zq2, zq3, zq4, zq5, zq6]
      refine wpAnyH_ready (rs := [16]) (by kernel_rfl) (by simp) ?_
      refine AllReadyH.cons (o := _) rfl (fun K' hK => ?_) AllReadyH.nil
      go_simp
      have O7 := Hi (obj1_new wk #[.int .i64 0, .int .i64 0, .int .i64 0, .int .i64 0, .int .i64 0, .int .i64 0, .int .i64 0, .int .i64 0] 35)
      have lk := O4.out.lt
      have lkh := OH.out.lt
      have OH := Hi (OH.out.alloc (.cells #[.int .i64 0, .int .i64 0, .int .i64 0, .int .i64 0, .int .i64 0, .int .i64 0, .int .i64 0, .int .i64 0] 35))
      have O4 := Hi (O4.out.alloc (.cells #[.int .i64 0, .int .i64 0, .int .i64 0, .int .i64 0, .int .i64 0, .int .i64 0, .int .i64 0, .int .i64 0] 35))
      have CH := Hi (CH.out.alloc (.cells #[.int .i64 0, .int .i64 0, .int .i64 0, .int .i64 0, .int .i64 0, .int .i64 0, .int .i64 0, .int .i64 0] 35))
      obtain ⟨d, hd⟩ : ∃ d, wk.heap.size = d := ⟨_, rfl⟩
      rw [hd] at O7 lk lkh ⊢
      clear hd
      generalize World.alloc wk _ = wk2 at OH O4 O7 CH ⊢
      refine hK _ _ OH.out.range0 (fun hA2 => ?_)
      clear hK K'
      try simp only [Act.put, zq1, zq2, zq3, zq4, zq5, zq6]
      obtain ⟨wk, rfl⟩ : ∃ z, z = wk2 := ⟨_, rfl⟩
      refine wpAnyH_ready (rs := [17]) (by kernel_rfl) (by simp) ?_
      refine AllReadyH.cons (o := _) rfl (fun K' hK => ?_) AllReadyH.nil
      rw [if_pos (by rfl)]
      refine wp_store_mid 35 _ _ rfl (d) 0 (List.toArray [.int .i64 k0, .int .i64 k1, .int .i64 k2, .int .i64 k3, .int .i64 k4, .int .i64 k5, .int .i64 k6, .int .i64 k7]) rfl rfl (O7.out.there 0 8 (by simp)) (by kernel_rfl) (all_oneCell_toArray (List.all_eq_true.1 (by rfl))) ?_
      simp only [Act.put, zq1, zq2, zq3, zq4, zq5, zq6]
      have hst : Stored wk (d) 0 [.int .i64 k0, .int .i64 k1, .int .i64 k2, .int .i64 k3, .int .i64 k4, .int .i64 k5, .int .i64 k6, .int .i64 k7] (wk.setCells (d) 0 [.int .i64 k0, .int .i64 k1, .int .i64 k2, .int .i64 k3, .int .i64 k4, .int .i64 k5, .int .i64 k6, .int .i64 k7]) := rfl
      have O7 := Hi (hst.whole O7.out (by first | rfl | simp))
      have OH := Hi (hst.oth OH.out (by omega))
      have O4 := Hi (hst.oth O4.out (by omega))
      have CH := Hi (hst.chg CH.out (by omega))
      generalize World.setCells _ _ _ _ = wk2 at OH O4 O7 CH ⊢
      clear hst
      refine hK _ _ OH.out.range0 (fun hH1 => ?_)
      clear hK K'
      obtain ⟨wk, rfl⟩ : ∃ z, z = wk2 := ⟨_, rfl⟩
      refine wpAnyH_take (i := 18) (v := .int .i64 i) rfl (by kernel_rfl) (by kernel_rfl) (by kernel_rfl) (fun _ _ _ h => h) (Or.inl ⟨by rfl, fun w hS => by go_simp⟩) hH1 ?_
      simp only [Act.put, zq1, zq2, zq3, zq4, zq5, zq6]
      refine wpAnyH_take (i := 19) (v := .int .i64 er) rfl (by kernel_rfl) (by kernel_rfl) (by kernel_rfl) (fun _ _ _ h => h) (Or.inl ⟨by rfl, fun w hS => by go_simp⟩) hH1 ?_
      simp only [Act.put, zq1, zq2, zq3, zq4, zq5, zq6]
      refine wpAnyH_done (by kernel_rfl) ?_ _
      refine NoPanic.normal ?_
      go_upto_region 6 with (first
        | (refine load_u (by kernel_rfl) 35 8 _ rfl d [.int .i64 k0, .int .i64 k1, .int .i64 k2, .int .i64 k3, .int .i64 k4, .int .i64 k5, .int .i64 k6, .int .i64 k7] rfl rfl O7.out Tryz.underlying35 rfl (by kernel_rfl) ?_; intro _)
        | (refine store_a rfl 35 _ _ rfl HB 7 [.int .i64 k0, .int .i64 k1, .int .i64 k2, .int .i64 k3, .int .i64 k4, .int .i64 k5, .int .i64 k6, .int .i64 k7] rfl (by kernel_rfl) (by kernel_rfl) (by kernel_rfl) OH.out (by simp) ?_; intro ws hst hO; have OH := Hi (hO.cells (show _ = (List.toArray [.int .i64 sz, .int .i64 W, .int .i64 H, .bool top, .int .i64 dp, .int .i64 mt, .int .i64 co, .int .i64 k0, .int .i64 k1, .int .i64 k2, .int .i64 k3, .int .i64 k4, .int .i64 k5, .int .i64 k6, .int .i64 k7, .int .i64 fr]) from by kernel_rfl)); have O4 := Hi (hst.oth O4.out (by omega)); have CH := Hi (hst.chgS CH.out (Or.inl rfl)); clear hst hO))
      go_wp2_with ((refine store_o rfl 134 3 _ _ rfl w.heap.size [.bool bd, .int .i64 2, .int .i64 (40 + 4 * i)] rfl rfl (by kernel_rfl) (by kernel_rfl) (by kernel_rfl) O4.out (by first | rfl | simp) ?_; intro ws2 hst hO; have O4 := Hi hO; have OH := Hi (hst.oth OH.out (by omega)); have CH := Hi (hst.chgS CH.out (Or.inr (Nat.le_refl _))); clear hst hO))
      refine bodyPost_ret (v := .tuple #[.agg (List.toArray [.bool bd, .int .i64 2, .int .i64 (40 + 4 * i)]), .bool bd]) ?_ rfl ⟨rfl, OH.out, CH.out⟩
      exact results_c1 Tryz.results68 _ _ _ [.bool bd, .int .i64 2, .int .i64 (40 + 4 * i)] _ rfl O4.out.range0 Tryz.underlying134 rfl (by kernel_rfl)
    · skip
      go_simp
      have O7 := Hi (obj1_new wk #[.int .i64 0, .int .i64 0, .int .i64 0, .int .i64 0, .int .i64 0, .int .i64 0, .int .i64 0, .int .i64 0] 35)
      have lk := O4.out.lt
      have lkh := OH.out.lt
      have OH := Hi (OH.out.alloc (.cells #[.int .i64 0, .int .i64 0, .int .i64 0, .int .i64 0, .int .i64 0, .int .i64 0, .int .i64 0, .int .i64 0] 35))
      have O4 := Hi (O4.out.alloc (.cells #[.int .i64 0, .int .i64 0, .int .i64 0, .int .i64 0, .int .i64 0, .int .i64 0, .int .i64 0, .int .i64 0] 35))
      have CH := Hi (CH.out.alloc (.cells #[.int .i64 0, .int .i64 0, .int .i64 0, .int .i64 0, .int .i64 0, .int .i64 0, .int .i64 0, .int .i64 0] 35))
      obtain ⟨d, hd⟩ : ∃ d, wk.heap.size = d := ⟨_, rfl⟩
      rw [hd] at O7 lk lkh ⊢
      clear hd
      generalize World.alloc wk _ = wk2 at OH O4 O7 CH ⊢
      refine hK _ _ OH.out.range0 (fun hB1 => ?_)
      clear hK K'
      try simp only [Act.put, zq1, zq2, zq3, zq4, zq5, zq6]
      obtain ⟨wk, rfl⟩ : ∃ z, z = wk2 := ⟨_, rfl⟩
      refine wpAnyH_ready (rs := [11]) (by kernel_rfl) (by simp) ?_
      refine AllReadyH.cons (o := _) rfl (fun K' hK => ?_) AllReadyH.nil
      go_simp
      refine (HF.out _).mono ?_
      rintro x wq ⟨rfl, hb⟩
      have zq := hb.size
      have OH := Hi (OH.out.below hb OH.out.lt)
      have O4 := Hi (O4.out.below hb O4.out.lt)
      have CH := Hi (CH.out.trans (chg_of_below hb _))
      have O7 := Hi (O7.out.below hb O7.out.lt)
      clear hb
      go_wp2_with fail
      refine hK _ _ OH.out.range0 (fun hB2 => ?_)
      clear hK K'
      try simp only [Act.put, zq1, zq2, zq3, zq4, zq5, zq6]
      obtain ⟨wk, rfl⟩ : ∃ z, z = wq := ⟨_, rfl⟩
      refine wpAnyH_take (i := 12) (v := .tuple #[.agg (List.toArray [.int .i64 k0, .int .i64 k1, .int .i64 k2, .int .i64 k3, .int .i64 k4, .int .i64 k5, .int .i64 k6, .int .i64 k7]), .int .i64 i, .int .i64 er]) rfl (by kernel_rfl) (by kernel_rfl) (by kernel_rfl) (fun _ _ _ h => h) (Or.inl ⟨by rfl, fun w hS => by go_simp⟩) hB2 ?_
      simp only [Act.put, zq1, zq2, zq3, zq4, zq5, zq6]
      refine wpAnyH_take (i := 13) (v := .agg (List.toArray [.int .i64 k0, .int .i64 k1, .int .i64 k2, .int .i64 k3, .int .i64 k4, .int .i64 k5, .int .i64 k6, .int .i64 k7])) rfl (by kernel_rfl) (by kernel_rfl) (by kernel_rfl) (fun _ _ _ h => h) (Or.inl ⟨by rfl, fun w hS => by go_simp⟩) hB2 ?_
      simp only [Act.put, zq1, zq2, zq3, zq4, zq5, zq6]
      refine wpAnyH_take (i := 14) (v := .int .i64 i) rfl (by kernel_rfl) (by kernel_rfl) (by kernel_rfl) (fun _ _ _ h => h) (Or.inl ⟨by rfl, fun w hS => by go_simp⟩) hB2 ?_
      simp only [Act.put, zq1, zq2, zq3, zq4, zq5, zq6]
      refine wpAnyH_take (i := 15) (v := .int .i64 er) rfl (by kernel_rfl) (by kernel_rfl) (by kernel_rfl) (fun _ _ _ h => h) (Or.inl ⟨by rfl, fun w hS => by go_simp⟩) hB2 ?_
      simp only [Act.put, zq1, zq2, zq3, zq4, zq5, zq6]
      refine wpAnyH_ready (rs := [17]) (by kernel_rfl) (by simp) ?_
      refine AllReadyH.cons (o := _) rfl (fun K' hK => ?_) AllReadyH.nil
      rw [if_pos (by rfl)]
      refine wp_store_mid 35 _ _ rfl (d) 0 (List.toArray [.int .i64 k0, .int .i64 k1, .int .i64 k2, .int .i64 k3, .int .i64 k4, .int .i64 k5, .int .i64 k6, .int .i64 k7]) rfl rfl (O7.out.there 0 8 (by simp)) (by kernel_rfl) (all_oneCell_toArray (List.all_eq_true.1 (by rfl))) ?_
      simp only [Act.put, zq1, zq2, zq3, zq4, zq5, zq6]
      have hst : Stored wk (d) 0 [.int .i64 k0, .int .i64 k1, .int .i64 k2, .int .i64 k3, .int .i64 k4, .int .i64 k5, .int .i64 k6, .int .i64 k7] (wk.setCells (d) 0 [.int .i64 k0, .int .i64 k1, .int .i64 k2, .int .i64 k3, .int .i64 k4, .int .i64 k5, .int .i64 k6, .int .i64 k7]) := rfl
      have O7 := Hi (hst.whole O7.out (by first | rfl | simp))
      have OH := Hi (hst.oth OH.out (by omega))
      have O4 := Hi (hst.oth O4.out (by omega))
      have CH := Hi (hst.chg CH.out (by omega))
      generalize World.setCells _ _ _ _ = wk2 at OH O4 O7 CH ⊢
      clear hst
      refine hK _ _ OH.out.range0 (fun hH1 => ?_)
      clear hK K'
      obtain ⟨wk, rfl⟩ : ∃ z, z = wk2 := ⟨_, rfl⟩
      refine wpAnyH_take (i := 18) (v := .int .i64 i) rfl (by kernel_rfl) (by kernel_rfl) (by kernel_rfl) (fun _ _ _ h => h) (Or.inl ⟨by rfl, fun w hS => by go_simp⟩) hH1 ?_
      simp only [Act.put, zq1, zq2, zq3, zq4, zq5, zq6]
      refine wpAnyH_take (i := 19) (v := .int .i64 er) rfl (by kernel_rfl) (by kernel_rfl) (by kernel_rfl) (fun _ _ _ h => h) (Or.inl ⟨by rfl, fun w hS => by go_simp⟩) hH1 ?_
      simp only [Act.put, zq1, zq2, zq3, zq4, zq5, zq6]
      refine wpAnyH_done (by kernel_rfl) ?_ _
      refine NoPanic.normal ?_
      go_upto_region 6 with (first
        | (refine load_u (by kernel_rfl) 35 8 _ rfl d [.int .i64 k0, .int .i64 k1, .int .i64 k2, .int .i64 k3, .int .i64 k4, .int .i64 k5, .int .i64 k6, .int .i64 k7] rfl rfl O7.out Tryz.underlying35 rfl (by kernel_rfl) ?_; intro _)
        | (refine store_a rfl 35 _ _ rfl HB 7 [.int .i64 k0, .int .i64 k1, .int .i64 k2, .int .i64 k3, .int .i64 k4, .int .i64 k5, .int .i64 k6, .int .i64 k7] rfl (by kernel_rfl) (by kernel_rfl) (by kernel_rfl) OH.out (by simp) ?_; intro ws hst hO; have OH := Hi (hO.cells (show _ = (List.toArray [.int .i64 sz, .int .i64 W, .int .i64 H, .bool top, .int .i64 dp, .int .i64 mt, .int .i64 co, .int .i64 k0, .int .i64 k1, .int .i64 k2, .int .i64 k3, .int .i64 k4, .int .i64 k5, .int .i64 k6, .int .i64 k7, .int .i64 fr]) from by kernel_rfl)); have O4 := Hi (hst.oth O4.out (by omega)); have CH := Hi (hst.chgS CH.out (Or.inl rfl)); clear hst hO))
      go_wp2_with ((refine store_o rfl 134 3 _ _ rfl w.heap.size [.bool bd, .int .i64 2, .int .i64 (40 + 4 * i)] rfl rfl (by kernel_rfl) (by kernel_rfl) (by kernel_rfl) O4.out (by first | rfl | simp) ?_; intro ws2 hst hO; have O4 := Hi hO; have OH := Hi (hst.oth OH.out (by omega)); have CH := Hi (hst.chgS CH.out (Or.inr (Nat.le_refl _))); clear hst hO))
      refine bodyPost_ret (v := .tuple #[.agg (List.toArray [.bool bd, .int .i64 2, .int .i64 (40 + 4 * i)]), .bool bd]) ?_ rfl ⟨rfl, OH.out, CH.out⟩
      exact results_c1 Tryz.results68 _ _ _ [.bool bd, .int .i64 2, .int .i64 (40 + 4 * i)] _ rfl O4.out.range0 Tryz.underlying134 rfl (by kernel_rfl)
end Go.Proofs.YtlfbaggcfaenlaaGreat

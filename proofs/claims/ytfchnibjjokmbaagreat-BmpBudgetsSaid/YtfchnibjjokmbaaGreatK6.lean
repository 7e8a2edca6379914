/- Parts. -/
import Derived.Test.YtfchnibjjokmbaaGreatK5
import Derived.Test.YtfchnibjjokmbaaGreatK4
set_option linter.all false
set_option maxRecDepth 100000
set_option maxHeartbeats 16000000
open Go.Value renaming int → J, pointer → Y
open Go.IntKind renaming i64 → I, u8 → U
namespace Go.Proofs.YtfchnibjjokmbaaGreat
open Go.RowKit
def mkL (s : ByteArray) (sz : Int) (k : Nat) : Int := if k = 0 then aC s 40 4 else if k = 1 then aC s 44 4 else if k = 2 then aC s 48 4 else if 56 ≤ sz then aC s 52 4 else 0
def mk8 (l : Nat → Int) (dp : Int) : List Int := if (aW (ae l dp)).2 = 0 then [(aH (l 0) dp).1, (aH (l 0) dp).2.1, (aH (l 1) dp).1, (aH (l 1) dp).2.1, (aH (l 2) dp).1, (aH (l 2) dp).2.1, (aH (l 3) dp).1, (aH (l 3) dp).2.1] else z8
theorem four_c (l : Nat → Int) (a0 a1 a2 a3 width i e : Int) (ks : List Int) (w : World) (h0 : l 0 = a0) (h1 : l 1 = a1) (h2 : l 2 = a2) (h3 : l 3 = a3) (hi : (aW (ae l width)).1 = i) (he : (aW (ae l width)).2 = e) (hk : mk8 l width = ks) :
 Calls Tryz.prog 105 #[J I a0, J I a1, J I a2, J I a3, J I width] w fun x w' => x = .returned (.tuple #[.agg (List.toArray (ks.map (.int .i64))), J I i, J I e]) ∧ Below w.heap.size w w' := by
 subst h0 h1 h2 h3 hi he hk
 refine (four_any l width w).mono ?_
 rintro x w' ⟨hb, hx⟩
 refine ⟨?_, hb⟩
 rw [hx]; unfold mk8
 split <;> rfl
theorem scan4_bd (f : Nat → Int) : 0 ≤ (aW f).1 ∧ (aW f).1 ≤ 3 := by unfold aW; (repeat' split) <;> simp
theorem Stored.chgS {S : Nat → Prop} {a w w2 : World} {b o : Nat} {vs : List Value} (hst : Stored w b o vs w2) (h : Chg S a w) (hb : S b ∨ a.heap.size ≤ b) : Chg S a w2 := by
 rw [show w2 = _ from hst]; clear hst
 induction vs generalizing w o with
 | nil => exact h
 | cons v r ih => rw [World.setCells]; exact ih (h.set _ v hb)
def MaskPost (w : World) (HB : Nat) (L : List Value) (i : Int) (bad : Bool) (e : Ending) (w' : World) : Prop := e = .returned (.tuple #[.agg #[.bool bad, J I 2, J I (40 + 4 * i)], .bool bad]) ∧ Obj1 w' HB (List.toArray L) 63 ∧ Chg (fun k => k = HB) w w'
theorem hmasks_any (s : ByteArray) (HB : Nat) (sz W H : Int) (top : Bool) (dp mt co fr : Int) (w : World) (h : 52 ≤ s.size) (h2 : 56 ≤ sz → 56 ≤ s.size) (hs : s.size ≤ 9223372036854775807) (hO : Obj1 w HB (List.toArray [J I sz, J I W, J I H, .bool top, J I dp, J I mt, J I co, J I 0, J I 0, J I 0, J I 0, J I 0, J I 0, J I 0, J I 0, J I fr]) 63) :
 Calls Tryz.prog 63 #[Y (some ⟨HB, 0, none⟩), .string s] w (MaskPost w HB ([J I sz, J I W, J I H, .bool top, J I dp, J I mt, J I co] ++ ((mk8 (mkL s sz) dp).map (Value.int .i64) ++ [J I fr])) (aW (ae (mkL s sz) dp)).1 ((aW (ae (mkL s sz) dp)).2 != 0)) := by
 unfold MaskPost
 obtain ⟨i, hi⟩ : ∃ i, (aW (ae (mkL s sz) dp)).1 = i := ⟨_, rfl⟩
 obtain ⟨er, he⟩ : ∃ i, (aW (ae (mkL s sz) dp)).2 = i := ⟨_, rfl⟩
 obtain ⟨bd, hbd⟩ : ∃ b, (er != 0) = b := ⟨_, rfl⟩
 obtain ⟨ks, hk⟩ : ∃ ks, mk8 (mkL s sz) dp = ks := ⟨_, rfl⟩
 obtain ⟨a0, h0⟩ : ∃ x, aC s 40 4 = x := ⟨_, rfl⟩
 obtain ⟨a1, h1⟩ : ∃ x, aC s 44 4 = x := ⟨_, rfl⟩
 obtain ⟨a2, h2'⟩ : ∃ x, aC s 48 4 = x := ⟨_, rfl⟩
 obtain ⟨a3, h3⟩ : ∃ x, (if 56 ≤ sz then aC s 52 4 else 0) = x := ⟨_, rfl⟩
 have hib := scan4_bd (ae (mkL s sz) dp)
 rw [hi] at hib
 have HF := Hi (fun w0 => four_c (mkL s sz) a0 a1 a2 a3 dp i er ks w0 h0 h1 h2' h3 hi he hk)
 have hk8 : ∃ k0 k1 k2 k3 k4 k5 k6 k7, ks = [k0, k1, k2, k3, k4, k5, k6, k7] := by rw [← hk]; unfold mk8; split <;> exact ⟨_, _, _, _, _, _, _, _, rfl⟩
 obtain ⟨k0, k1, k2, k3, k4, k5, k6, k7, rfl⟩ := hk8
 have HF := Hi (fun w0 => (show Calls Tryz.prog 105 #[J I a0, J I a1, J I a2, J I a3, J I dp] w0 (fun x w' => x = .returned (.tuple #[.agg (List.toArray [J I k0, J I k1, J I k2, J I k3, J I k4, J I k5, J I k6, J I k7]), J I i, J I er]) ∧ Below w0.heap.size w0 w') from HF.out w0))
 rw [hi, he, hk, hbd]
 have H0 := Hi (fun w0 => hlow_at s 40 4 40 4 a0 w0 rfl rfl h0 (by omega) (by omega) hs)
 have H1 := Hi (fun w0 => hlow_at s 44 4 44 4 a1 w0 rfl rfl h1 (by omega) (by omega) hs)
 have H2 := Hi (fun w0 => hlow_at s 48 4 48 4 a2 w0 rfl rfl h2' (by omega) (by omega) hs)
 have OH := Hi (hO.alloc (.cells #[.bool false, J I 0, J I 0] 134))
 have O4 := Hi (aA w #[.bool false, J I 0, J I 0] 134)
 have CH := Hi ((Chg.refl (fun k => k = HB) w).alloc (.cells #[.bool false, J I 0, J I 0] 134))
 have lH := hO.lt
 have H3 := Hi h3
 have E0 := fun (hc : 56 ≤ sz) => (show Calls Tryz.prog 97 #[.string s, J I 52, J I 4] w (fun e w' => e = .returned (J I a3) ∧ w' = w) from hlow_at s 52 4 52 4 a3 w rfl rfl (by rw [← h3, if_pos hc]) (by omega) (by have := h2 hc; omega) hs)
 have E3 := fun (hc : 56 ≤ sz) => Hi (fun w0 => hlow_at s 52 4 52 4 a3 w0 rfl rfl (by rw [← h3, if_pos hc]) (by omega) (by have := h2 hc; omega) hs)
 have E3n := fun (hc : ¬ 56 ≤ sz) => (show a3 = 0 by rw [← h3, if_neg hc])
 clear hi he hk h0 h1 h2' h3 hO E0
 go_enter Tryz.func63, Tryz.ntmps63
 go_upto_region 1 with (fail)
 generalize World.alloc _ _ = w1 at OH O4 CH ⊢
 obtain ⟨sb, hsb⟩ : ∃ b, decide (sz ≥ 56) = b := ⟨_, rfl⟩
 have HSB := Hi hsb
 have c0 : w1.cell? ⟨HB, 0, none⟩ = some (J I sz) := (OH.out.cell 0).trans rfl
 go_upto_if 14 with (fail)
 go_cut [6] from 15 to 16 (fun c wx => c = J I a3 ∧ wx = w1)
 case first =>
  clear hsb
  cases sb
  · obtain rfl := E3n (of_decide_eq_false HSB.out)
    clear E3 E3n
    go_wp2_with fail
    go_meet
    exact ⟨rfl, rfl⟩
  · have E := E3 (of_decide_eq_true HSB.out)
    clear E3 E3n
    go_wp2_with ((go_at_call 97; (with_reducible refine (E.out _).mono ?_); rintro e wl ⟨rfl, rfl⟩))
    go_meet
    exact ⟨rfl, rfl⟩
 case rest =>
  obtain ⟨rfl, rfl⟩ := hcut
  clear E3 E3n c0
  go_upto_region 4 with (fail)
  refine wp_region_noPanic ?_
  refine wp_region_held_drew (S := fun w' => w'.rangeAt HB 0 [J I sz, J I W, J I H, .bool top, J I dp, J I mt, J I co, J I 0, J I 0, J I 0, J I 0, J I 0, J I 0, J I 0, J I 0, J I fr]) (by kernel_rfl) OH.out.range0 (fun hHeld => ?_)
  refine zt 0 (.string s) rfl hHeld ?_
  refine zt 2 (.string s) rfl hHeld ?_
  refine zt 4 (.string s) rfl hHeld ?_
  refine zt 6 (J I a3) rfl hHeld ?_
  refine zt 7 (Y (some ⟨HB, 0, none⟩)) rfl hHeld ?_
  refine zt 8 (Y (some ⟨HB, 0, none⟩)) rfl hHeld ?_
  refine zt 9 (Y (some ⟨HB, 4, none⟩)) rfl hHeld ?_
  refine zt 10 (J I dp) rfl hHeld ?_ (hy := fun wx hS => by have h1 : wx.cell? ⟨HB, 4, none⟩ = some (J I dp) := hS 4 _ rfl; go_simp)
  refine aR (i := 1) (v := J I a0) rfl (by kernel_rfl) (by kernel_rfl) (by kernel_rfl) (fun _ _ _ h => h) (Or.inr ⟨by rfl, fun wx _ => ⟨97, #[.string s, J I 40, J I 4], by kernel_rfl, H0.out wx⟩⟩) hHeld ?_
  simp only [Act.put, zq1, zq2, zq3, zq4, zq5, zq6]
  refine aR (i := 3) (v := J I a1) rfl (by kernel_rfl) (by kernel_rfl) (by kernel_rfl) (fun _ _ _ h => h) (Or.inr ⟨by rfl, fun wx _ => ⟨97, #[.string s, J I 44, J I 4], by kernel_rfl, H1.out wx⟩⟩) hHeld ?_
  simp only [Act.put, zq1, zq2, zq3, zq4, zq5, zq6]
  refine aR (i := 5) (v := J I a2) rfl (by kernel_rfl) (by kernel_rfl) (by kernel_rfl) (fun _ _ _ h => h) (Or.inr ⟨by rfl, fun wx _ => ⟨97, #[.string s, J I 48, J I 4], by kernel_rfl, H2.out wx⟩⟩) hHeld ?_
  simp only [Act.put, zq1, zq2, zq3, zq4, zq5, zq6]
  have OH := Hi (OH.out.drew)
  have O4 := Hi (O4.out.drew)
  have CH := Hi CH.out.drew
  generalize World.drew _ = wk at OH O4 CH ⊢
  refine wpAnyH_ready (rs := [11, 16]) (by kernel_rfl) (by simp) ?_
  refine AllReadyH.cons (o := _) rfl (fun K' hK => ?_) (AllReadyH.cons (o := _) rfl (fun K' hK => ?_) AllReadyH.nil)
  · skip
    go_simp
    refine (HF.out _).mono ?_
    rintro x wq ⟨rfl, hb⟩
    have zq := hb.size
    have OH := Hi (OH.out.below hb OH.out.lt)
    have O4 := Hi (O4.out.below hb O4.out.lt)
    have CH := Hi (CH.out.trans (aB hb _))
    clear hb
    go_wp2_with fail
    refine hK _ _ OH.out.range0 (fun hA1 => ?_)
    clear hK K'
    try simp only [Act.put, zq1, zq2, zq3, zq4, zq5, zq6]
    obtain ⟨wk, rfl⟩ : ∃ z, z = wq := ⟨_, rfl⟩
    refine zt 12 (.tuple #[.agg (List.toArray [J I k0, J I k1, J I k2, J I k3, J I k4, J I k5, J I k6, J I k7]), J I i, J I er]) rfl hA1 ?_
    refine zt 13 (.agg (List.toArray [J I k0, J I k1, J I k2, J I k3, J I k4, J I k5, J I k6, J I k7])) rfl hA1 ?_
    refine zt 14 (J I i) rfl hA1 ?_
    refine zt 15 (J I er) rfl hA1 ?_
    refine wpAnyH_ready (rs := [16]) (by kernel_rfl) (by simp) ?_
    refine AllReadyH.cons (o := _) rfl (fun K' hK => ?_) AllReadyH.nil
    go_simp
    have O7 := Hi (aA wk #[J I 0, J I 0, J I 0, J I 0, J I 0, J I 0, J I 0, J I 0] 61)
    have lk := O4.out.lt
    have lkh := OH.out.lt
    have OH := Hi (OH.out.alloc (.cells #[J I 0, J I 0, J I 0, J I 0, J I 0, J I 0, J I 0, J I 0] 61))
    have O4 := Hi (O4.out.alloc (.cells #[J I 0, J I 0, J I 0, J I 0, J I 0, J I 0, J I 0, J I 0] 61))
    have CH := Hi (CH.out.alloc (.cells #[J I 0, J I 0, J I 0, J I 0, J I 0, J I 0, J I 0, J I 0] 61))
    obtain ⟨d, hd⟩ : ∃ d, wk.heap.size = d := ⟨_, rfl⟩
    rw [hd] at O7 lk lkh ⊢
    clear hd
    generalize World.alloc wk _ = wk2 at OH O4 O7 CH ⊢
    refine hK _ _ OH.out.range0 (fun hA2 => ?_)
    clear hK K'
    try simp only [Act.put, zq1, zq2, zq3, zq4, zq5, zq6]
    obtain ⟨wk, rfl⟩ : ∃ z, z = wk2 := ⟨_, rfl⟩
    refine wpAnyH_ready (rs := [17]) (by kernel_rfl) (by simp) ?_
    refine AllReadyH.cons (o := _) rfl (fun K' hK => ?_) AllReadyH.nil
    rw [if_pos (by rfl)]
    refine wp_store_mid 61 _ _ rfl (d) 0 (List.toArray [J I k0, J I k1, J I k2, J I k3, J I k4, J I k5, J I k6, J I k7]) rfl rfl (O7.out.there 0 8 (by simp)) (by kernel_rfl) (all_oneCell_toArray (List.all_eq_true.1 (by rfl))) ?_
    simp only [Act.put, zq1, zq2, zq3, zq4, zq5, zq6]
    have hst : Stored wk (d) 0 [J I k0, J I k1, J I k2, J I k3, J I k4, J I k5, J I k6, J I k7] (wk.setCells (d) 0 [J I k0, J I k1, J I k2, J I k3, J I k4, J I k5, J I k6, J I k7]) := rfl
    have O7 := Hi (hst.whole O7.out (by first | rfl | simp))
    have OH := Hi (hst.oth OH.out (by omega))
    have O4 := Hi (hst.oth O4.out (by omega))
    have CH := Hi (hst.chg CH.out (by omega))
    generalize World.setCells _ _ _ _ = wk2 at OH O4 O7 CH ⊢
    clear hst
    refine hK _ _ OH.out.range0 (fun hH1 => ?_)
    clear hK K'
    obtain ⟨wk, rfl⟩ : ∃ z, z = wk2 := ⟨_, rfl⟩
    refine zt 18 (J I i) rfl hH1 ?_
    refine zt 19 (J I er) rfl hH1 ?_
    refine wpAnyH_done (by kernel_rfl) ?_ _
    refine NoPanic.normal ?_
    go_upto_region 6 with (first
     | (refine aL (by kernel_rfl) 61 8 _ rfl d [J I k0, J I k1, J I k2, J I k3, J I k4, J I k5, J I k6, J I k7] rfl rfl O7.out Tryz.underlying61 rfl (by kernel_rfl) ?_; intro _)
     | (refine store_a rfl 61 _ _ rfl HB 7 [J I k0, J I k1, J I k2, J I k3, J I k4, J I k5, J I k6, J I k7] rfl (by kernel_rfl) (by kernel_rfl) (by kernel_rfl) OH.out (by simp) ?_; intro ws hst hO; have OH := Hi (hO.cells (show _ = (List.toArray [J I sz, J I W, J I H, .bool top, J I dp, J I mt, J I co, J I k0, J I k1, J I k2, J I k3, J I k4, J I k5, J I k6, J I k7, J I fr]) from by kernel_rfl)); have O4 := Hi (hst.oth O4.out (by omega)); have CH := Hi (hst.chgS CH.out (Or.inl rfl)); clear hst hO))
    go_wp2_with ((refine so 134 3 w.heap.size [.bool bd, J I 2, J I (40 + 4 * i)] O4.out ?_; intro ws2 hst hO; have O4 := Hi hO; have OH := Hi (hst.oth OH.out (by omega)); have CH := Hi (hst.chgS CH.out (Or.inr (Nat.le_refl _))); clear hst hO))
    refine bodyPost_ret (v := .tuple #[.agg (List.toArray [.bool bd, J I 2, J I (40 + 4 * i)]), .bool bd]) ?_ rfl ⟨rfl, OH.out, CH.out⟩
    exact ag Tryz.results63 _ _ _ [.bool bd, J I 2, J I (40 + 4 * i)] _ rfl O4.out.range0 Tryz.underlying134 rfl (by kernel_rfl)
  · skip
    go_simp
    have O7 := Hi (aA wk #[J I 0, J I 0, J I 0, J I 0, J I 0, J I 0, J I 0, J I 0] 61)
    have lk := O4.out.lt
    have lkh := OH.out.lt
    have OH := Hi (OH.out.alloc (.cells #[J I 0, J I 0, J I 0, J I 0, J I 0, J I 0, J I 0, J I 0] 61))
    have O4 := Hi (O4.out.alloc (.cells #[J I 0, J I 0, J I 0, J I 0, J I 0, J I 0, J I 0, J I 0] 61))
    have CH := Hi (CH.out.alloc (.cells #[J I 0, J I 0, J I 0, J I 0, J I 0, J I 0, J I 0, J I 0] 61))
    obtain ⟨d, hd⟩ : ∃ d, wk.heap.size = d := ⟨_, rfl⟩
    rw [hd] at O7 lk lkh ⊢
    clear hd
    generalize World.alloc wk _ = wk2 at OH O4 O7 CH ⊢
    refine hK _ _ OH.out.range0 (fun hB1 => ?_)
    clear hK K'
    try simp only [Act.put, zq1, zq2, zq3, zq4, zq5, zq6]
    obtain ⟨wk, rfl⟩ : ∃ z, z = wk2 := ⟨_, rfl⟩
    refine wpAnyH_ready (rs := [11]) (by kernel_rfl) (by simp) ?_
    refine AllReadyH.cons (o := _) rfl (fun K' hK => ?_) AllReadyH.nil
    go_simp
    refine (HF.out _).mono ?_
    rintro x wq ⟨rfl, hb⟩
    have zq := hb.size
    have OH := Hi (OH.out.below hb OH.out.lt)
    have O4 := Hi (O4.out.below hb O4.out.lt)
    have CH := Hi (CH.out.trans (aB hb _))
    have O7 := Hi (O7.out.below hb O7.out.lt)
    clear hb
    go_wp2_with fail
    refine hK _ _ OH.out.range0 (fun hB2 => ?_)
    clear hK K'
    try simp only [Act.put, zq1, zq2, zq3, zq4, zq5, zq6]
    obtain ⟨wk, rfl⟩ : ∃ z, z = wq := ⟨_, rfl⟩
    refine zt 12 (.tuple #[.agg (List.toArray [J I k0, J I k1, J I k2, J I k3, J I k4, J I k5, J I k6, J I k7]), J I i, J I er]) rfl hB2 ?_
    refine zt 13 (.agg (List.toArray [J I k0, J I k1, J I k2, J I k3, J I k4, J I k5, J I k6, J I k7])) rfl hB2 ?_
    refine zt 14 (J I i) rfl hB2 ?_
    refine zt 15 (J I er) rfl hB2 ?_
    refine wpAnyH_ready (rs := [17]) (by kernel_rfl) (by simp) ?_
    refine AllReadyH.cons (o := _) rfl (fun K' hK => ?_) AllReadyH.nil
    rw [if_pos (by rfl)]
    refine wp_store_mid 61 _ _ rfl (d) 0 (List.toArray [J I k0, J I k1, J I k2, J I k3, J I k4, J I k5, J I k6, J I k7]) rfl rfl (O7.out.there 0 8 (by simp)) (by kernel_rfl) (all_oneCell_toArray (List.all_eq_true.1 (by rfl))) ?_
    simp only [Act.put, zq1, zq2, zq3, zq4, zq5, zq6]
    have hst : Stored wk (d) 0 [J I k0, J I k1, J I k2, J I k3, J I k4, J I k5, J I k6, J I k7] (wk.setCells (d) 0 [J I k0, J I k1, J I k2, J I k3, J I k4, J I k5, J I k6, J I k7]) := rfl
    have O7 := Hi (hst.whole O7.out (by first | rfl | simp))
    have OH := Hi (hst.oth OH.out (by omega))
    have O4 := Hi (hst.oth O4.out (by omega))
    have CH := Hi (hst.chg CH.out (by omega))
    generalize World.setCells _ _ _ _ = wk2 at OH O4 O7 CH ⊢
    clear hst
    refine hK _ _ OH.out.range0 (fun hH1 => ?_)
    clear hK K'
    obtain ⟨wk, rfl⟩ : ∃ z, z = wk2 := ⟨_, rfl⟩
    refine zt 18 (J I i) rfl hH1 ?_
    refine zt 19 (J I er) rfl hH1 ?_
    refine wpAnyH_done (by kernel_rfl) ?_ _
    refine NoPanic.normal ?_
    go_upto_region 6 with (first
     | (refine aL (by kernel_rfl) 61 8 _ rfl d [J I k0, J I k1, J I k2, J I k3, J I k4, J I k5, J I k6, J I k7] rfl rfl O7.out Tryz.underlying61 rfl (by kernel_rfl) ?_; intro _)
     | (refine store_a rfl 61 _ _ rfl HB 7 [J I k0, J I k1, J I k2, J I k3, J I k4, J I k5, J I k6, J I k7] rfl (by kernel_rfl) (by kernel_rfl) (by kernel_rfl) OH.out (by simp) ?_; intro ws hst hO; have OH := Hi (hO.cells (show _ = (List.toArray [J I sz, J I W, J I H, .bool top, J I dp, J I mt, J I co, J I k0, J I k1, J I k2, J I k3, J I k4, J I k5, J I k6, J I k7, J I fr]) from by kernel_rfl)); have O4 := Hi (hst.oth O4.out (by omega)); have CH := Hi (hst.chgS CH.out (Or.inl rfl)); clear hst hO))
    go_wp2_with ((refine so 134 3 w.heap.size [.bool bd, J I 2, J I (40 + 4 * i)] O4.out ?_; intro ws2 hst hO; have O4 := Hi hO; have OH := Hi (hst.oth OH.out (by omega)); have CH := Hi (hst.chgS CH.out (Or.inr (Nat.le_refl _))); clear hst hO))
    refine bodyPost_ret (v := .tuple #[.agg (List.toArray [.bool bd, J I 2, J I (40 + 4 * i)]), .bool bd]) ?_ rfl ⟨rfl, OH.out, CH.out⟩
    exact ag Tryz.results63 _ _ _ [.bool bd, J I 2, J I (40 + 4 * i)] _ rfl O4.out.range0 Tryz.underlying134 rfl (by kernel_rfl)
def comM (dp : Int) : List Int := if dp = 16 then [10, 5, 5, 5, 0, 5, 0, 0] else if dp = 32 then [16, 8, 8, 8, 0, 8, 0, 0] else z8
theorem common_any (dp : Int) (w : World) : Calls Tryz.prog 64 #[J I dp] w fun e w' => ∃ b, e = .returned (.tuple #[.agg (List.toArray ((comM dp).map (.int .i64))), .bool b]) ∧ Below w.heap.size w w' := by
 by_cases h1 : dp = 16
 · subst h1; exact (common16 w).mono fun e w' hh => ⟨true, hh.1, hh.2⟩
 by_cases h2 : dp = 32
 · subst h2; exact (common32 w).mono fun e w' hh => ⟨true, hh.1, hh.2⟩
 exact (common_no dp w (eqf h1) (eqf h2)).mono fun e w' hh => ⟨false, hh.1.trans (by unfold comM; rw [if_neg h1, if_neg h2]; rfl), hh.2⟩
def ao (b : ByteArray) : Hd := if b.size = 12 then smallH b else greatH b
def fdOf (b : ByteArray) : List Fnd := if b.size = 12 then smallF b else aj b
theorem hdOf_m (b : ByteArray) : (ao b).m = z8 ∧ (ao b).fr = 0 ∧ (ao b).sz = b.size := by
 unfold ao
 split
 · rename_i h; exact ⟨rfl, rfl, by rw [h]; rfl⟩
 · exact ⟨rfl, rfl, rfl⟩
theorem fdOf_len (b : ByteArray) : (b.size = 12 → (fdOf b).length = 6) ∧ (b.size ≠ 12 → (fdOf b).length = 10) := by
 unfold fdOf
 exact ⟨fun h => by rw [if_pos h]; rfl, fun h => by rw [if_neg h]; rfl⟩
theorem hdOf_mt (b : ByteArray) (h : b.size = 12) : (ao b).mt = 0 := by unfold ao; rw [if_pos h]; rfl
def tkOk (x : Sr) (l : Led) : Bool := (x.next l 4).2.2 && (aU (aC (x.next l 4).2.1 0 4) && ((x.next l 4).1.1.next (x.next l 4).1.2 (aC (x.next l 4).2.1 0 4 - 4)).2.2)
theorem faultL_kind (y : Sr) (m : Led) (f : Int) : ∃ k a p : Int, k ≠ 0 ∧ aK y m f = [J I k, J I a, J I p] := by
 unfold aK; split
 · exact ⟨4, f, _, by decide, rfl⟩
 · exact ⟨1, f, _, by decide, rfl⟩
theorem tk_bad {x : Sr} {l : Led} (f : Int) (h : tkOk x l = false) : ∃ k a p : Int, k ≠ 0 ∧ (ac x l f).1 = (ByteArray.empty, [J I k, J I a, J I p]) := by
 unfold tkOk at h
 unfold ac
 by_cases h1 : (x.next l 4).2.2 = false
 · rw [if_pos h1]
   obtain ⟨k, a, p, hk, e⟩ := faultL_kind (x.next l 4).1.1 (x.next l 4).1.2 f
   exact ⟨k, a, p, hk, by rw [e]⟩
 rw [if_neg h1]
 rw [show (x.next l 4).2.2 = true by simpa using h1, Bool.true_and] at h
 by_cases h2 : aU (aC (x.next l 4).2.1 0 4) = false
 · rw [if_pos h2]
   by_cases h3 : knownH (aC (x.next l 4).2.1 0 4) = true
   · exact ⟨3, f, x.p, by decide, by rw [if_pos h3]⟩
   · exact ⟨2, f, x.p, by decide, by rw [if_neg h3]⟩
 rw [if_neg h2]
 rw [show aU (aC (x.next l 4).2.1 0 4) = true by simpa using h2, Bool.true_and] at h
 rw [if_pos h]
 obtain ⟨k, a, p, hk, e⟩ := faultL_kind ((x.next l 4).1.1.next (x.next l 4).1.2 (aC (x.next l 4).2.1 0 4 - 4)).1.1 ((x.next l 4).1.1.next (x.next l 4).1.2 (aC (x.next l 4).2.1 0 4 - 4)).1.2 f
 exact ⟨k, a, p, hk, by rw [e]⟩
theorem ext_app (s : ByteArray) (a b c : Nat) (h1 : a ≤ b) (h2 : b ≤ c) : s.extract a b ++ s.extract b c = s.extract a c := by
 rw [ByteArray.extract_append_extract]; congr 1 <;> omega
structure TkGood (x : Sr) (l : Led) (f : Int) (n : Nat) : Prop where
 hd : aU n = true
 le : x.p + n ≤ x.e
 fz : (ac x l f).1.2 = [J I 0, J I 0, J I 0]
 bt : (ac x l f).1.1 = x.s.extract x.p (x.p + n)
 st : (ac x l f).2 = ({ x with p := x.p + n }, ((l.work 1).1.work 1).1)
 lo : aC x.s x.p 4 = n
 w1 : (l.work 1).2 = true
 w2 : ((l.work 1).1.work 1).2 = true
theorem lowK_ext (s : ByteArray) (a b i k : Nat) (h : a + i + k ≤ b) (hb : b ≤ s.size) : aC (s.extract a b) i k = aC s (a + i) k := by
 induction k with
 | zero => rfl
 | succ k ih => rw [aC, aC, ih (by omega), byN_ext s a b (i + k) (by omega) hb, Nat.add_assoc a i k]
theorem tk_good {x : Sr} {l : Led} (f : Int) (hx : x.ok) (h : tkOk x l = true) : ∃ n, TkGood x l f n := by
 unfold tkOk at h
 rw [Bool.and_eq_true, Bool.and_eq_true] at h
 obtain ⟨h1, h2, h3⟩ := h
 obtain ⟨q1, -, q2, q3, q4, q5⟩ := next_ok h1
 have hl := heads_le h2
 obtain ⟨n, hn⟩ : ∃ n : Nat, aC (x.next l 4).2.1 0 4 = n := ⟨_, (Int.toNat_of_nonneg (by omega)).symm⟩
 rw [hn] at h2 h3 hl
 obtain ⟨r1, -, r2, r3, r4, r5⟩ := next_ok h3
 have hes := hx.es
 have e4 : ((4 : Int)).toNat = 4 := rfl
 have en : ((n : Int) - 4).toNat = n - 4 := by omega
 rw [e4] at q3 q5
 rw [en] at r3 r5
 have e5 : x.p + 4 + (n - 4) = x.p + n := by omega
 have r3 := r3.trans (show _ = ({ x with p := x.p + n } : Sr) by rw [q3]; simp only [e5])
 have r5 := r5.trans (show _ = x.s.extract (x.p + 4) (x.p + n) by rw [q3]; simp only [e5])
 rw [q4] at r1
 have r4 := r4.trans (show _ = ((l.work 1).1.work 1).1 by rw [q4])
 rw [q3] at r2
 simp only at r2
 have hlo : aC x.s x.p 4 = n := by rw [← hn, q5, lowK_ext x.s x.p (x.p + 4) 0 4 (by omega) (by omega)]; rfl
 have hT : ac x l f = (((x.next l 4).2.1 ++ ((x.next l 4).1.1.next (x.next l 4).1.2 ((n : Int) - 4)).2.1, [J I 0, J I 0, J I 0]), ((x.next l 4).1.1.next (x.next l 4).1.2 ((n : Int) - 4)).1) := by
  unfold ac
  rw [if_neg (by rw [h1]; decide), hn, if_neg (by rw [h2]; decide), if_neg (by rw [h3]; decide)]
 refine ⟨n, h2, by omega, by rw [hT], ?_, ?_, hlo, q1, r1⟩
 · rw [hT, q5, r5]; exact ext_app x.s x.p (x.p + 4) (x.p + n) (by omega) (by omega)
 · rw [hT]; exact Prod.ext r3 r4
def zero16 : List Value := [J I 0, J I 0, J I 0, .bool false, J I 0, J I 0, J I 0, J I 0, J I 0, J I 0, J I 0, J I 0, J I 0, J I 0, J I 0, J I 0]
def zero3 : List Value := [J I 0, J I 0, J I 0]
def Hd.at (a : Hd) (m : List Int) (fr : Int) : List Value := [J I a.sz, J I a.w, J I a.h, .bool a.top, J I a.dp, J I a.mt, J I a.co] ++ (m.map (.int .i64) ++ [J I fr])
def hEnd (b : ByteArray) (h : Hd) (f p : Int) : List Value × List Value :=
 if (aW (ae (mkL b h.sz) h.dp)).2 != 0 then (zero16, [J I 2, J I f, J I (p + (40 + 4 * (aW (ae (mkL b h.sz) h.dp)).1))]) else (h.at (mk8 (mkL b h.sz) h.dp) p, zero3)
def hRun (x : Sr) (l : Led) (f : Int) (b : ByteArray) (y : Sr) (m : Led) (h : Hd) (F : Fnd × Bool) : (List Value × List Value) × (Sr × Led) :=
 if F.2 = true then ((zero16, [J I F.1.2.1, J I f, J I (x.p + F.1.2.2)]), (y, m)) else
 if (h.mt == 3) = true then
  (if (h.sz == 40) = true then
    (if (y.next m 12).2.2 = true then (hEnd (b ++ (y.next m 12).2.1) h f x.p, (y.next m 12).1) else ((zero16, aK (y.next m 12).1.1 (y.next m 12).1.2 f), (y.next m 12).1))
   else (hEnd b h f x.p, (y, m)))
 else ((h.at (comM h.dp) x.p, zero3), (y, m))
def aJ (x : Sr) (l : Led) (f : Int) : (List Value × List Value) × (Sr × Led) :=
 if tkOk x l = false then ((zero16, (ac x l f).1.2), (ac x l f).2) else
 hRun x l f (ac x l f).1.1 (ac x l f).2.1 (ac x l f).2.2 (ao (ac x l f).1.1) (aO (fdOf (ac x l f).1.1))
def HReadPost (w : World) (X : Nat) (x : Sr) (R : (List Value × List Value) × (Sr × Led)) (e : Ending) (w' : World) : Prop :=
 e = .returned (.tuple #[.agg R.1.1.toArray, .agg R.1.2.toArray]) ∧ Pair w' X R.2.1 R.2.2 ∧ Chg (two X x) w w'
theorem owns_range {w : World} {base e size n g cap : Nat} {xs : List Value} (h : w.ownsRow base e size (.slice (some ⟨g, 0, none⟩) n cap) n xs) : w.rangeAt g 0 xs := by
 obtain ⟨hl, h2⟩ := h
 rcases h2 with ⟨h2, _⟩ | ⟨g', cap', cur, hv, hg, hh, hn, hc, hs, ht⟩
 · simp at h2
 · have e' : g' = g := by injection hv with hv; injection hv with hv; injection hv with hv; exact hv.symm
   subst e'
   intro j v hv
   rw [← ht, List.getElem?_take] at hv
   split at hv
   · simp [World.cell?, hh]; simpa using hv
   · cases hv
theorem owns_lt {w : World} {base e size n g cap : Nat} {xs : List Value} (h : w.ownsRow base e size (.slice (some ⟨g, 0, none⟩) n cap) n xs) : base ≤ g ∧ g < w.heap.size := owns_blk h rfl
theorem isN_nat (a : Nat) (h : a ≤ 1000000) : isN a = true := by unfold isN; rw [decide_eq_true (by omega), decide_eq_true (by omega)]; rfl
theorem nmul_any (a b : Nat) (w : World) (ha : a ≤ 1000000) (hb : b ≤ 1000000) : Calls Tryz.prog 126 #[J I a, J I b] w fun e w' => e = .returned (.tuple #[J I ((a * b : Nat) : Int), .bool true]) ∧ Below w.heap.size w w' := by
 have hab : a * b ≤ 1000000000000 := Nat.mul_le_mul ha hb
 have HIS := Hi (fun (w0 : World) (B : Nat) (ho : Obj1 w0 B #[J I a, J I b] 3) => (show Calls Tryz.prog 162 #[.slice (some ⟨B, 0, none⟩) (2 : Nat) 2] w0 (fun e w' => e = .returned (.bool true) ∧ w' = w0) from (is_any [a, b] 2 B 2 w0 rfl (by decide) (Obj1.range0 (cs := [J I a, J I b]) ho)).mono fun e w' hh => ⟨hh.1.trans (by simp [isN_nat a ha, isN_nat b hb]), hh.2⟩))
 have HM := Hi (fun w0 => (show Calls Tryz.prog 163 #[.int .u64 a, .int .u64 b] w0 (fun e w' => e = .returned (.tuple #[.int .u64 0, .int .u64 ((a * b : Nat) : Int)]) ∧ w' = w0) from (mul64_any a b (by omega) (by omega) w0).mono fun e w' hh => ⟨hh.1.trans (by rw [Nat.div_eq_of_lt (by omega), Nat.mod_eq_of_lt (by omega)]; rfl), hh.2⟩))
 obtain ⟨c, hc⟩ : ∃ c, a * b = c := ⟨_, rfl⟩
 rw [hc] at HM hab ⊢
 have e1 : (a : Int) % 18446744073709551616 = a := by omega
 have e2 : (b : Int) % 18446744073709551616 = b := by omega
 have D : decide ((c : Int) > 4611686018427387904) = false := by rw [decide_eq_false_iff_not]; omega
 have BL := Hi ((Below.refl w.heap.size w).alloc (Nat.le_refl _) (.cells #[J I a, J I b] 3))
 clear hc
 go_enter Tryz.func126, Tryz.ntmps126
 go_wp2_with (first
  | ((with_reducible refine aE rfl ?_ ?_); rfl; intro _)
  | ((go_at_call 162; (with_reducible refine (HIS.out _ _ (aA _ _ _)).mono ?_); rintro e wq ⟨rfl, rfl⟩))
  | ((go_at_call 163; (with_reducible refine (HM.out _).mono ?_); rintro e wq ⟨rfl, rfl⟩)))
 go_ret2
 exact ⟨rfl, BL.out⟩
theorem nceil_any (a : Nat) (w : World) (ha : a ≤ 1000000) : Calls Tryz.prog 202 #[J I a, J I 32] w fun e w' => e = .returned (.tuple #[J I (((a + 31) / 32 : Nat) : Int), .bool true]) ∧ Below w.heap.size w w' := by
 have HIS := Hi (fun (w0 : World) (B : Nat) (ho : Obj1 w0 B #[J I a, J I 32] 3) => (show Calls Tryz.prog 162 #[.slice (some ⟨B, 0, none⟩) (2 : Nat) 2] w0 (fun e w' => e = .returned (.bool true) ∧ w' = w0) from (is_any [a, 32] 2 B 2 w0 rfl (by decide) (Obj1.range0 (cs := [J I a, J I 32]) ho)).mono fun e w' hh => ⟨hh.1.trans (by rw [List.all_cons, isN_nat a ha]; rfl), hh.2⟩))
 have BL := Hi ((Below.refl w.heap.size w).alloc (Nat.le_refl _) (.cells #[J I a, J I 32] 3))
 by_cases h : a % 32 = 0
 · have D : ((a : Int) % 32 != 0) = false := by rw [bne_eq_false_iff_eq]; omega
   have E := Hi (show ((a : Int) / 32) = (((a + 31) / 32 : Nat) : Int) by omega)
   go_enter Tryz.func202, Tryz.ntmps202
   go_wp2_with (first
    | ((with_reducible refine aE rfl ?_ ?_); rfl; intro _)
    | ((go_at_call 162; (with_reducible refine (HIS.out _ _ (aA _ _ _)).mono ?_); rintro e wq ⟨rfl, rfl⟩)))
   go_ret2
   exact ⟨by rw [← E.out]; rfl, BL.out⟩
 · have D : ((a : Int) % 32 != 0) = true := by rw [bne_iff_ne]; omega
   have E := Hi (show ((a : Int) / 32 + 1) = (((a + 31) / 32 : Nat) : Int) by omega)
   go_enter Tryz.func202, Tryz.ntmps202
   go_wp2_with (first
    | ((with_reducible refine aE rfl ?_ ?_); rfl; intro _)
    | ((go_at_call 162; (with_reducible refine (HIS.out _ _ (aA _ _ _)).mono ?_); rintro e wq ⟨rfl, rfl⟩)))
   go_ret2
   exact ⟨by rw [← E.out]; rfl, BL.out⟩
def aM (a b : Nat) : Nat := (a * b + 31) / 32 * 32 / 8
theorem nstride_any (a b : Nat) (w : World) (ha : a ≤ 16384) (hb0 : 1 ≤ b) (hb : b ≤ 32) : Calls Tryz.prog 178 #[J I a, J I b, J I 32] w fun e w' => e = .returned (.tuple #[J I (aM a b : Int), .bool true]) ∧ Below w.heap.size w w' := by
 have hab : a * b ≤ 16384 * 32 := Nat.mul_le_mul ha hb
 have HIS := Hi (fun (w0 : World) (B : Nat) (ho : Obj1 w0 B #[J I a, J I b, J I 32] 3) => (show Calls Tryz.prog 162 #[.slice (some ⟨B, 0, none⟩) (3 : Nat) 3] w0 (fun e w' => e = .returned (.bool true) ∧ w' = w0) from (is_any [a, b, 32] 3 B 3 w0 rfl (by decide) (Obj1.range0 (cs := [J I a, J I b, J I 32]) ho)).mono fun e w' hh => ⟨hh.1.trans (by rw [List.all_cons, isN_nat a (by omega), List.all_cons, isN_nat b (by omega)]; rfl), hh.2⟩))
 have H1 := Hi (fun w0 => nmul_any a b w0 (by omega) (by omega))
 obtain ⟨c, hc⟩ : ∃ c, a * b = c := ⟨_, rfl⟩
 have H2 := Hi (fun w0 => nceil_any c w0 (by omega))
 obtain ⟨d, hd⟩ : ∃ d, (c + 31) / 32 = d := ⟨_, rfl⟩
 have H3 := Hi (fun w0 => (show Calls Tryz.prog 126 #[J I d, J I 32] w0 (fun e w' => e = .returned (.tuple #[J I ((d * 32 : Nat) : Int), .bool true]) ∧ Below w0.heap.size w0 w') from nmul_any d 32 w0 (by omega) (by omega)))
 rw [hc] at H1
 rw [hd] at H2
 obtain ⟨f, hf⟩ : ∃ f, d * 32 = f := ⟨_, rfl⟩
 rw [hf] at H3
 have E := Hi (show (f : Int) / 8 = (aM a b : Int) by unfold aM; rw [hc, hd, hf]; omega)
 have D : ((b : Int) == 0) = false := by rw [beq_eq_false_iff_ne]; omega
 have BL := Hi ((Below.refl w.heap.size w).alloc (Nat.le_refl _) (.cells #[J I a, J I b, J I 32] 3))
 have EF := Hi (show wrap64 ((f : Int) / 8) = (f : Int) / 8 from IntWalk.wrap64_in _ ⟨by omega, by omega⟩)
 clear hc hd hf hab
 go_enter Tryz.func178, Tryz.ntmps178
 go_wp2_with (first
  | ((with_reducible refine aE rfl ?_ ?_); rfl; intro _)
  | ((go_at_call 162; (with_reducible refine (HIS.out _ _ (aA _ _ _)).mono ?_); rintro e wq ⟨rfl, rfl⟩))
  | ((go_at_call 126; (with_reducible refine (H1.out _).mono ?_); rintro e wq ⟨rfl, hb⟩); have BL := Hi (am hb BL.out BL.out.size); clear hb)
  | ((go_at_call 202; (with_reducible refine (H2.out _).mono ?_); rintro e wq ⟨rfl, hb⟩); have BL := Hi (am hb BL.out BL.out.size); clear hb)
  | ((go_at_call 126; (with_reducible refine (H3.out _).mono ?_); rintro e wq ⟨rfl, hb⟩); have BL := Hi (am hb BL.out BL.out.size); clear hb))
 go_ret2
 exact ⟨(show _ = Ending.returned (.tuple #[J I (wrap64 ((f : Int) / 8)), .bool true]) from rfl).trans (by rw [EF.out, E.out]), BL.out⟩
theorem hstride_any (sz : Int) (a : Nat) (H : Int) (top : Bool) (b : Nat) (mt co k0 k1 k2 k3 k4 k5 k6 k7 fr : Int) (w : World) (ha : a ≤ 16384) (hb0 : 1 ≤ b) (hb : b ≤ 32) :
 Calls Tryz.prog 135 #[.agg (List.toArray [J I sz, J I a, J I H, .bool top, J I b, J I mt, J I co, J I k0, J I k1, J I k2, J I k3, J I k4, J I k5, J I k6, J I k7, J I fr])] w fun e w' => e = .returned (J I (aM a b : Int)) ∧ Below w.heap.size w w' := by
 have HS := Hi (fun w0 => nstride_any a b w0 ha hb0 hb)
 have O1 := Hi (aA w (List.toArray [J I sz, J I a, J I H, .bool top, J I b, J I mt, J I co, J I k0, J I k1, J I k2, J I k3, J I k4, J I k5, J I k6, J I k7, J I fr]) 63)
 have BL := Hi ((Below.refl w.heap.size w).alloc (Nat.le_refl _) (.cells (List.toArray [J I sz, J I a, J I H, .bool top, J I b, J I mt, J I co, J I k0, J I k1, J I k2, J I k3, J I k4, J I k5, J I k6, J I k7, J I fr]) 63))
 obtain ⟨d, hd⟩ : ∃ d, (aM a b : Int) = d := ⟨_, rfl⟩
 rw [hd] at HS ⊢
 clear hd ha hb hb0
 go_enter Tryz.func135, Tryz.ntmps135
 go_upto_region 1 with (fail)
 generalize World.alloc _ _ = w1 at O1 BL ⊢
 have c1 : w1.cell? ⟨w.heap.size, 1, none⟩ = some (J I a) := (O1.out.cell 1).trans rfl
 have c4 : w1.cell? ⟨w.heap.size, 4, none⟩ = some (J I b) := (O1.out.cell 4).trans rfl
 go_wp2_with ((go_at_call 178; (with_reducible refine (HS.out _).mono ?_); rintro e wq ⟨rfl, hb⟩); have BL := Hi (am hb BL.out BL.out.size); clear hb)
 go_ret
 exact ⟨rfl, BL.out⟩
theorem isN_nat2 (a : Nat) (h : a ≤ 1000000000) : isN a = true := by unfold isN; rw [decide_eq_true (by omega), decide_eq_true (by omega)]; rfl
theorem nmul2_any (a b : Nat) (w : World) (ha : a ≤ 1000000000) (hb : b ≤ 1000000) : Calls Tryz.prog 126 #[J I a, J I b] w fun e w' => e = .returned (.tuple #[J I ((a * b : Nat) : Int), .bool true]) ∧ Below w.heap.size w w' := by
 have hab : a * b ≤ 1000000000000000 := Nat.mul_le_mul ha hb
 have HIS := Hi (fun (w0 : World) (B : Nat) (ho : Obj1 w0 B #[J I a, J I b] 3) => (show Calls Tryz.prog 162 #[.slice (some ⟨B, 0, none⟩) (2 : Nat) 2] w0 (fun e w' => e = .returned (.bool true) ∧ w' = w0) from (is_any [a, b] 2 B 2 w0 rfl (by decide) (Obj1.range0 (cs := [J I a, J I b]) ho)).mono fun e w' hh => ⟨hh.1.trans (by simp [isN_nat2 a ha, isN_nat2 b (by omega)]), hh.2⟩))
 have HM := Hi (fun w0 => (show Calls Tryz.prog 163 #[.int .u64 a, .int .u64 b] w0 (fun e w' => e = .returned (.tuple #[.int .u64 0, .int .u64 ((a * b : Nat) : Int)]) ∧ w' = w0) from (mul64_any a b (by omega) (by omega) w0).mono fun e w' hh => ⟨hh.1.trans (by rw [Nat.div_eq_of_lt (by omega), Nat.mod_eq_of_lt (by omega)]; rfl), hh.2⟩))
 obtain ⟨c, hc⟩ : ∃ c, a * b = c := ⟨_, rfl⟩
 rw [hc] at HM hab ⊢
 have e1 : (a : Int) % 18446744073709551616 = a := by omega
 have e2 : (b : Int) % 18446744073709551616 = b := by omega
 have D : decide ((c : Int) > 4611686018427387904) = false := by rw [decide_eq_false_iff_not]; omega
 have BL := Hi ((Below.refl w.heap.size w).alloc (Nat.le_refl _) (.cells #[J I a, J I b] 3))
 clear hc
 go_enter Tryz.func126, Tryz.ntmps126
 go_wp2_with (first
  | ((with_reducible refine aE rfl ?_ ?_); rfl; intro _)
  | ((go_at_call 162; (with_reducible refine (HIS.out _ _ (aA _ _ _)).mono ?_); rintro e wq ⟨rfl, rfl⟩))
  | ((go_at_call 163; (with_reducible refine (HM.out _).mono ?_); rintro e wq ⟨rfl, rfl⟩)))
 go_ret2
 exact ⟨rfl, BL.out⟩
theorem rasside_any (n : Int) (w : World) : Calls Tryz.prog 79 #[J I n] w fun e w' => e = .returned (.bool (decide (1 ≤ n ∧ n ≤ 16384))) ∧ w' = w := by
 by_cases h1 : n < 1
 · have E := Hi (show decide (1 ≤ n ∧ n ≤ 16384) = false by rw [decide_eq_false_iff_not]; omega)
   rw [E.out]
   go_enter Tryz.func79, Tryz.ntmps79
   go_wp2_with ((with_reducible refine aE rfl ?_ ?_); rfl; intro _)
   go_ret
   exact ⟨rfl, rfl⟩
 · by_cases h2 : 16384 < n
   · have E := Hi (show decide (1 ≤ n ∧ n ≤ 16384) = false by rw [decide_eq_false_iff_not]; omega)
     rw [E.out]
     have h3 : ¬ n ≤ 16384 := by omega
     go_enter Tryz.func79, Tryz.ntmps79
     go_wp2_with ((with_reducible refine aE rfl ?_ ?_); rfl; intro _)
     go_ret
     exact ⟨rfl, rfl⟩
   · have E := Hi (show decide (1 ≤ n ∧ n ≤ 16384) = true by rw [decide_eq_true_iff]; omega)
     rw [E.out]
     have h3 : n ≤ 16384 := by omega
     go_enter Tryz.func79, Tryz.ntmps79
     go_wp2_with ((with_reducible refine aE rfl ?_ ?_); rfl; intro _)
     go_ret
     exact ⟨rfl, rfl⟩
theorem fold3_any (a b c B : Nat) (T : TypeId) (w : World) (ha : a ≤ 16384) (hb : b ≤ 16384) (hc : c ≤ 100) (h : Obj1 w B #[J I a, J I b, J I c] T) :
 Calls Tryz.prog 125 #[J I 1, .func (.func 126) #[] #[], .slice (some ⟨B, 0, none⟩) 3 3] w fun e w' => e = .returned (.tuple #[J I ((a * b * c : Nat) : Int), .bool true]) ∧ Below w.heap.size w w' := by
 have hab : a * b ≤ 268435456 := Nat.mul_le_mul ha hb
 obtain ⟨p, hp⟩ : ∃ p, a * b = p := ⟨_, rfl⟩
 obtain ⟨q, hq⟩ : ∃ q, p * c = q := ⟨_, rfl⟩
 have H1 := Hi (fun w0 => (show Calls Tryz.prog 126 #[J I 1, J I a] w0 (fun e w' => e = .returned (.tuple #[J I a, .bool true]) ∧ Below w0.heap.size w0 w') from (nmul2_any 1 a w0 (by decide) (by omega)).mono fun e w' hh => by rw [Nat.one_mul] at hh; exact hh))
 have H2 := Hi (fun w0 => (show Calls Tryz.prog 126 #[J I a, J I b] w0 (fun e w' => e = .returned (.tuple #[J I p, .bool true]) ∧ Below w0.heap.size w0 w') from (nmul2_any a b w0 (by omega) (by omega)).mono fun e w' hh => by rw [hp] at hh; exact hh))
 have H3 := Hi (fun w0 => (show Calls Tryz.prog 126 #[J I p, J I c] w0 (fun e w' => e = .returned (.tuple #[J I q, .bool true]) ∧ Below w0.heap.size w0 w') from (nmul2_any p c w0 (by omega) (by omega)).mono fun e w' hh => by rw [hq] at hh; exact hh))
 rw [hp, hq]
 have hlt := h.lt
 have k0 := (h.cell 0).trans (show _ = some (J I (a : Int)) from rfl)
 have HO := Hi h
 have BL := Hi (Below.refl w.heap.size w)
 clear hab hp hq h
 go_enter Tryz.func125, Tryz.ntmps125
 go_wp2
 refine wp_loop_rounds 4 ?_
 rw [rounds_succ]
 go_wp2_with (go_at_call 126; (with_reducible refine (H1.out _).mono ?_); rintro e w1 ⟨rfl, hb1⟩; have HO := Hi (HO.out.below hb1 hlt); have BL := Hi (am hb1 BL.out (by omega)); have k1 := (HO.out.cell 1).trans (show _ = some (J I (b : Int)) from rfl))
 rw [rounds_succ]
 go_wp2_with (go_at_call 126; (with_reducible refine (H2.out _).mono ?_); rintro e w2 ⟨rfl, hb2⟩; have HO := Hi (HO.out.below hb2 HO.out.lt); have BL := Hi (am hb2 BL.out BL.out.size); have k2 := (HO.out.cell 2).trans (show _ = some (J I (c : Int)) from rfl))
 rw [rounds_succ]
 go_wp2_with (go_at_call 126; (with_reducible refine (H3.out _).mono ?_); rintro e w3 ⟨rfl, hb3⟩; have BL := Hi (am hb3 BL.out BL.out.size))
 rw [rounds_succ]
 go_wp2_with fail
 go_ret2
 exact ⟨rfl, BL.out⟩
theorem prod3_any (a b c B : Nat) (T : TypeId) (w : World) (ha : a ≤ 16384) (hb : b ≤ 16384) (hc : c ≤ 100) (h : Obj1 w B #[J I a, J I b, J I c] T) :
 Calls Tryz.prog 81 #[.slice (some ⟨B, 0, none⟩) 3 3] w fun e w' => e = .returned (.tuple #[J I ((a * b * c : Nat) : Int), .bool true]) ∧ Below w.heap.size w w' := by
 have HF := Hi (fold3_any a b c B T w ha hb hc h)
 obtain ⟨q, hq⟩ : ∃ q, a * b * c = q := ⟨_, rfl⟩
 rw [hq] at HF ⊢
 clear h hq
 go_enter Tryz.func81, Tryz.ntmps81
 go_wp2_with ((go_at_call 125; (with_reducible refine (HF.out).mono ?_); rintro e w1 ⟨rfl, hb1⟩))
 go_ret2
 exact ⟨rfl, hb1⟩
theorem rright1 (G : Nat) (w : World) : Calls Tryz.prog 41 #[.agg #[J I 1, J I 1, .slice (some ⟨G, 0, none⟩) 4 4]] w fun e w' => e = .returned (.bool true) ∧ Below w.heap.size w w' := by
 have HS := Hi (fun w0 => (show Calls Tryz.prog 79 #[J I 1] w0 (fun e w' => e = .returned (.bool true) ∧ w' = w0) from rasside_any 1 w0))
 have O1 := Hi (aA w #[J I 1, J I 1, .slice (some ⟨G, 0, none⟩) 4 4] 29)
 have BL := Hi ((Below.refl w.heap.size w).alloc (Nat.le_refl _) (.cells #[J I 1, J I 1, .slice (some ⟨G, 0, none⟩) 4 4] 29))
 go_enter Tryz.func41, Tryz.ntmps41
 go_upto_region 1 with (fail)
 generalize World.alloc _ _ = w1 at O1 BL ⊢
 have c0 := (O1.out.cell 0).trans (show _ = some (J I 1) from rfl)
 have c1 := (O1.out.cell 1).trans (show _ = some (J I 1) from rfl)
 have c2 := (O1.out.cell 2).trans (show _ = some (.slice (some ⟨G, 0, none⟩) 4 4) from rfl)
 go_wp2_with ((go_at_call 79; (with_reducible refine (HS.out _).mono ?_); rintro e w2 ⟨rfl, rfl⟩))
 go_ret
 exact ⟨rfl, BL.out⟩
theorem oright1 (w : World) : Calls Tryz.prog 40 #[.agg #[J I 24, .bool false, .bool false, .bool false]] w fun e w' => e = .returned (.bool true) ∧ Below w.heap.size w w' := by
 have O1 := Hi (aA w #[J I 24, .bool false, .bool false, .bool false] 44)
 have BL := Hi ((Below.refl w.heap.size w).alloc (Nat.le_refl _) (.cells #[J I 24, .bool false, .bool false, .bool false] 44))
 go_enter Tryz.func40, Tryz.ntmps40
 go_upto_region 1 with (fail)
 generalize World.alloc _ _ = w1 at O1 BL ⊢
 have c0 := (O1.out.cell 0).trans (show _ = some (J I 24) from rfl)
 have c1 := (O1.out.cell 1).trans (show _ = some (.bool false) from rfl)
 have c2 := (O1.out.cell 2).trans (show _ = some (.bool false) from rfl)
 have c3 := (O1.out.cell 3).trans (show _ = some (.bool false) from rfl)
 go_wp2
 go_ret
 exact ⟨rfl, BL.out⟩
theorem rpixel1 (G : Nat) (w : World) (hG : Obj1 w G #[J U 255, J U 255, J U 255, J U 255] 5) : Calls Tryz.prog 90 #[.agg #[J I 1, J I 1, .slice (some ⟨G, 0, none⟩) 4 4], J I 0, J I 0] w fun e w' => e = .returned (.tuple #[.agg #[J U 255, J U 255, J U 255, J U 255], .bool true]) ∧ Below w.heap.size w w' := by
 have HR := Hi (fun w0 => rright1 G w0)
 have OG := Hi ((hG.alloc (.cells #[J I 1, J I 1, .slice (some ⟨G, 0, none⟩) 4 4] 29)).alloc (.cells #[J U 0, J U 0, J U 0, J U 0] 104))
 have O1 := Hi ((aA w #[J I 1, J I 1, .slice (some ⟨G, 0, none⟩) 4 4] 29).alloc (.cells #[J U 0, J U 0, J U 0, J U 0] 104))
 have O2 := Hi (aA (w.alloc (.cells #[J I 1, J I 1, .slice (some ⟨G, 0, none⟩) 4 4] 29)) #[J U 0, J U 0, J U 0, J U 0] 104)
 have BL := Hi (((Below.refl w.heap.size w).alloc (Nat.le_refl _) (.cells #[J I 1, J I 1, .slice (some ⟨G, 0, none⟩) 4 4] 29)).alloc (by simp) (.cells #[J U 0, J U 0, J U 0, J U 0] 104))
 have lG := hG.lt
 obtain ⟨d, hd⟩ : ∃ d, w.heap.size = d := ⟨_, rfl⟩
 rw [show (w.alloc (.cells #[J I 1, J I 1, .slice (some ⟨G, 0, none⟩) 4 4] 29)).heap.size = d + 1 by rw [← hd]; simp] at O2
 rw [hd] at O1 lG
 have HDe := Hi hd
 clear hG
 go_enter Tryz.func90, Tryz.ntmps90
 go_upto_region 1 with (fail)
 clear hd
 generalize World.alloc (World.alloc _ _) _ = wr at OG O1 O2 BL ⊢
 go_upto_region 5 with (first
  | (refine aL (by kernel_rfl) 29 3 _ rfl d [J I 1, J I 1, .slice (some ⟨G, 0, none⟩) 4 4] rfl rfl O1.out Tryz.underlying29 rfl (by kernel_rfl) ?_; intro _)
  | ((go_at_call 41; (with_reducible refine (HR.out _).mono ?_); rintro e w2 ⟨rfl, hb⟩); have OG := Hi (OG.out.below hb OG.out.lt); have O1 := Hi (O1.out.below hb O1.out.lt); have O2 := Hi (O2.out.below hb O2.out.lt); have BL := Hi (BL.out.trans (hb.mono BL.out.size)); clear hb
     have c0 := (O1.out.cell 0).trans (show _ = some (J I 1) from rfl)
     have c1 := (O1.out.cell 1).trans (show _ = some (J I 1) from rfl)
     have c2 := (O1.out.cell 2).trans (show _ = some (.slice (some ⟨G, 0, none⟩) 4 4) from rfl)))
 have g0 := (OG.out.cell 0).trans (show _ = some (J U 255) from rfl)
 have g1 := (OG.out.cell 1).trans (show _ = some (J U 255) from rfl)
 have g2 := (OG.out.cell 2).trans (show _ = some (J U 255) from rfl)
 have g3 := (OG.out.cell 3).trans (show _ = some (J U 255) from rfl)
 clear c0 c1 c2
 go_still_tail 13, (by kernel_rfl)
 rw [show (⟨w2.heap, w2.tape, w2.drawn + 1, w2.os, w2.output⟩ : World) = w2.drewN 1 from rfl]
 have O2 := Hi (O2.out.drewN 1)
 have BL := Hi (bdrew BL.out 1)
 generalize w2.drewN 1 = w3 at O2 BL ⊢
 clear g0 g1 g2 g3
 go_wp2_with (refine so 104 4 (d + 1) [J U 255, J U 255, J U 255, J U 255] O2.out ?_; intro ws hst hO; have O2 := Hi hO; have BL := Hi (hst.below BL.out (by have := HDe.out; omega)); clear hst hO)
 refine bodyPost_ret (v := .tuple #[.agg #[J U 255, J U 255, J U 255, J U 255], .bool true]) ?_ rfl ⟨rfl, BL.out⟩
 exact ag Tryz.results90 _ _ _ [J U 255, J U 255, J U 255, J U 255] _ rfl O2.out.range0 Tryz.underlying104 rfl (by kernel_rfl)
def setBW (L : List Int) (a : Nat) (v : Int) : Nat → List Int
 | 0 => L
 | j + 1 => (setBW L a v j).set (a + j) (byteAt v j)
theorem setBW_len (L : List Int) (a : Nat) (v : Int) (j : Nat) : (setBW L a v j).length = L.length := by
 induction j with
 | zero => rfl
 | succ j ih => rw [setBW, List.length_set, ih]
theorem u8s_set (L : List Int) (i : Nat) (x : Int) : (aY L).toArray.setIfInBounds i (J U x) = (aY (L.set i x)).toArray := by
 unfold aY; rw [List.setIfInBounds_toArray, List.map_set]
theorem u8s_cell {w : World} {D : Nat} {L : List Int} {T : TypeId} (h : Obj1 w D (aY L).toArray T) (i : Nat) (hi : i < L.length) : w.cell? ⟨D, i, none⟩ = some (J U (L.getD i 0)) := by
 rw [h.cell]
 unfold aY
 simp [List.getD_eq_getElem?_getD, List.getElem?_eq_getElem hi]
theorem hput_any (v : Int) (a n : Nat) (S D : Nat) (L : List Int) (w : World) (hS : Obj1 w S #[.slice (some ⟨D, 0, none⟩) n n] 27) (hD : Obj1 w D (aY L).toArray 5) (hn : L.length = n) (ha : a + 4 ≤ n) (hn2 : n ≤ 1000) (hSD : S ≠ D) :
 Calls Tryz.prog 91 #[J I a, J I v, Y (some ⟨S, 0, none⟩)] w fun e w' => e = .returned (.tuple #[]) ∧ Obj1 w' S #[.slice (some ⟨D, 0, none⟩) n n] 27 ∧ Obj1 w' D (aY (setBW L a v 4)).toArray 5 ∧ Chg (fun k => k = D) w w' := by
 go_enter Tryz.func91, Tryz.ntmps91
 go_upto_region 1 with (fail)
 go_loopw [5, 6] (fun q5 c wr => ∃ j : Nat, j ≤ 4 ∧ c = J I j ∧ Obj1 wr S #[.slice (some ⟨D, 0, none⟩) n n] 27 ∧ Obj1 wr D (aY (setBW L a v j)).toArray 5 ∧ Chg (fun k => k = D) w wr) (fun _ c _ => 4 - (intOf c).toNat)
 case atStart => exact ⟨0, by omega, rfl, hS, hD, Chg.refl _ _⟩
 case round =>
  obtain ⟨j, hj, rfl, hs, hd, hc⟩ := hrel
  have OS := Hi hs
  have OD := Hi hd
  have CH := Hi hc
  have HN := Hi hn
  clear hs hd hc hS hD hn
  by_cases hlt : j < 4
  rotate_left
  · have hge : ¬ (j : Int) < 4 := by omega
    have E := Hi (show j = 4 by omega)
    go_wp2
    go_end0
    exact ⟨rfl, OS.out, by rw [← E.out]; exact OD.out, CH.out⟩
  · have hge : (j : Int) < 4 := by omega
    have HB := Hi (show byteAt v j = IntKind.u8.wrap (v / 2 ^ (8 * (j : Int)).toNat) by unfold byteAt; rw [show (8 * (j : Int)).toNat = 8 * j by omega]; rfl)
    have eW : IntKind.i64.wrap (8 * (j : Int)) = 8 * (j : Int) := aF _ (by omega) (by omega)
    have eA : IntKind.i64.wrap ((a : Int) + (j : Int)) = (a : Int) + (j : Int) := aF _ (by omega) (by omega)
    have h0 : (0 : Int) ≤ 8 * (j : Int) := by omega
    have h0n : ¬ (8 * (j : Int) < 0) := by omega
    have a0 : (0 : Int) ≤ (a : Int) + (j : Int) := by omega
    have a1 : (a : Int) + (j : Int) < (n : Int) := by omega
    have a2 : ((a : Int) + (j : Int)).toNat = a + j := by omega
    have a3 : a + j < n := by omega
    have c0 : wr.cell? ⟨S, 0, none⟩ = some (.slice (some ⟨D, 0, none⟩) n n) := (OS.out.cell 0).trans rfl
    have cD : wr.cell? ⟨D, a + j, none⟩ = some (J U ((setBW L a v j).getD (a + j) 0)) := u8s_cell OD.out _ (by rw [setBW_len, HN.out]; omega)
    have fD : wr.frozen? ⟨D, a + j, none⟩ = false := OD.out.frozen _
    go_upto_region 3 with (fail)
    go_still_tail 10, (by kernel_rfl)
    rw [show (⟨wr.heap, wr.tape, wr.drawn + 1, wr.os, wr.output⟩ : World) = wr.drewN 1 from rfl]
    have OS := Hi ((OS.out.drewN 1).set_other ⟨D, a + j, none⟩ (J U (IntKind.u8.wrap (v / 2 ^ (8 * (j : Int)).toNat))) hSD)
    have OD := Hi (((OD.out.drewN 1).set (a + j) (J U (IntKind.u8.wrap (v / 2 ^ (8 * (j : Int)).toNat)))).cells (show _ = (aY (setBW L a v (j + 1))).toArray by rw [u8s_set, setBW, HB.out]))
    have CH := Hi ((CH.out.drewN 1).set ⟨D, a + j, none⟩ (J U (IntKind.u8.wrap (v / 2 ^ (8 * (j : Int)).toNat))) (Or.inl rfl))
    have cD : (wr.drewN 1).cell? ⟨D, a + j, none⟩ = some (J U ((setBW L a v j).getD (a + j) 0)) := cD
    have fD : (wr.drewN 1).frozen? ⟨D, a + j, none⟩ = false := fD
    go_wp2
    go_roundw
    case rel => exact ⟨j + 1, by omega, by go_num, OS.out, OD.out, CH.out⟩
    case measure => simp [intOf]; omega
end Go.Proofs.YtfchnibjjokmbaaGreat
namespace Go
section
variable {P : Program} {ops : Array Oper} {Q : Exit → Act → World → Prop} {md : Region.Mode} {S S2 : World → Prop}
theorem wpAnyH_more (h : ∀ w, S2 w → S w) : ∀ (fuel : Nat) (listed : Array Bool) (a : Act) (w : World), wpAnyH P md ops Q S2 fuel listed a w → wpAnyH P md ops Q S fuel listed a w
 | 0, _, _, _, hh => hh
 | fuel + 1, _, _, _, hh => ⟨hh.1, fun i hi => wpOp_mono (fun a' w' h' => ⟨h w' h'.1, wpAnyH_more h fuel _ a' w' h'.2⟩) (hh.2 i hi)⟩
end
end Go
namespace Go.Proofs.YtfchnibjjokmbaaGreat
open Go.RowKit
def H54 : List Int := [66, 77, 0, 0, 0, 0, 0, 0, 0, 0, 54, 0, 0, 0, 40, 0, 0, 0, 1, 0, 0, 0, 1, 0, 0, 0, 1, 0, 24, 0, 0, 0, 0, 0, 0, 0, 0, 0, 0, 0, 0, 0, 0, 0, 0, 0, 0, 0, 0, 0, 0, 0, 0, 0]
theorem mk54 (w : World) : (Instr.makeSlice 27 (J I 54) (J I 54)).run Tryz.prog w = .ok (.slice (some ⟨w.heap.size, 0, none⟩) 54 54) (w.alloc (.cells (aY (aI 54)).toArray 5)) := by kernel_rfl
theorem hput_at (i : Int) (a : Nat) (hi : i = a) (v : Int) (S D : Nat) (L : List Int) (w : World) (hS : Obj1 w S #[.slice (some ⟨D, 0, none⟩) 54 54] 27) (hD : Obj1 w D (aY L).toArray 5) (hn : L.length = 54) (ha : a + 4 ≤ 54) (hSD : S ≠ D) :
 Calls Tryz.prog 91 #[J I i, J I v, Y (some ⟨S, 0, none⟩)] w fun e w' => e = .returned (.tuple #[]) ∧ Obj1 w' S #[.slice (some ⟨D, 0, none⟩) 54 54] 27 ∧ Obj1 w' D (aY (setBW L a v 4)).toArray 5 ∧ Chg (fun k => k = D) w w' := by
 subst hi; exact hput_any v a 54 S D L w hS hD hn ha (by omega) hSD
theorem head1 (G : Nat) (w : World) : Calls Tryz.prog 43 #[.agg #[J I 24, .bool false, .bool false, .bool false], .agg #[J I 1, J I 1, .slice (some ⟨G, 0, none⟩) 4 4], J I 0] w fun e w' => ∃ D, e = .returned (.slice (some ⟨D, 0, none⟩) 54 54) ∧ Obj1 w' D (aY H54).toArray 5 ∧ w.heap.size ≤ D ∧ Below w.heap.size w w' := by
 have O1 := Hi ((aA w #[J I 24, .bool false, .bool false, .bool false] 44).alloc (.cells #[J I 1, J I 1, .slice (some ⟨G, 0, none⟩) 4 4] 29))
 have O2 := Hi (aA (w.alloc (.cells #[J I 24, .bool false, .bool false, .bool false] 44)) #[J I 1, J I 1, .slice (some ⟨G, 0, none⟩) 4 4] 29)
 have BL := Hi (((Below.refl w.heap.size w).alloc (Nat.le_refl _) (.cells #[J I 24, .bool false, .bool false, .bool false] 44)).alloc (by simp) (.cells #[J I 1, J I 1, .slice (some ⟨G, 0, none⟩) 4 4] 29))
 obtain ⟨d, hd⟩ : ∃ d, w.heap.size = d := ⟨_, rfl⟩
 rw [show (w.alloc (.cells #[J I 24, .bool false, .bool false, .bool false] 44)).heap.size = d + 1 by rw [← hd]; simp] at O2
 rw [hd] at O1
 have HDe := Hi hd
 go_enter Tryz.func43, Tryz.ntmps43
 go_upto_region 1 with (fail)
 clear hd
 generalize World.alloc (World.alloc _ _) _ = w1 at O1 O2 BL ⊢
 have c0 : w1.cell? ⟨d, 0, none⟩ = some (J I 24) := (O1.out.cell 0).trans rfl
 have m1 : w1.cell? ⟨d, 1, none⟩ = some (.bool false) := (O1.out.cell 1).trans rfl
 have m2 : w1.cell? ⟨d, 2, none⟩ = some (.bool false) := (O1.out.cell 2).trans rfl
 have m3 : w1.cell? ⟨d, 3, none⟩ = some (.bool false) := (O1.out.cell 3).trans rfl
 have c1 : w1.cell? ⟨d + 1, 0, none⟩ = some (J I 1) := (O2.out.cell 0).trans rfl
 have n1 : w1.cell? ⟨d + 1, 1, none⟩ = some (J I 1) := (O2.out.cell 1).trans rfl
 have l2 := O2.out.lt
 have hmk := fun w0 => mk54 w0
 have zz := BL.out.size
 go_upto_region 5 with (fail)
 clear hmk
 have O1 := Hi ((O1.out.alloc (.cells (aY (aI 54)).toArray 5)).alloc (.cells #[.slice (some ⟨w1.heap.size, 0, none⟩) 54 54] 27))
 have O2 := Hi ((O2.out.alloc (.cells (aY (aI 54)).toArray 5)).alloc (.cells #[.slice (some ⟨w1.heap.size, 0, none⟩) 54 54] 27))
 have OD := Hi ((aA w1 (aY (aI 54)).toArray 5).alloc (.cells #[.slice (some ⟨w1.heap.size, 0, none⟩) 54 54] 27))
 have OS := aA (w1.alloc (.cells (aY (aI 54)).toArray 5)) #[.slice (some ⟨w1.heap.size, 0, none⟩) 54 54] 27
 rw [show (w1.alloc (.cells (aY (aI 54)).toArray 5)).heap.size = w1.heap.size + 1 by simp] at OS
 have OS := Hi OS
 have BL := Hi ((BL.out.alloc zz (.cells (aY (aI 54)).toArray 5)).alloc (by simp; omega) (.cells #[.slice (some ⟨w1.heap.size, 0, none⟩) 54 54] 27))
 obtain ⟨D, hDe⟩ : ∃ D, w1.heap.size = D := ⟨_, rfl⟩
 rw [hDe] at O1 O2 OD OS BL l2 zz ⊢
 clear hDe c0 m1 m2 m3 c1 n1
 generalize World.alloc (World.alloc _ _) _ = w2 at O1 O2 OD OS BL ⊢
 have HN := Hi (show (aI 54).length = 54 from rfl)
 have HP := Hi (fun i a hi v L w0 hS hD hn ha => hput_at i a hi v (D + 1) D L w0 hS hD hn ha (by omega))
 have hdD := HDe.out
 have m1 : w2.cell? ⟨d, 1, none⟩ = some (.bool false) := (O1.out.cell 1).trans rfl
 have m2 : w2.cell? ⟨d, 2, none⟩ = some (.bool false) := (O1.out.cell 2).trans rfl
 have m3 : w2.cell? ⟨d, 3, none⟩ = some (.bool false) := (O1.out.cell 3).trans rfl
 have n1 : w2.cell? ⟨d + 1, 1, none⟩ = some (J I 1) := (O2.out.cell 1).trans rfl
 have c0 : w2.cell? ⟨d, 0, none⟩ = some (J I 24) := (O1.out.cell 0).trans rfl
 have c1 : w2.cell? ⟨d + 1, 0, none⟩ = some (J I 1) := (O2.out.cell 0).trans rfl
 have s0 : w2.cell? ⟨D + 1, 0, none⟩ = some (.slice (some ⟨D, 0, none⟩) 54 54) := (OS.out.cell 0).trans rfl
 go_upto_region 21 with (fail)
 clear c0 c1 s0
 refine wp_region_noPanic ?_
 refine wp_region_held_drew (S := fun w' : World => w'.cell? ⟨D + 1, 0, none⟩ = some (.slice (some ⟨D, 0, none⟩) 54 54)) (by kernel_rfl) ((OS.out.cell 0).trans rfl) (fun hHeld => ?_)
 have OS := Hi OS.out.drew
 have OD := Hi OD.out.drew
 have O1 := Hi O1.out.drew
 have O2 := Hi O2.out.drew
 have BL := Hi BL.out.drew
 generalize World.drew _ = wk at OS OD O1 O2 BL hHeld ⊢
 refine wpAnyH_take (i := 0) (v := .slice (some ⟨D, 0, none⟩) 54 54) rfl (by kernel_rfl) (by kernel_rfl) (by kernel_rfl) (fun _ _ _ h => h) (Or.inl ⟨by rfl, fun w hS => by (have h1 : w.cell? ⟨D + 1, 0, none⟩ = some (.slice (some ⟨D, 0, none⟩) 54 54) := hS; go_simp)⟩) hHeld ?_
 try simp only [Act.put, zq1, zq2, zq3, zq4, zq5, zq6]
 refine wpAnyH_take (i := 1) (v := .slice (some ⟨D, 0, none⟩) 54 54) rfl (by kernel_rfl) (by kernel_rfl) (by kernel_rfl) (fun _ _ _ h => h) (Or.inl ⟨by rfl, fun w hS => by (have h1 : w.cell? ⟨D + 1, 0, none⟩ = some (.slice (some ⟨D, 0, none⟩) 54 54) := hS; go_simp)⟩) hHeld ?_
 try simp only [Act.put, zq1, zq2, zq3, zq4, zq5, zq6]
 refine wpAnyH_take (i := 2) (v := Y (some ⟨D, 0, none⟩)) rfl (by kernel_rfl) (by kernel_rfl) (by kernel_rfl) (fun _ _ _ h => h) (Or.inl ⟨by rfl, fun w hS => by go_simp⟩) hHeld ?_
 try simp only [Act.put, zq1, zq2, zq3, zq4, zq5, zq6]
 refine wpAnyH_ready (rs := [3]) (by kernel_rfl) (by simp) ?_
 refine AllReadyH.cons (o := _) rfl (fun K' hK => ?_) AllReadyH.nil
 have cD := u8s_cell OD.out 0 (by rw [HN.out]; decide)
 have fD := OD.out.frozen 0
 go_simp
 clear cD fD
 have OS := Hi (OS.out.set_other ⟨D, 0, none⟩ (J U 66) (by simp))
 have O1 := Hi (O1.out.set_other ⟨D, 0, none⟩ (J U 66) (by simp; omega))
 have O2 := Hi (O2.out.set_other ⟨D, 0, none⟩ (J U 66) (by simp; omega))
 have BL := Hi (BL.out.setCell (p := ⟨D, 0, none⟩) (by simp; omega) (J U 66))
 have OD := Hi ((OD.out.set 0 (J U 66)).cells (u8s_set _ _ _))
 have HN := Hi ((List.length_set (i := 0) (a := (66 : Int))).trans HN.out)
 generalize World.setCell _ _ _ = wk2 at OS O1 O2 OD BL ⊢
 refine hK _ _ ((OS.out.cell 0).trans rfl) (fun hA => ?_)
 clear hK K'
 try simp only [Act.put, zq1, zq2, zq3, zq4, zq5, zq6]
 obtain ⟨wk, rfl⟩ : ∃ z, z = wk2 := ⟨_, rfl⟩
 refine wpAnyH_take (i := 4) (v := Y (some ⟨D, 1, none⟩)) rfl (by kernel_rfl) (by kernel_rfl) (by kernel_rfl) (fun _ _ _ h => h) (Or.inl ⟨by rfl, fun w hS => by go_simp⟩) hA ?_
 try simp only [Act.put, zq1, zq2, zq3, zq4, zq5, zq6]
 refine wpAnyH_ready (rs := [5]) (by kernel_rfl) (by simp) ?_
 refine AllReadyH.cons (o := _) rfl (fun K' hK => ?_) AllReadyH.nil
 have cD := u8s_cell OD.out 1 (by rw [HN.out]; decide)
 have fD := OD.out.frozen 1
 go_simp
 clear cD fD
 have OS := Hi (OS.out.set_other ⟨D, 1, none⟩ (J U 77) (by simp))
 have O1 := Hi (O1.out.set_other ⟨D, 1, none⟩ (J U 77) (by simp; omega))
 have O2 := Hi (O2.out.set_other ⟨D, 1, none⟩ (J U 77) (by simp; omega))
 have BL := Hi (BL.out.setCell (p := ⟨D, 1, none⟩) (by simp; omega) (J U 77))
 have OD := Hi ((OD.out.set 1 (J U 77)).cells (u8s_set _ _ _))
 have HN := Hi ((List.length_set (i := 1) (a := (77 : Int))).trans HN.out)
 generalize World.setCell _ _ _ = wk2 at OS O1 O2 OD BL ⊢
 refine hK _ _ ((OS.out.cell 0).trans rfl) (fun hB => ?_)
 clear hK K'
 try simp only [Act.put, zq1, zq2, zq3, zq4, zq5, zq6]
 obtain ⟨wk, rfl⟩ : ∃ z, z = wk2 := ⟨_, rfl⟩
 refine wpAnyH_done (by kernel_rfl) ?_ _
 refine NoPanic.normal ?_
 obtain ⟨v1, rfl⟩ : ∃ z, z = wk := ⟨_, rfl⟩
 have c0 : v1.cell? ⟨d, 0, none⟩ = some (J I 24) := (O1.out.cell 0).trans rfl
 have c1 : v1.cell? ⟨d + 1, 0, none⟩ = some (J I 1) := (O2.out.cell 0).trans rfl
 have s0 : v1.cell? ⟨D + 1, 0, none⟩ = some (.slice (some ⟨D, 0, none⟩) 54 54) := (OS.out.cell 0).trans rfl
 go_wp2_with fail
 with_reducible refine (HP.out (10 : Int) 10 rfl (54 : Int) _ _ OS.out OD.out HN.out (by decide)).mono ?_
 rintro e v2 ⟨rfl, hs, hd, hc⟩
 have OS := Hi hs
 have OD := Hi hd
 have O1 := Hi (hc.obj O1.out (show ¬ d = D by omega))
 have O2 := Hi (hc.obj O2.out (show ¬ d + 1 = D by omega))
 have BL := Hi (BL.out.trans (hc.below BL.out.size (fun k hk => by have hk : k = D := hk; omega)))
 have HN := Hi ((setBW_len _ 10 (54 : Int) 4).trans HN.out)
 clear hs hd hc
 clear c0 c1 s0
 have c0 : v2.cell? ⟨d, 0, none⟩ = some (J I 24) := (O1.out.cell 0).trans rfl
 have c1 : v2.cell? ⟨d + 1, 0, none⟩ = some (J I 1) := (O2.out.cell 0).trans rfl
 have s0 : v2.cell? ⟨D + 1, 0, none⟩ = some (.slice (some ⟨D, 0, none⟩) 54 54) := (OS.out.cell 0).trans rfl
 go_wp2_with fail
 with_reducible refine (HP.out (14 : Int) 14 rfl (40 : Int) _ _ OS.out OD.out HN.out (by decide)).mono ?_
 rintro e v3 ⟨rfl, hs, hd, hc⟩
 have OS := Hi hs
 have OD := Hi hd
 have O1 := Hi (hc.obj O1.out (show ¬ d = D by omega))
 have O2 := Hi (hc.obj O2.out (show ¬ d + 1 = D by omega))
 have BL := Hi (BL.out.trans (hc.below BL.out.size (fun k hk => by have hk : k = D := hk; omega)))
 have HN := Hi ((setBW_len _ 14 (40 : Int) 4).trans HN.out)
 clear hs hd hc
 clear c0 c1 s0
 have c0 : v3.cell? ⟨d, 0, none⟩ = some (J I 24) := (O1.out.cell 0).trans rfl
 have c1 : v3.cell? ⟨d + 1, 0, none⟩ = some (J I 1) := (O2.out.cell 0).trans rfl
 have s0 : v3.cell? ⟨D + 1, 0, none⟩ = some (.slice (some ⟨D, 0, none⟩) 54 54) := (OS.out.cell 0).trans rfl
 go_wp2_with fail
 with_reducible refine (HP.out (18 : Int) 18 rfl (1 : Int) _ _ OS.out OD.out HN.out (by decide)).mono ?_
 rintro e v4 ⟨rfl, hs, hd, hc⟩
 have OS := Hi hs
 have OD := Hi hd
 have O1 := Hi (hc.obj O1.out (show ¬ d = D by omega))
 have O2 := Hi (hc.obj O2.out (show ¬ d + 1 = D by omega))
 have BL := Hi (BL.out.trans (hc.below BL.out.size (fun k hk => by have hk : k = D := hk; omega)))
 have HN := Hi ((setBW_len _ 18 (1 : Int) 4).trans HN.out)
 clear hs hd hc
 clear c0 c1 s0
 have c0 : v4.cell? ⟨d, 0, none⟩ = some (J I 24) := (O1.out.cell 0).trans rfl
 have c1 : v4.cell? ⟨d + 1, 0, none⟩ = some (J I 1) := (O2.out.cell 0).trans rfl
 have s0 : v4.cell? ⟨D + 1, 0, none⟩ = some (.slice (some ⟨D, 0, none⟩) 54 54) := (OS.out.cell 0).trans rfl
 go_wp2_with fail
 with_reducible refine (HP.out (22 : Int) 22 rfl (1 : Int) _ _ OS.out OD.out HN.out (by decide)).mono ?_
 rintro e v5 ⟨rfl, hs, hd, hc⟩
 have OS := Hi hs
 have OD := Hi hd
 have O1 := Hi (hc.obj O1.out (show ¬ d = D by omega))
 have O2 := Hi (hc.obj O2.out (show ¬ d + 1 = D by omega))
 have BL := Hi (BL.out.trans (hc.below BL.out.size (fun k hk => by have hk : k = D := hk; omega)))
 have HN := Hi ((setBW_len _ 22 (1 : Int) 4).trans HN.out)
 clear hs hd hc
 clear c0 c1 s0
 have c0 : v5.cell? ⟨d, 0, none⟩ = some (J I 24) := (O1.out.cell 0).trans rfl
 have c1 : v5.cell? ⟨d + 1, 0, none⟩ = some (J I 1) := (O2.out.cell 0).trans rfl
 have s0 : v5.cell? ⟨D + 1, 0, none⟩ = some (.slice (some ⟨D, 0, none⟩) 54 54) := (OS.out.cell 0).trans rfl
 go_upto_region 26 with (fail)
 clear c0 c1 s0
 refine wp_region_noPanic ?_
 refine wp_region_held_drew (S := fun w' : World => w'.cell? ⟨D + 1, 0, none⟩ = some (.slice (some ⟨D, 0, none⟩) 54 54)) (by kernel_rfl) ((OS.out.cell 0).trans rfl) (fun hHeld => ?_)
 have OS := Hi OS.out.drew
 have OD := Hi OD.out.drew
 have O1 := Hi O1.out.drew
 have O2 := Hi O2.out.drew
 have BL := Hi BL.out.drew
 generalize World.drew _ = wk at OS OD O1 O2 BL hHeld ⊢
 refine wpAnyH_take (i := 0) (v := .slice (some ⟨D, 0, none⟩) 54 54) rfl (by kernel_rfl) (by kernel_rfl) (by kernel_rfl) (fun _ _ _ h => h) (Or.inl ⟨by rfl, fun w hS => by (have h1 : w.cell? ⟨D + 1, 0, none⟩ = some (.slice (some ⟨D, 0, none⟩) 54 54) := hS; go_simp)⟩) hHeld ?_
 try simp only [Act.put, zq1, zq2, zq3, zq4, zq5, zq6]
 refine wpAnyH_take (i := 1) (v := .slice (some ⟨D, 0, none⟩) 54 54) rfl (by kernel_rfl) (by kernel_rfl) (by kernel_rfl) (fun _ _ _ h => h) (Or.inl ⟨by rfl, fun w hS => by (have h1 : w.cell? ⟨D + 1, 0, none⟩ = some (.slice (some ⟨D, 0, none⟩) 54 54) := hS; go_simp)⟩) hHeld ?_
 try simp only [Act.put, zq1, zq2, zq3, zq4, zq5, zq6]
 refine wpAnyH_take (i := 2) (v := Y (some ⟨d, 0, none⟩)) rfl (by kernel_rfl) (by kernel_rfl) (by kernel_rfl) (fun _ _ _ h => h) (Or.inl ⟨by rfl, fun w hS => by go_simp⟩) hHeld ?_
 try simp only [Act.put, zq1, zq2, zq3, zq4, zq5, zq6]
 have hc0 : wk.cell? ⟨d, 0, none⟩ = some (J I 24) := (O1.out.cell 0).trans rfl
 refine wpAnyH_more (S2 := fun w' : World => w'.cell? ⟨D + 1, 0, none⟩ = some (.slice (some ⟨D, 0, none⟩) 54 54) ∧ w'.cell? ⟨d, 0, none⟩ = some (J I 24)) (fun _ h => h.1) _ _ _ _ ?_
 replace hHeld := And.intro hHeld hc0
 clear hc0
 refine wpAnyH_take (i := 3) (v := J I 24) rfl (by kernel_rfl) (by kernel_rfl) (by kernel_rfl) (fun _ _ _ h => h) (Or.inl ⟨by rfl, fun w hS => by (have h1 : w.cell? ⟨d, 0, none⟩ = some (J I 24) := hS.2; go_simp)⟩) hHeld ?_
 try simp only [Act.put, zq1, zq2, zq3, zq4, zq5, zq6]
 refine wpAnyH_take (i := 4) (v := J U 24) rfl (by kernel_rfl) (by kernel_rfl) (by kernel_rfl) (fun _ _ _ h => h) (Or.inl ⟨by rfl, fun w hS => by (go_simp; first | rfl | decide)⟩) hHeld ?_
 try simp only [Act.put, zq1, zq2, zq3, zq4, zq5, zq6]
 refine wpAnyH_take (i := 5) (v := Y (some ⟨D, 26, none⟩)) rfl (by kernel_rfl) (by kernel_rfl) (by kernel_rfl) (fun _ _ _ h => h) (Or.inl ⟨by rfl, fun w hS => by go_simp⟩) hHeld ?_
 try simp only [Act.put, zq1, zq2, zq3, zq4, zq5, zq6]
 refine wpAnyH_ready (rs := [6]) (by kernel_rfl) (by simp) ?_
 refine AllReadyH.cons (o := _) rfl (fun K' hK => ?_) AllReadyH.nil
 have cD := u8s_cell OD.out 26 (by rw [HN.out]; decide)
 have fD := OD.out.frozen 26
 go_simp
 clear cD fD
 have OS := Hi (OS.out.set_other ⟨D, 26, none⟩ (J U 1) (by simp))
 have O1 := Hi (O1.out.set_other ⟨D, 26, none⟩ (J U 1) (by simp; omega))
 have O2 := Hi (O2.out.set_other ⟨D, 26, none⟩ (J U 1) (by simp; omega))
 have BL := Hi (BL.out.setCell (p := ⟨D, 26, none⟩) (by simp; omega) (J U 1))
 have OD := Hi ((OD.out.set 26 (J U 1)).cells (u8s_set _ _ _))
 have HN := Hi ((List.length_set (i := 26) (a := (1 : Int))).trans HN.out)
 generalize World.setCell _ _ _ = wk2 at OS O1 O2 OD BL ⊢
 refine hK _ _ ⟨(OS.out.cell 0).trans rfl, (O1.out.cell 0).trans rfl⟩ (fun hA => ?_)
 clear hK K'
 try simp only [Act.put, zq1, zq2, zq3, zq4, zq5, zq6]
 obtain ⟨wk, rfl⟩ : ∃ z, z = wk2 := ⟨_, rfl⟩
 refine wpAnyH_take (i := 7) (v := Y (some ⟨D, 28, none⟩)) rfl (by kernel_rfl) (by kernel_rfl) (by kernel_rfl) (fun _ _ _ h => h) (Or.inl ⟨by rfl, fun w hS => by go_simp⟩) hA ?_
 try simp only [Act.put, zq1, zq2, zq3, zq4, zq5, zq6]
 refine wpAnyH_ready (rs := [8]) (by kernel_rfl) (by simp) ?_
 refine AllReadyH.cons (o := _) rfl (fun K' hK => ?_) AllReadyH.nil
 have cD := u8s_cell OD.out 28 (by rw [HN.out]; decide)
 have fD := OD.out.frozen 28
 go_simp
 clear cD fD
 have OS := Hi (OS.out.set_other ⟨D, 28, none⟩ (J U 24) (by simp))
 have O1 := Hi (O1.out.set_other ⟨D, 28, none⟩ (J U 24) (by simp; omega))
 have O2 := Hi (O2.out.set_other ⟨D, 28, none⟩ (J U 24) (by simp; omega))
 have BL := Hi (BL.out.setCell (p := ⟨D, 28, none⟩) (by simp; omega) (J U 24))
 have OD := Hi ((OD.out.set 28 (J U 24)).cells (u8s_set _ _ _))
 have HN := Hi ((List.length_set (i := 28) (a := (24 : Int))).trans HN.out)
 generalize World.setCell _ _ _ = wk2 at OS O1 O2 OD BL ⊢
 refine hK _ _ ⟨(OS.out.cell 0).trans rfl, (O1.out.cell 0).trans rfl⟩ (fun hB => ?_)
 clear hK K'
 try simp only [Act.put, zq1, zq2, zq3, zq4, zq5, zq6]
 obtain ⟨wk, rfl⟩ : ∃ z, z = wk2 := ⟨_, rfl⟩
 refine wpAnyH_done (by kernel_rfl) ?_ _
 refine NoPanic.normal ?_
 obtain ⟨v6, rfl⟩ : ∃ z, z = wk := ⟨_, rfl⟩
 have c0 : v6.cell? ⟨d, 0, none⟩ = some (J I 24) := (O1.out.cell 0).trans rfl
 have c1 : v6.cell? ⟨d + 1, 0, none⟩ = some (J I 1) := (O2.out.cell 0).trans rfl
 have s0 : v6.cell? ⟨D + 1, 0, none⟩ = some (.slice (some ⟨D, 0, none⟩) 54 54) := (OS.out.cell 0).trans rfl
 go_wp2_with fail
 with_reducible refine (HP.out (30 : Int) 30 rfl (0 : Int) _ _ OS.out OD.out HN.out (by decide)).mono ?_
 rintro e v7 ⟨rfl, hs, hd, hc⟩
 have OS := Hi hs
 have OD := Hi hd
 have O1 := Hi (hc.obj O1.out (show ¬ d = D by omega))
 have O2 := Hi (hc.obj O2.out (show ¬ d + 1 = D by omega))
 have BL := Hi (BL.out.trans (hc.below BL.out.size (fun k hk => by have hk : k = D := hk; omega)))
 have HN := Hi ((setBW_len _ 30 (0 : Int) 4).trans HN.out)
 clear hs hd hc
 clear c0 c1 s0
 have c0 : v7.cell? ⟨d, 0, none⟩ = some (J I 24) := (O1.out.cell 0).trans rfl
 have c1 : v7.cell? ⟨d + 1, 0, none⟩ = some (J I 1) := (O2.out.cell 0).trans rfl
 have s0 : v7.cell? ⟨D + 1, 0, none⟩ = some (.slice (some ⟨D, 0, none⟩) 54 54) := (OS.out.cell 0).trans rfl
 go_wp2_with fail
 with_reducible refine (HP.out (46 : Int) 46 rfl (0 : Int) _ _ OS.out OD.out HN.out (by decide)).mono ?_
 rintro e v8 ⟨rfl, hs, hd, hc⟩
 have OS := Hi hs
 have OD := Hi hd
 have O1 := Hi (hc.obj O1.out (show ¬ d = D by omega))
 have O2 := Hi (hc.obj O2.out (show ¬ d + 1 = D by omega))
 have BL := Hi (BL.out.trans (hc.below BL.out.size (fun k hk => by have hk : k = D := hk; omega)))
 have HN := Hi ((setBW_len _ 46 (0 : Int) 4).trans HN.out)
 clear hs hd hc
 clear c0 c1 s0
 have c0 : v8.cell? ⟨d, 0, none⟩ = some (J I 24) := (O1.out.cell 0).trans rfl
 have c1 : v8.cell? ⟨d + 1, 0, none⟩ = some (J I 1) := (O2.out.cell 0).trans rfl
 have s0 : v8.cell? ⟨D + 1, 0, none⟩ = some (.slice (some ⟨D, 0, none⟩) 54 54) := (OS.out.cell 0).trans rfl
 go_wp2
 go_ret
 exact ⟨D, rfl, OD.out.cells (by kernel_rfl), by omega, BL.out⟩
end Go.Proofs.YtfchnibjjokmbaaGreat

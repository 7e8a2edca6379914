/- Parts. -/
import Derived.Test.YtfchnibjjokmbaaGreatK12
set_option linter.all false
set_option maxRecDepth 100000
set_option maxHeartbeats 16000000
open Go.Value renaming int → J, pointer → Y
open Go.IntKind renaming i64 → I, u8 → U
namespace Go.Proofs.YtfchnibjjokmbaaGreat
open Go.RowKit
theorem rBad20_len (k a : Int) : (aN k a).length = 15 ∧ (aN k a).all (·.oneCell') = true := ⟨rfl, by simp [aN, Value.oneCell']⟩
theorem rOk_len (h : Hd) (r g b m fr en : Int) : (rOk h r g b m fr en).length = 15 ∧ (rOk h r g b m fr en).all (·.oneCell') = true := ⟨rfl, by simp [rOk, Value.oneCell']⟩
theorem rMk_len (s : ByteArray) (p : Nat) (a : Hd) (en : Int) : (rMk s p a en).length = 15 ∧ (rMk s p a en).all (·.oneCell') = true := by
 unfold rMk
 by_cases h1 : (a.mt == 3) = true
 · rw [if_pos h1]
   by_cases h2 : (s.size : Int) < (if (a.sz == 40) = true then (p : Int) + 52 else en)
   · rw [if_pos h2]; exact rBad20_len _ _
   · rw [if_neg h2]
     by_cases h3 : ((aW (rstep (mkR s p a.sz) a.dp)).2 != 0) = true
     · rw [if_pos h3]; exact rBad20_len _ _
     · rw [if_neg h3]; exact rOk_len _ _ _ _ _ _ _
 · rw [if_neg h1]
   by_cases h2 : (a.dp == 16) = true
   · rw [if_pos h2]; exact rOk_len _ _ _ _ _ _ _
   · rw [if_neg h2]
     by_cases h3 : (a.dp == 32) = true
     · rw [if_pos h3]; exact rOk_len _ _ _ _ _ _ _
     · rw [if_neg h3]; exact rOk_len _ _ _ _ _ _ _
theorem rShort_len (b : ByteArray) (p : Int) : (rShort b p).length = 15 ∧ (rShort b p).all (·.oneCell') = true := by
 unfold rShort; split
 · exact rBad20_len _ _
 · exact rOk_len _ _ _ _ _ _ _
theorem rsg_low (s : ByteArray) (a b : Nat) (V : Int) (w : World) (hk : b = a + 4) (hb : b ≤ s.size) (hV : ab (aC s a 4) = V) : Calls Tryz.prog 51 #[.string (s.extract a b)] w fun e w' => e = .returned (J I V) ∧ w' = w := by
 have hz : (s.extract a b).size = 4 := by rw [ByteArray.size_extract]; omega
 refine (rsigned_any (s.extract a b) w (by omega)).mono ?_
 rintro e w' ⟨h1, h2⟩
 exact ⟨by rw [h1, hz, lowK_lo s a b 4 (by omega) hb, hV], h2.symm⟩
theorem heads_cases2 {n : Nat} (h : aU n = true) : n = 12 ∨ n = 40 ∨ n = 52 ∨ n = 56 ∨ n = 108 ∨ n = 124 := by unfold aU at h; simp at h; omega
theorem great6 (p : Nat) (ML : List Value) (x1 x2 x3 x4 x5 x6 : Bool) : (if (aO [(x1, 2, 12), (x2, 3, 14), (x3, 3, 16), (x4, 2, 16), (x5, 2, 8), (x6, 2, 32)]).2 = true then aN (aO [(x1, 2, 12), (x2, 3, 14), (x3, 3, 16), (x4, 2, 16), (x5, 2, 8), (x6, 2, 32)]).1.2.1 ((p : Int) + (aO [(x1, 2, 12), (x2, 3, 14), (x3, 3, 16), (x4, 2, 16), (x5, 2, 8), (x6, 2, 32)]).1.2.2) else ML) = if x1 = true then aN 2 ((p : Int) + 12) else if x2 = true then aN 3 ((p : Int) + 14) else if x3 = true then aN 3 ((p : Int) + 16) else if x4 = true then aN 2 ((p : Int) + 16) else if x5 = true then aN 2 ((p : Int) + 8) else if x6 = true then aN 2 ((p : Int) + 32) else ML := by
 cases x1
 · cases x2
   · cases x3
     · cases x4
       · cases x5
         · cases x6 <;> rfl
         · rfl
       · rfl
     · rfl
   · rfl
 · rfl
theorem fits_bools (mt dp : Int) : fitsB mt dp = !(((mt == 1) && (dp != 8)) || (((mt == 2) && (dp != 4)) || ((mt == 3) && ((dp != 16) && (dp != 32))))) := by
 unfold fitsB
 by_cases h1 : mt = 1
 · subst h1; simp [bne]
 by_cases h2 : mt = 2
 · subst h2; simp [bne]
 by_cases h3 : mt = 3
 · subst h3; simp [bne]
 rw [if_neg h1, if_neg h2, if_neg h3, eqf h1, eqf h2, eqf h3]; rfl
theorem rread20_any (s : ByteArray) (p : Nat) (w : World) (hp : p ≤ s.size) (hp2 : p ≤ 100000) (hs : s.size ≤ 9223372036854775807) : Calls Tryz.prog 19 #[.string s, J I p, J I s.size] w (RA w (aZ s p)) := by
 have HBD := Hi (fun k a w0 => rbad20_any k a w0)
 obtain ⟨R, hR⟩ : ∃ R, aZ s p = R := ⟨_, rfl⟩
 have E0 := hR
 unfold aZ at E0
 rw [hR]
 clear hR
 have O6 := Hi (aA w #[J I 0, J I 0, J I 0, .bool false, J I 0, J I 0, J I 0, J I 0, J I 0, J I 0, J I 0, J I 0, J I 0, J I 0, J I 0] 46)
 have BL := Hi ((Below.refl w.heap.size w).alloc (Nat.le_refl _) (.cells #[J I 0, J I 0, J I 0, .bool false, J I 0, J I 0, J I 0, J I 0, J I 0, J I 0, J I 0, J I 0, J I 0, J I 0, J I 0] 46))
 have eS : IntKind.i64.wrap ((s.size : Int) - p) = (s.size : Int) - p := aF _ (by omega) (by omega)
 have eS' : wrap64 ((s.size : Int) - p) = (s.size : Int) - p := (IntWalk.i64_left _).symm.trans eS
 by_cases hz : s.size < p + 4
 · as_aux_lemma =>
   have D : decide ((s.size : Int) - p < 4) = true := by rw [decide_eq_true_iff]; omega
   have E := Hi (show R = aN 1 s.size by rw [← E0, if_pos hz])
   clear E0
   go_enter Tryz.func19, Tryz.ntmps19
   go_upto_region 1 with (fail)
   generalize World.alloc _ _ = w1 at O6 BL ⊢
   go_wp2_with (first
    | ((with_reducible refine aE rfl ?_ ?_); rfl; intro _)
    | ((go_at_call 48; (with_reducible refine (HBD.out _ _ _).mono ?_); rintro e wc2 ⟨rfl, hb⟩); have O6 := Hi (O6.out.below hb O6.out.lt); have BL := Hi (am hb BL.out BL.out.size); clear hb)
    | (refine so 46 15 w.heap.size [J I 0, J I 0, J I 0, .bool false, J I 0, J I 0, J I 0, J I 0, J I 0, J I 0, J I 0, J I 0, J I 0, J I 1, J I (s.size : Int)] O6.out ?_; intro ws hst hO; have O6 := Hi hO; have BL := Hi (hst.below BL.out (by omega)); clear hst hO; refine aP 6 (Y (some ⟨w.heap.size, 0, none⟩)) (by kernel_rfl) (by kernel_rfl) ?_; intro A hA hAd))
   refine bodyPost_ret (v := .agg (List.toArray [J I 0, J I 0, J I 0, .bool false, J I 0, J I 0, J I 0, J I 0, J I 0, J I 0, J I 0, J I 0, J I 0, J I 1, J I (s.size : Int)])) ?_ hAd ⟨by rw [E.out] <;> rfl, BL.out⟩
   exact aD Tryz.results19 _ _ _ [J I 0, J I 0, J I 0, .bool false, J I 0, J I 0, J I 0, J I 0, J I 0, J I 0, J I 0, J I 0, J I 0, J I 1, J I (s.size : Int)] _ hA O6.out.range0 Tryz.underlying46 rfl (by kernel_rfl)
 rw [if_neg hz] at E0
 have D : decide ((s.size : Int) - p < 4) = false := by rw [decide_eq_false_iff_not]; omega
 obtain ⟨n, hn⟩ : ∃ n : Nat, aC s p 4 = n := ⟨_, (Int.toNat_of_nonneg (ah s p 4).1).symm⟩
 have hn32 := (lowK4_bd s p).2
 have HN := Hi (fun w0 => le_loww s p (p + 4) 4 (n : Int) w0 rfl (by omega) (by omega) hn)
 rw [hn] at E0 hn32
 rw [Int.toNat_natCast] at E0
 obtain ⟨k16, hk16⟩ : ∃ b, ((n : Int) == 16) = b := ⟨_, rfl⟩
 obtain ⟨k64, hk64⟩ : ∃ b, ((n : Int) == 64) = b := ⟨_, rfl⟩
 obtain ⟨c12, h12⟩ : ∃ b, ((n : Int) != 12) = b := ⟨_, rfl⟩
 obtain ⟨c40, h40⟩ : ∃ b, ((n : Int) != 40) = b := ⟨_, rfl⟩
 obtain ⟨c52, h52⟩ : ∃ b, ((n : Int) != 52) = b := ⟨_, rfl⟩
 obtain ⟨c56, h56⟩ : ∃ b, ((n : Int) != 56) = b := ⟨_, rfl⟩
 obtain ⟨c108, h108⟩ : ∃ b, ((n : Int) != 108) = b := ⟨_, rfl⟩
 obtain ⟨c124, h124⟩ : ∃ b, ((n : Int) != 124) = b := ⟨_, rfl⟩
 have e12 : ((n : Int) == 12) = !c12 := by rw [← h12]; simp [bne]
 have hhd : aU n = !(c12 && (c40 && (c52 && (c56 && (c108 && c124))))) := by
  unfold aU; rw [← h12, ← h40, ← h52, ← h56, ← h108, ← h124]; simp [bne]
 obtain ⟨nh, hnh⟩ : ∃ b, (c12 && (c40 && (c52 && (c56 && (c108 && c124))))) = b := ⟨_, rfl⟩
 obtain ⟨k1664, hk1664⟩ : ∃ b, (k16 || k64) = b := ⟨_, rfl⟩
 rw [hk16, hk64, hk1664, hhd, hnh, e12] at E0
 have HNH := Hi hnh
 have HHD := Hi (hhd.trans (by rw [hnh]))
 have HKK := Hi hk1664
 have H12 := Hi h12
 have HE := Hi E0
 clear hhd hnh hk1664 E0 hn
 have z0 : ((p : Int) + 4).toNat = p + 4 := by omega
 have z1 : (p : Int) + 4 ≤ s.size := by omega
 have z2 : (0 : Int) ≤ (p : Int) + 4 := by omega
 have z3 : (p : Int) ≤ (p : Int) + 4 := by omega
 go_enter Tryz.func19, Tryz.ntmps19
 go_upto_region 1 with (fail)
 generalize World.alloc _ _ = w1 at O6 BL ⊢
 go_upto_region 4 with ((go_at_call 49; (with_reducible refine (HN.out _).mono ?_); rintro e wl ⟨rfl, hq⟩); have hq := hq.symm; subst hq)
 clear z0 z1 z2 z3
 go_cut [27] from 22 to 27 (fun c wx => c = .bool k1664 ∧ wx = w1)
 case first => as_aux_lemma =>
  cases k16
  all_goals
   go_wp2_with ((with_reducible refine aE rfl ?_ ?_); rfl; intro _)
   go_meet
   exact ⟨by rw [← HKK.out] <;> rfl, rfl⟩
 case rest =>
 obtain ⟨rfl, rfl⟩ := hcut
 obtain ⟨w1, rfl⟩ : ∃ x, x = wc := ⟨_, rfl⟩
 cases k1664
 rotate_left
 · as_aux_lemma =>
   have E := Hi (show R = aN 3 p from HE.out.symm)
   clear HE
   go_upto_region 5 with (fail)
   go_wp2_with (first
    | ((with_reducible refine aE rfl ?_ ?_); rfl; intro _)
    | ((go_at_call 48; (with_reducible refine (HBD.out _ _ _).mono ?_); rintro e wc2 ⟨rfl, hb⟩); have O6 := Hi (O6.out.below hb O6.out.lt); have BL := Hi (am hb BL.out BL.out.size); clear hb)
    | (refine so 46 15 w.heap.size [J I 0, J I 0, J I 0, .bool false, J I 0, J I 0, J I 0, J I 0, J I 0, J I 0, J I 0, J I 0, J I 0, J I 3, J I (p : Int)] O6.out ?_; intro ws hst hO; have O6 := Hi hO; have BL := Hi (hst.below BL.out (by omega)); clear hst hO; refine aP 6 (Y (some ⟨w.heap.size, 0, none⟩)) (by kernel_rfl) (by kernel_rfl) ?_; intro A hA hAd))
   refine bodyPost_ret (v := .agg (List.toArray [J I 0, J I 0, J I 0, .bool false, J I 0, J I 0, J I 0, J I 0, J I 0, J I 0, J I 0, J I 0, J I 0, J I 3, J I (p : Int)])) ?_ hAd ⟨by rw [E.out] <;> rfl, BL.out⟩
   exact aD Tryz.results19 _ _ _ [J I 0, J I 0, J I 0, .bool false, J I 0, J I 0, J I 0, J I 0, J I 0, J I 0, J I 0, J I 0, J I 0, J I 3, J I (p : Int)] _ hA O6.out.range0 Tryz.underlying46 rfl (by kernel_rfl)
 go_upto_region 6 with (fail)
 go_cut [51] from 30 to 51 (fun c wx => c = .bool nh ∧ wx = w1)
 case first => as_aux_lemma =>
  cases c12
  · skip
    go_wp2_with ((with_reducible refine aE rfl ?_ ?_); rfl; intro _)
    go_meet
    exact ⟨by rw [← HNH.out] <;> rfl, rfl⟩
  · skip
    cases c40
    · skip
      go_wp2_with ((with_reducible refine aE rfl ?_ ?_); rfl; intro _)
      go_meet
      exact ⟨by rw [← HNH.out] <;> rfl, rfl⟩
    · skip
      cases c52
      · skip
        go_wp2_with ((with_reducible refine aE rfl ?_ ?_); rfl; intro _)
        go_meet
        exact ⟨by rw [← HNH.out] <;> rfl, rfl⟩
      · skip
        cases c56
        · skip
          go_wp2_with ((with_reducible refine aE rfl ?_ ?_); rfl; intro _)
          go_meet
          exact ⟨by rw [← HNH.out] <;> rfl, rfl⟩
        · skip
          cases c108
          · skip
            go_wp2_with ((with_reducible refine aE rfl ?_ ?_); rfl; intro _)
            go_meet
            exact ⟨by rw [← HNH.out] <;> rfl, rfl⟩
          · skip
            go_wp2_with ((with_reducible refine aE rfl ?_ ?_); rfl; intro _)
            go_meet
            exact ⟨by rw [← HNH.out] <;> rfl, rfl⟩
 case rest =>
 obtain ⟨rfl, rfl⟩ := hcut
 obtain ⟨w1, rfl⟩ : ∃ x, x = wc := ⟨_, rfl⟩
 cases nh
 rotate_left
 · as_aux_lemma =>
   have E := Hi (show R = aN 2 p from HE.out.symm)
   clear HE
   go_upto_region 7 with (fail)
   go_wp2_with (first
    | ((with_reducible refine aE rfl ?_ ?_); rfl; intro _)
    | ((go_at_call 48; (with_reducible refine (HBD.out _ _ _).mono ?_); rintro e wc2 ⟨rfl, hb⟩); have O6 := Hi (O6.out.below hb O6.out.lt); have BL := Hi (am hb BL.out BL.out.size); clear hb)
    | (refine so 46 15 w.heap.size [J I 0, J I 0, J I 0, .bool false, J I 0, J I 0, J I 0, J I 0, J I 0, J I 0, J I 0, J I 0, J I 0, J I 2, J I (p : Int)] O6.out ?_; intro ws hst hO; have O6 := Hi hO; have BL := Hi (hst.below BL.out (by omega)); clear hst hO; refine aP 6 (Y (some ⟨w.heap.size, 0, none⟩)) (by kernel_rfl) (by kernel_rfl) ?_; intro A hA hAd))
   refine bodyPost_ret (v := .agg (List.toArray [J I 0, J I 0, J I 0, .bool false, J I 0, J I 0, J I 0, J I 0, J I 0, J I 0, J I 0, J I 0, J I 0, J I 2, J I (p : Int)])) ?_ hAd ⟨by rw [E.out] <;> rfl, BL.out⟩
   exact aD Tryz.results19 _ _ _ [J I 0, J I 0, J I 0, .bool false, J I 0, J I 0, J I 0, J I 0, J I 0, J I 0, J I 0, J I 0, J I 0, J I 2, J I (p : Int)] _ hA O6.out.range0 Tryz.underlying46 rfl (by kernel_rfl)
 have hnc := heads_cases2 HHD.out
 have HE := Hi (show (if (s.size : Int) < p + (n : Int) then aN 1 s.size else if (!c12) = true then rShort (s.extract p (p + n)) p else if (aO (aj (s.extract p (p + n)))).2 = true then aN (aO (aj (s.extract p (p + n)))).1.2.1 ((p : Int) + (aO (aj (s.extract p (p + n)))).1.2.2) else rMk s p (greatH (s.extract p (p + n))) ((p : Int) + n)) = R by have h1 := HE.out; rw [if_neg (by decide), if_neg (by decide)] at h1; exact h1)
 have hn124 : n ≤ 124 := by omega
 have HNC := Hi hnc
 clear h40 h52 h56 h108 h124 hnc HNH HKK hk16 hk64
 go_upto_region 8 with (fail)
 by_cases hsz : s.size < p + n
 · as_aux_lemma =>
   have D8 : decide ((s.size : Int) - p < (n : Int)) = true := by rw [decide_eq_true_iff]; omega
   have E := Hi (show R = aN 1 s.size by rw [← HE.out, if_pos (by omega)])
   clear HE
   go_upto_region 9 with (fail)
   go_wp2_with (first
    | ((with_reducible refine aE rfl ?_ ?_); rfl; intro _)
    | ((go_at_call 48; (with_reducible refine (HBD.out _ _ _).mono ?_); rintro e wc2 ⟨rfl, hb⟩); have O6 := Hi (O6.out.below hb O6.out.lt); have BL := Hi (am hb BL.out BL.out.size); clear hb)
    | (refine so 46 15 w.heap.size [J I 0, J I 0, J I 0, .bool false, J I 0, J I 0, J I 0, J I 0, J I 0, J I 0, J I 0, J I 0, J I 0, J I 1, J I (s.size : Int)] O6.out ?_; intro ws hst hO; have O6 := Hi hO; have BL := Hi (hst.below BL.out (by omega)); clear hst hO; refine aP 6 (Y (some ⟨w.heap.size, 0, none⟩)) (by kernel_rfl) (by kernel_rfl) ?_; intro A hA hAd))
   refine bodyPost_ret (v := .agg (List.toArray [J I 0, J I 0, J I 0, .bool false, J I 0, J I 0, J I 0, J I 0, J I 0, J I 0, J I 0, J I 0, J I 0, J I 1, J I (s.size : Int)])) ?_ hAd ⟨by rw [E.out] <;> rfl, BL.out⟩
   exact aD Tryz.results19 _ _ _ [J I 0, J I 0, J I 0, .bool false, J I 0, J I 0, J I 0, J I 0, J I 0, J I 0, J I 0, J I 0, J I 0, J I 1, J I (s.size : Int)] _ hA O6.out.range0 Tryz.underlying46 rfl (by kernel_rfl)
 have D8 : decide ((s.size : Int) - p < (n : Int)) = false := by rw [decide_eq_false_iff_not]; omega
 have z0 : ((p : Int) + n).toNat = p + n := by omega
 have z1 : (p : Int) + n ≤ s.size := by omega
 have z2 : (0 : Int) ≤ (p : Int) + n := by omega
 have z3 : (p : Int) ≤ (p : Int) + n := by omega
 obtain ⟨b, hb⟩ : ∃ b, s.extract p (p + n) = b := ⟨_, rfl⟩
 have HB := Hi hb
 have hbn : b.size = n := by rw [← hb, ByteArray.size_extract]; omega
 have HE := Hi (show (if (!c12) = true then rShort b p else if (aO (aj b)).2 = true then aN (aO (aj b)).1.2.1 ((p : Int) + (aO (aj b)).1.2.2) else rMk s p (greatH b) ((p : Int) + n)) = R by have h1 := HE.out; rw [if_neg (by omega), hb] at h1; exact h1)
 have HBN := Hi hbn
 go_upto_region 11 with (fail)
 clear z0 z3 hb hbn
 cases c12
 · as_aux_lemma =>
   have h12n : b.size = 12 := by have h1 := H12.out; have h2 := HBN.out; simp [bne] at h1; omega
   obtain ⟨L, hL⟩ : ∃ L, rShort b p = L := ⟨_, rfl⟩
   have E := Hi (show R = L by have h1 := HE.out; rw [if_pos (by decide)] at h1; exact h1.symm.trans hL)
   have LL : L.length = 15 := hL ▸ (rShort_len b p).1
   have LO : L.all (·.oneCell') = true := hL ▸ (rShort_len b p).2
   have LI : (Tryz.prog.info? 46).map (·.size) = some L.length := by rw [LL]; kernel_rfl
   have HSH := Hi (fun w0 => (show Calls Tryz.prog 50 #[.string b, J I p] w0 (RA w0 L) from hL ▸ rshort_any b p w0 h12n (by omega)))
   clear HE hL h12n
   go_upto_region 12 with (fail)
   go_wp2_with (first
    | ((go_at_call 50; (with_reducible refine (HSH.out _).mono ?_); rintro e wc2 ⟨rfl, hb⟩); have O6 := Hi (O6.out.below hb O6.out.lt); have BL := Hi (am hb BL.out BL.out.size); clear hb)
    | (refine store_o rfl 46 15 _ _ rfl w.heap.size L LL LO (by kernel_rfl) (by kernel_rfl) (by kernel_rfl) O6.out (by first | rfl | simp) ?_; intro ws hst hO; have O6 := Hi hO; have BL := Hi (hst.below BL.out (by omega)); clear hst hO; refine aP 6 (Y (some ⟨w.heap.size, 0, none⟩)) (by kernel_rfl) (by kernel_rfl) ?_; intro A hA hAd))
   refine bodyPost_ret (v := .agg (List.toArray L)) ?_ hAd ⟨by rw [E.out] <;> rfl, BL.out⟩
   exact aD Tryz.results19 _ _ _ L _ hA O6.out.range0 Tryz.underlying46 rfl LI
 have h40 : 40 ≤ b.size := by have h1 := H12.out; have h2 := HBN.out; have h3 := HNC.out; simp [bne] at h1; omega
 have hgr := HE.out
 rw [if_neg (by decide)] at hgr
 obtain ⟨ML, hML⟩ : ∃ L, rMk s p (greatH b) ((p : Int) + n) = L := ⟨_, rfl⟩
 have HML := Hi hML
 rw [hML] at hgr
 unfold aj sidesF at hgr
 obtain ⟨W, hW⟩ : ∃ x, ab (aC b 4 4) = x := ⟨_, rfl⟩
 obtain ⟨H, hH⟩ : ∃ x, ab (aC b 8 4) = x := ⟨_, rfl⟩
 obtain ⟨P, hP⟩ : ∃ x, aC b 12 2 = x := ⟨_, rfl⟩
 obtain ⟨dp, hdp⟩ : ∃ x, aC b 14 2 = x := ⟨_, rfl⟩
 obtain ⟨mt, hmt⟩ : ∃ x, aC b 16 4 = x := ⟨_, rfl⟩
 obtain ⟨co, hco⟩ : ∃ x, aC b 32 4 = x := ⟨_, rfl⟩
 have dp0 : 0 ≤ dp := hdp ▸ (ah b 14 2).1
 have bH := signed_bd _ (lowK4_bd b 8).1 (lowK4_bd b 8).2
 have HW := Hi (fun w0 => rsg_low b 4 8 W w0 rfl (by omega) hW)
 have HH := Hi (fun w0 => rsg_low b 8 12 H w0 rfl (by omega) hH)
 have HP := Hi (fun w0 => le_loww b 12 14 2 P w0 rfl (by omega) (by omega) hP)
 have HDP := Hi (fun w0 => le_loww b 14 16 2 dp w0 rfl (by omega) (by omega) hdp)
 have HMT := Hi (fun w0 => le_loww b 16 20 4 mt w0 rfl (by omega) (by omega) hmt)
 have HCO := Hi (fun w0 => le_loww b 32 36 4 co w0 rfl (by omega) (by omega) hco)
 rw [hW, hH, hP, hdp, hmt, hco] at hgr
 rw [hH] at bH
 have HGH := Hi (show greatH b = ⟨b.size, W, if H < 0 then -H else H, decide (H < 0), dp, mt, if co = 0 ∧ dp ≤ 8 then mostI dp else co, z8, 0⟩ by unfold greatH; rw [hW, hH, hdp, hmt, hco])
 have HG := Hi hgr
 have q8 : (8 : Int) ≤ b.size := by omega
 have q12 : (12 : Int) ≤ b.size := by omega
 have q14 : (14 : Int) ≤ b.size := by omega
 have q16 : (16 : Int) ≤ b.size := by omega
 have q20 : (20 : Int) ≤ b.size := by omega
 have q36 : (36 : Int) ≤ b.size := by omega
 have pn : (p : Int) + n ≤ 100200 := by omega
 clear hgr hML HE hW hH hP hdp hmt hco
 go_upto_region 13 with (fail)
 refine wp_region_noPanic ?_
 refine wp_region_held_drew (S := fun w' => True) (by kernel_rfl) trivial (fun hHeld => ?_)
 refine zt 0 (J I (n : Int)) rfl hHeld ?_
 refine zt 1 (.string b) rfl hHeld ?_
 refine zt 2 (.string (b.extract 4 8)) rfl hHeld ?_ (hy := fun wx _ => by (go_simp) <;> first | (intro hh; exfalso; omega) | exact aF _ (by omega) (by omega))
 refine zt 4 (.string b) rfl hHeld ?_
 refine zt 5 (.string (b.extract 8 12)) rfl hHeld ?_ (hy := fun wx _ => by (go_simp) <;> first | (intro hh; exfalso; omega) | exact aF _ (by omega) (by omega))
 refine zt 7 (.string b) rfl hHeld ?_
 refine zt 8 (.string (b.extract 14 16)) rfl hHeld ?_ (hy := fun wx _ => by (go_simp) <;> first | (intro hh; exfalso; omega) | exact aF _ (by omega) (by omega))
 refine zt 10 (.string b) rfl hHeld ?_
 refine zt 11 (.string (b.extract 16 20)) rfl hHeld ?_ (hy := fun wx _ => by (go_simp) <;> first | (intro hh; exfalso; omega) | exact aF _ (by omega) (by omega))
 refine zt 13 (.string b) rfl hHeld ?_
 refine zt 14 (.string (b.extract 32 36)) rfl hHeld ?_ (hy := fun wx _ => by (go_simp) <;> first | (intro hh; exfalso; omega) | exact aF _ (by omega) (by omega))
 refine zt 16 (J I (p : Int)) rfl hHeld ?_
 refine zt 17 (J I (p : Int)) rfl hHeld ?_
 refine zt 18 (J I (n : Int)) rfl hHeld ?_
 refine zt 19 (J I ((p : Int) + n)) rfl hHeld ?_ (hy := fun wx _ => by (go_simp) <;> first | (intro hh; exfalso; omega) | exact aF _ (by omega) (by omega))
 refine aR (i := 3) (v := J I W) rfl (by kernel_rfl) (by kernel_rfl) (by kernel_rfl) (fun _ _ _ h => h) (Or.inr ⟨by rfl, fun wx _ => ⟨51, #[.string (b.extract 4 8)], by kernel_rfl, HW.out wx⟩⟩) hHeld ?_
 simp only [Act.put, zq1, zq2, zq3, zq4, zq5, zq6]
 refine aR (i := 6) (v := J I H) rfl (by kernel_rfl) (by kernel_rfl) (by kernel_rfl) (fun _ _ _ h => h) (Or.inr ⟨by rfl, fun wx _ => ⟨51, #[.string (b.extract 8 12)], by kernel_rfl, HH.out wx⟩⟩) hHeld ?_
 simp only [Act.put, zq1, zq2, zq3, zq4, zq5, zq6]
 refine aR (i := 9) (v := J I dp) rfl (by kernel_rfl) (by kernel_rfl) (by kernel_rfl) (fun _ _ _ h => h) (Or.inr ⟨by rfl, fun wx _ => ⟨49, #[.string (b.extract 14 16)], by kernel_rfl, HDP.out wx⟩⟩) hHeld ?_
 simp only [Act.put, zq1, zq2, zq3, zq4, zq5, zq6]
 refine aR (i := 12) (v := J I mt) rfl (by kernel_rfl) (by kernel_rfl) (by kernel_rfl) (fun _ _ _ h => h) (Or.inr ⟨by rfl, fun wx _ => ⟨49, #[.string (b.extract 16 20)], by kernel_rfl, HMT.out wx⟩⟩) hHeld ?_
 simp only [Act.put, zq1, zq2, zq3, zq4, zq5, zq6]
 refine aR (i := 15) (v := J I co) rfl (by kernel_rfl) (by kernel_rfl) (by kernel_rfl) (fun _ _ _ h => h) (Or.inr ⟨by rfl, fun wx _ => ⟨49, #[.string (b.extract 32 36)], by kernel_rfl, HCO.out wx⟩⟩) hHeld ?_
 simp only [Act.put, zq1, zq2, zq3, zq4, zq5, zq6]
 refine zt 20 (.agg (List.toArray [J I (n : Int), J I W, J I H, .bool false, J I dp, J I mt, J I co, J I 0, J I 0, J I 0, J I 0, J I (p : Int), J I ((p : Int) + n), J I 0, J I 0])) rfl hHeld ?_
 have O6 := Hi (O6.out.drew)
 have BL := Hi BL.out.drew
 generalize World.drew _ = wk at O6 BL ⊢
 refine wpAnyH_ready (rs := [21]) (by kernel_rfl) (by simp) ?_
 refine AllReadyH.cons (o := _) rfl (fun K' hK => ?_) AllReadyH.nil
 go_simp
 have O9 := Hi (aA wk #[J I 0, J I 0, J I 0, .bool false, J I 0, J I 0, J I 0, J I 0, J I 0, J I 0, J I 0, J I 0, J I 0, J I 0, J I 0] 46)
 have l6k := O6.out.lt
 have O6 := Hi (O6.out.alloc (.cells #[J I 0, J I 0, J I 0, .bool false, J I 0, J I 0, J I 0, J I 0, J I 0, J I 0, J I 0, J I 0, J I 0, J I 0, J I 0] 46))
 have BL := Hi (BL.out.alloc BL.out.size (.cells #[J I 0, J I 0, J I 0, .bool false, J I 0, J I 0, J I 0, J I 0, J I 0, J I 0, J I 0, J I 0, J I 0, J I 0, J I 0] 46))
 obtain ⟨d, hd⟩ : ∃ d, wk.heap.size = d := ⟨_, rfl⟩
 rw [hd] at O9 l6k ⊢
 clear hd
 generalize World.alloc wk _ = wk2 at O6 O9 BL ⊢
 refine hK _ _ trivial (fun hA1 => ?_)
 clear hK K'
 try simp only [Act.put, zq1, zq2, zq3, zq4, zq5, zq6]
 obtain ⟨wk, rfl⟩ : ∃ z, z = wk2 := ⟨_, rfl⟩
 refine wpAnyH_ready (rs := [22]) (by kernel_rfl) (by simp) ?_
 refine AllReadyH.cons (o := _) rfl (fun K' hK => ?_) AllReadyH.nil
 rw [if_pos (by rfl)]
 refine wp_store_mid 46 _ _ rfl (d) 0 (List.toArray [J I (n : Int), J I W, J I H, .bool false, J I dp, J I mt, J I co, J I 0, J I 0, J I 0, J I 0, J I (p : Int), J I ((p : Int) + n), J I 0, J I 0]) rfl rfl (O9.out.there 0 15 (by simp)) (by kernel_rfl) (all_oneCell_toArray (List.all_eq_true.1 (by rfl))) ?_
 simp only [Act.put, zq1, zq2, zq3, zq4, zq5, zq6]
 have hst : Stored wk (d) 0 [J I (n : Int), J I W, J I H, .bool false, J I dp, J I mt, J I co, J I 0, J I 0, J I 0, J I 0, J I (p : Int), J I ((p : Int) + n), J I 0, J I 0] (wk.setCells (d) 0 [J I (n : Int), J I W, J I H, .bool false, J I dp, J I mt, J I co, J I 0, J I 0, J I 0, J I 0, J I (p : Int), J I ((p : Int) + n), J I 0, J I 0]) := rfl
 have O9 := Hi (hst.whole O9.out (by first | rfl | simp))
 have O6 := Hi (hst.oth O6.out (by omega))
 have BL := Hi (hst.below BL.out (by omega))
 generalize World.setCells _ _ _ _ = wk2 at O6 O9 BL ⊢
 clear hst
 refine hK _ _ trivial (fun hH1 => ?_)
 clear hK K'
 obtain ⟨wk, rfl⟩ : ∃ z, z = wk2 := ⟨_, rfl⟩
 refine wpAnyH_done (by kernel_rfl) ?_ _
 refine NoPanic.normal ?_
 have hd6 : w.heap.size ≠ d := by omega
 have eW3 : IntKind.i64.wrap (-H) = -H := (IntWalk.i64_left _).trans (IntWalk.wrap64_in (-H) ⟨by omega, by omega⟩)
 have eW4 : wrap64 (-H) = -H := IntWalk.wrap64_in (-H) ⟨by omega, by omega⟩
 obtain ⟨b7, hb7⟩ : ∃ x, decide (H < 0) = x := ⟨_, rfl⟩
 obtain ⟨HN, hHN⟩ : ∃ x, (if H < 0 then -H else H) = x := ⟨_, rfl⟩
 have HB7 := Hi hb7
 have HHN := Hi hHN
 clear hHN
 have c2 : wk.cell? ⟨d, 2, none⟩ = some (J I H) := (O9.out.cell 2).trans rfl
 have f2 : wk.frozen? ⟨d, 2, none⟩ = false := O9.out.frozen 2
 have c3 : wk.cell? ⟨d, 3, none⟩ = some (.bool false) := (O9.out.cell 3).trans rfl
 have f3 : wk.frozen? ⟨d, 3, none⟩ = false := O9.out.frozen 3
 go_upto_if 95 with (fail)
 clear hb7
 go_cut [100] from 96 to 100 (fun _ wx => Obj1 wx d (List.toArray [J I (n : Int), J I W, J I HN, .bool b7, J I dp, J I mt, J I co, J I 0, J I 0, J I 0, J I 0, J I (p : Int), J I ((p : Int) + n), J I 0, J I 0]) 46 ∧ Obj1 wx w.heap.size #[J I 0, J I 0, J I 0, .bool false, J I 0, J I 0, J I 0, J I 0, J I 0, J I 0, J I 0, J I 0, J I 0, J I 0, J I 0] 46 ∧ Below w.heap.size w wx)
 case first => as_aux_lemma =>
  cases b7
  · have e : HN = H := by rw [← HHN.out, if_neg (of_decide_eq_false HB7.out)]
    subst e
    go_wp2_with fail
    go_meet
    exact ⟨O9.out, O6.out, BL.out⟩
  · have e : HN = -H := by rw [← HHN.out, if_pos (of_decide_eq_true HB7.out)]
    subst e
    go_wp2_with fail
    go_meet
    exact ⟨((O9.out.set 3 (.bool true)).set 2 (J I (-H))).cells rfl, (O6.out.set_other _ _ (by simpa using hd6)).set_other _ _ (by simpa using hd6), (BL.out.setCell (p := ⟨d, 3, none⟩) (by simp; omega) _).setCell (p := ⟨d, 2, none⟩) (by simp; omega) _⟩
 case rest =>
 obtain ⟨h9, h6, hb⟩ := hcut
 clear c2 f2 c3 f3
 obtain ⟨wk, rfl⟩ : ∃ x, x = wc := ⟨_, rfl⟩
 have O9 := Hi h9
 have O6 := Hi h6
 have BL := Hi hb
 clear h9 h6 hb
 have HSW := Hi (fun w0 => rside_any W w0)
 have HSH := Hi (fun w0 => rside_any HN w0)
 obtain ⟨kW, hkW⟩ : ∃ k, sideK W = k := ⟨_, rfl⟩
 obtain ⟨kH, hkH⟩ : ∃ k, sideK HN = k := ⟨_, rfl⟩
 obtain ⟨b1, hb1⟩ : ∃ x, decide (W ≤ 0) = x := ⟨_, rfl⟩
 obtain ⟨b2, hb2⟩ : ∃ x, decide (W > 16384) = x := ⟨_, rfl⟩
 obtain ⟨b3, hb3⟩ : ∃ x, (H == 0) = x := ⟨_, rfl⟩
 obtain ⟨b4, hb4⟩ : ∃ x, (decide (H > 16384) || decide (H < -16384)) = x := ⟨_, rfl⟩
 have ekW : kW = (if b1 = true then 2 else if b2 = true then 3 else 0) := by rw [← hkW, ← hb1, ← hb2]; unfold sideK; simp
 have ekH : kH = (if b3 = true then 2 else if b4 = true then 3 else 0) := by
  rw [← hkH, ← hb3, ← hb4, ← HHN.out]; unfold sideK
  by_cases e1 : H = 0
  · subst e1; rfl
  · rw [eqf e1]
    by_cases e3 : H < 0
    · rw [if_pos e3, if_neg (by omega)]
      by_cases e2 : -H > 16384
      · rw [if_pos e2]; simp [show H < -16384 by omega]
      · rw [if_neg e2]; simp [show ¬ H < -16384 by omega, show ¬ H > 16384 by omega]
    · rw [if_neg e3, if_neg (by omega)]
      by_cases e2 : H > 16384
      · rw [if_pos e2]; simp [e2]
      · rw [if_neg e2]; simp [e2]; omega
 have EKW := Hi ekW
 have EKH := Hi ekH
 rw [hkW] at HSW
 rw [hkH] at HSH
 have HG := Hi (show (if (aO ([(b1, 2, 4), (b2, 3, 4), (b3, 2, 8), (b4, 3, 8)] ++ [(P != 1, 2, 12), (!dpB dp true, 3, 14), (decide (mt > 3), 3, 16), (!fitsB mt dp, 2, 16), (decide (H < 0) && (mt == 1 || mt == 2), 2, 8), (dpB dp true && decide (co > mostI dp), 2, 32)])).2 = true then aN (aO ([(b1, 2, 4), (b2, 3, 4), (b3, 2, 8), (b4, 3, 8)] ++ [(P != 1, 2, 12), (!dpB dp true, 3, 14), (decide (mt > 3), 3, 16), (!fitsB mt dp, 2, 16), (decide (H < 0) && (mt == 1 || mt == 2), 2, 8), (dpB dp true && decide (co > mostI dp), 2, 32)])).1.2.1 ((p : Int) + (aO ([(b1, 2, 4), (b2, 3, 4), (b3, 2, 8), (b4, 3, 8)] ++ [(P != 1, 2, 12), (!dpB dp true, 3, 14), (decide (mt > 3), 3, 16), (!fitsB mt dp, 2, 16), (decide (H < 0) && (mt == 1 || mt == 2), 2, 8), (dpB dp true && decide (co > mostI dp), 2, 32)])).1.2.2) else ML) = R by have h1 := HG.out; rw [hb1, hb2, hb3, hb4] at h1; exact h1)
 clear ekW ekH hkW hkH hb1 hb2 hb3 hb4 bH
 go_upto_region 17 with (fail)
 have c1 : wk.cell? ⟨d, 1, none⟩ = some (J I W) := (O9.out.cell 1).trans rfl
 have c2 : wk.cell? ⟨d, 2, none⟩ = some (J I HN) := (O9.out.cell 2).trans rfl
 have c4 : wk.cell? ⟨d, 4, none⟩ = some (J I dp) := (O9.out.cell 4).trans rfl
 have c5 : wk.cell? ⟨d, 5, none⟩ = some (J I mt) := (O9.out.cell 5).trans rfl
 obtain ⟨nW, hnW⟩ : ∃ b, (kW != 0) = b := ⟨_, rfl⟩
 obtain ⟨nH, hnH⟩ : ∃ b, (kH != 0) = b := ⟨_, rfl⟩
 have HNW := Hi hnW
 have HNH := Hi hnH
 cases nW
 rotate_left
 · as_aux_lemma =>
   have E := Hi (show R = aN kW ((p : Int) + 4) by
    have e := EKW.out; have h1 := HNW.out; rw [← HG.out]
    cases b1
    · cases b2
      · rw [e] at h1; exact absurd h1 (by decide)
      · rw [e]; rfl
    · rw [e]; rfl)
   clear HG
   go_wp2_with (first
    | ((go_at_call 52; (with_reducible refine (HSW.out _).mono ?_); rintro e wl ⟨rfl, hq⟩); have hq := hq.symm; subst hq)
    | ((with_reducible refine aE rfl ?_ ?_); rfl; intro _)
    | ((go_at_call 48; (with_reducible refine (HBD.out _ _ _).mono ?_); rintro e wc2 ⟨rfl, hb⟩); have O6 := Hi (O6.out.below hb O6.out.lt); have O9 := Hi (O9.out.below hb O9.out.lt); have BL := Hi (am hb BL.out BL.out.size); clear hb)
    | (refine so 46 15 w.heap.size [J I 0, J I 0, J I 0, .bool false, J I 0, J I 0, J I 0, J I 0, J I 0, J I 0, J I 0, J I 0, J I 0, J I kW, J I ((p : Int) + 4)] O6.out ?_; intro ws hst hO; have O6 := Hi hO; have O9 := Hi (hst.oth O9.out (by omega)); have BL := Hi (hst.below BL.out (by omega)); clear hst hO; refine aP 6 (Y (some ⟨w.heap.size, 0, none⟩)) (by kernel_rfl) (by kernel_rfl) ?_; intro A hA hAd))
   refine bodyPost_ret (v := .agg (List.toArray [J I 0, J I 0, J I 0, .bool false, J I 0, J I 0, J I 0, J I 0, J I 0, J I 0, J I 0, J I 0, J I 0, J I kW, J I ((p : Int) + 4)])) ?_ hAd ⟨by rw [E.out] <;> rfl, BL.out⟩
   exact aD Tryz.results19 _ _ _ [J I 0, J I 0, J I 0, .bool false, J I 0, J I 0, J I 0, J I 0, J I 0, J I 0, J I 0, J I 0, J I 0, J I kW, J I ((p : Int) + 4)] _ hA O6.out.range0 Tryz.underlying46 rfl (by kernel_rfl)
 obtain ⟨rfl, rfl⟩ : b1 = false ∧ b2 = false := by have e := EKW.out; have h1 := HNW.out; rw [e] at h1; cases b1 <;> cases b2 <;> simp_all
 go_upto_region 19 with ((go_at_call 52; (with_reducible refine (HSW.out _).mono ?_); rintro e wl ⟨rfl, hq⟩); have hq := hq.symm; subst hq)
 cases nH
 rotate_left
 · as_aux_lemma =>
   have E := Hi (show R = aN kH ((p : Int) + 8) by
    have e := EKH.out; have h1 := HNH.out; rw [← HG.out]
    cases b3
    · cases b4
      · rw [e] at h1; exact absurd h1 (by decide)
      · rw [e]; rfl
    · rw [e]; rfl)
   clear HG
   go_wp2_with (first
    | ((go_at_call 52; (with_reducible refine (HSH.out _).mono ?_); rintro e wl ⟨rfl, hq⟩); have hq := hq.symm; subst hq)
    | ((with_reducible refine aE rfl ?_ ?_); rfl; intro _)
    | ((go_at_call 48; (with_reducible refine (HBD.out _ _ _).mono ?_); rintro e wc2 ⟨rfl, hb⟩); have O6 := Hi (O6.out.below hb O6.out.lt); have O9 := Hi (O9.out.below hb O9.out.lt); have BL := Hi (am hb BL.out BL.out.size); clear hb)
    | (refine so 46 15 w.heap.size [J I 0, J I 0, J I 0, .bool false, J I 0, J I 0, J I 0, J I 0, J I 0, J I 0, J I 0, J I 0, J I 0, J I kH, J I ((p : Int) + 8)] O6.out ?_; intro ws hst hO; have O6 := Hi hO; have O9 := Hi (hst.oth O9.out (by omega)); have BL := Hi (hst.below BL.out (by omega)); clear hst hO; refine aP 6 (Y (some ⟨w.heap.size, 0, none⟩)) (by kernel_rfl) (by kernel_rfl) ?_; intro A hA hAd))
   refine bodyPost_ret (v := .agg (List.toArray [J I 0, J I 0, J I 0, .bool false, J I 0, J I 0, J I 0, J I 0, J I 0, J I 0, J I 0, J I 0, J I 0, J I kH, J I ((p : Int) + 8)])) ?_ hAd ⟨by rw [E.out] <;> rfl, BL.out⟩
   exact aD Tryz.results19 _ _ _ [J I 0, J I 0, J I 0, .bool false, J I 0, J I 0, J I 0, J I 0, J I 0, J I 0, J I 0, J I 0, J I 0, J I kH, J I ((p : Int) + 8)] _ hA O6.out.range0 Tryz.underlying46 rfl (by kernel_rfl)
 obtain ⟨rfl, rfl⟩ : b3 = false ∧ b4 = false := by have e := EKH.out; have h1 := HNH.out; rw [e] at h1; cases b3 <;> cases b4 <;> simp_all
 clear EKW EKH HNW HNH
 go_upto_region 21 with ((go_at_call 52; (with_reducible refine (HSH.out _).mono ?_); rintro e wl ⟨rfl, hq⟩); have hq := hq.symm; subst hq)
 obtain ⟨b5, hb5⟩ : ∃ x, (P != 1) = x := ⟨_, rfl⟩
 obtain ⟨b6, hb6⟩ : ∃ x, dpB dp true = x := ⟨_, rfl⟩
 obtain ⟨b8, hb8⟩ : ∃ x, decide (mt > 3) = x := ⟨_, rfl⟩
 obtain ⟨b9, hb9⟩ : ∃ x, fitsB mt dp = x := ⟨_, rfl⟩
 obtain ⟨m1, hm1⟩ : ∃ x, (mt == 1) = x := ⟨_, rfl⟩
 obtain ⟨m2, hm2⟩ : ∃ x, (mt == 2) = x := ⟨_, rfl⟩
 obtain ⟨M, hM⟩ : ∃ x, mostI dp = x := ⟨_, rfl⟩
 obtain ⟨cg, hcg⟩ : ∃ x, decide (co > M) = x := ⟨_, rfl⟩
 have HG := Hi ((great6 p ML b5 (!b6) b8 (!b9) (b7 && (m1 || m2)) (b6 && cg)).symm.trans (show _ = R by have h1 := HG.out; rw [hb5, hb6, hb8, hb9, hm1, hm2, hM, hcg, HB7.out] at h1; exact h1))
 have HD := Hi (fun w0 => hb6 ▸ rdepth_any dp w0)
 have HB9 := Hi (hb9.symm.trans (fits_bools mt dp))
 clear hb6 hb9
 cases b5
 rotate_left
 · as_aux_lemma =>
   have E := Hi (show R = aN 2 ((p : Int) + 12) from HG.out.symm)
   clear HG
   go_wp2_with (first
    | ((go_at_call 49; (with_reducible refine (HP.out _).mono ?_); rintro e wl ⟨rfl, hq⟩); have hq := hq.symm; subst hq)
    | ((with_reducible refine aE rfl ?_ ?_); rfl; intro _)
    | ((go_at_call 48; (with_reducible refine (HBD.out _ _ _).mono ?_); rintro e wc2 ⟨rfl, hb⟩); have O6 := Hi (O6.out.below hb O6.out.lt); have O9 := Hi (O9.out.below hb O9.out.lt); have BL := Hi (am hb BL.out BL.out.size); clear hb)
    | (refine so 46 15 w.heap.size [J I 0, J I 0, J I 0, .bool false, J I 0, J I 0, J I 0, J I 0, J I 0, J I 0, J I 0, J I 0, J I 0, J I 2, J I ((p : Int) + 12)] O6.out ?_; intro ws hst hO; have O6 := Hi hO; have O9 := Hi (hst.oth O9.out (by omega)); have BL := Hi (hst.below BL.out (by omega)); clear hst hO; refine aP 6 (Y (some ⟨w.heap.size, 0, none⟩)) (by kernel_rfl) (by kernel_rfl) ?_; intro A hA hAd))
   refine bodyPost_ret (v := .agg (List.toArray [J I 0, J I 0, J I 0, .bool false, J I 0, J I 0, J I 0, J I 0, J I 0, J I 0, J I 0, J I 0, J I 0, J I 2, J I ((p : Int) + 12)])) ?_ hAd ⟨by rw [E.out] <;> rfl, BL.out⟩
   exact aD Tryz.results19 _ _ _ [J I 0, J I 0, J I 0, .bool false, J I 0, J I 0, J I 0, J I 0, J I 0, J I 0, J I 0, J I 0, J I 0, J I 2, J I ((p : Int) + 12)] _ hA O6.out.range0 Tryz.underlying46 rfl (by kernel_rfl)
 go_upto_region 23 with ((go_at_call 49; (with_reducible refine (HP.out _).mono ?_); rintro e wl ⟨rfl, hq⟩); have hq := hq.symm; subst hq)
 cases b6
 · as_aux_lemma =>
   have E := Hi (show R = aN 3 ((p : Int) + 14) from HG.out.symm)
   clear HG
   go_wp2_with (first
    | ((go_at_call 53; (with_reducible refine (HD.out _).mono ?_); rintro e wl ⟨rfl, hq⟩); have hq := hq.symm; subst hq)
    | ((with_reducible refine aE rfl ?_ ?_); rfl; intro _)
    | ((go_at_call 48; (with_reducible refine (HBD.out _ _ _).mono ?_); rintro e wc2 ⟨rfl, hb⟩); have O6 := Hi (O6.out.below hb O6.out.lt); have O9 := Hi (O9.out.below hb O9.out.lt); have BL := Hi (am hb BL.out BL.out.size); clear hb)
    | (refine so 46 15 w.heap.size [J I 0, J I 0, J I 0, .bool false, J I 0, J I 0, J I 0, J I 0, J I 0, J I 0, J I 0, J I 0, J I 0, J I 3, J I ((p : Int) + 14)] O6.out ?_; intro ws hst hO; have O6 := Hi hO; have O9 := Hi (hst.oth O9.out (by omega)); have BL := Hi (hst.below BL.out (by omega)); clear hst hO; refine aP 6 (Y (some ⟨w.heap.size, 0, none⟩)) (by kernel_rfl) (by kernel_rfl) ?_; intro A hA hAd))
   refine bodyPost_ret (v := .agg (List.toArray [J I 0, J I 0, J I 0, .bool false, J I 0, J I 0, J I 0, J I 0, J I 0, J I 0, J I 0, J I 0, J I 0, J I 3, J I ((p : Int) + 14)])) ?_ hAd ⟨by rw [E.out] <;> rfl, BL.out⟩
   exact aD Tryz.results19 _ _ _ [J I 0, J I 0, J I 0, .bool false, J I 0, J I 0, J I 0, J I 0, J I 0, J I 0, J I 0, J I 0, J I 0, J I 3, J I ((p : Int) + 14)] _ hA O6.out.range0 Tryz.underlying46 rfl (by kernel_rfl)
 go_upto_region 25 with ((go_at_call 53; (with_reducible refine (HD.out _).mono ?_); rintro e wl ⟨rfl, hq⟩); have hq := hq.symm; subst hq)
 cases b8
 rotate_left
 · as_aux_lemma =>
   have E := Hi (show R = aN 3 ((p : Int) + 16) from HG.out.symm)
   clear HG
   go_wp2_with (first
    | ((with_reducible refine aE rfl ?_ ?_); rfl; intro _)
    | ((go_at_call 48; (with_reducible refine (HBD.out _ _ _).mono ?_); rintro e wc2 ⟨rfl, hb⟩); have O6 := Hi (O6.out.below hb O6.out.lt); have O9 := Hi (O9.out.below hb O9.out.lt); have BL := Hi (am hb BL.out BL.out.size); clear hb)
    | (refine so 46 15 w.heap.size [J I 0, J I 0, J I 0, .bool false, J I 0, J I 0, J I 0, J I 0, J I 0, J I 0, J I 0, J I 0, J I 0, J I 3, J I ((p : Int) + 16)] O6.out ?_; intro ws hst hO; have O6 := Hi hO; have O9 := Hi (hst.oth O9.out (by omega)); have BL := Hi (hst.below BL.out (by omega)); clear hst hO; refine aP 6 (Y (some ⟨w.heap.size, 0, none⟩)) (by kernel_rfl) (by kernel_rfl) ?_; intro A hA hAd))
   refine bodyPost_ret (v := .agg (List.toArray [J I 0, J I 0, J I 0, .bool false, J I 0, J I 0, J I 0, J I 0, J I 0, J I 0, J I 0, J I 0, J I 0, J I 3, J I ((p : Int) + 16)])) ?_ hAd ⟨by rw [E.out] <;> rfl, BL.out⟩
   exact aD Tryz.results19 _ _ _ [J I 0, J I 0, J I 0, .bool false, J I 0, J I 0, J I 0, J I 0, J I 0, J I 0, J I 0, J I 0, J I 0, J I 3, J I ((p : Int) + 16)] _ hA O6.out.range0 Tryz.underlying46 rfl (by kernel_rfl)
 go_upto_region 27 with (fail)
 have c3 : wk.cell? ⟨d, 3, none⟩ = some (.bool b7) := (O9.out.cell 3).trans rfl
 have c6 : wk.cell? ⟨d, 6, none⟩ = some (J I co) := (O9.out.cell 6).trans rfl
 obtain ⟨m3, hm3⟩ : ∃ x, (mt == 3) = x := ⟨_, rfl⟩
 obtain ⟨x8, hx8⟩ : ∃ x, (dp != 8) = x := ⟨_, rfl⟩
 obtain ⟨x4, hx4⟩ : ∃ x, (dp != 4) = x := ⟨_, rfl⟩
 obtain ⟨x16, hx16⟩ : ∃ x, (dp != 16) = x := ⟨_, rfl⟩
 obtain ⟨x32, hx32⟩ : ∃ x, (dp != 32) = x := ⟨_, rfl⟩
 have HB9 := Hi (show b9 = !((m1 && x8) || ((m2 && x4) || (m3 && (x16 && x32)))) by have h1 := HB9.out; rw [hm1, hm2, hm3, hx8, hx4, hx16, hx32] at h1; exact h1)
 have HEX := Hi (show (m1 = true ∧ m2 = false ∧ m3 = false) ∨ (m1 = false ∧ m2 = true ∧ m3 = false) ∨ (m1 = false ∧ m2 = false ∧ m3 = true) ∨ (m1 = false ∧ m2 = false ∧ m3 = false) by
  rw [← hm1, ← hm2, ← hm3]
  by_cases e1 : mt = 1
  · subst e1; exact Or.inl ⟨rfl, rfl, rfl⟩
  by_cases e2 : mt = 2
  · subst e2; exact Or.inr (Or.inl ⟨rfl, rfl, rfl⟩)
  by_cases e3 : mt = 3
  · subst e3; exact Or.inr (Or.inr (Or.inl ⟨rfl, rfl, rfl⟩))
  exact Or.inr (Or.inr (Or.inr ⟨eqf e1, eqf e2, eqf e3⟩)))
 obtain ⟨nb9, hnb9⟩ : ∃ x, (!b9) = x := ⟨_, rfl⟩
 have HNB9 := Hi hnb9
 have h1 := HG.out; rw [hnb9] at h1; clear HG
 have HG := Hi h1; clear h1
 clear hnb9
 go_cut [173] from 141 to 173 (fun c wx => c = .bool nb9 ∧ wx = wk)
 case first => as_aux_lemma =>
  rcases HEX.out with ⟨rfl, rfl, rfl⟩ | ⟨rfl, rfl, rfl⟩ | ⟨rfl, rfl, rfl⟩ | ⟨rfl, rfl, rfl⟩
  · cases x8
    all_goals
     go_wp2_with ((with_reducible refine aE rfl ?_ ?_); rfl; intro _)
     go_meet
     exact ⟨by rw [← HNB9.out, HB9.out] <;> rfl, rfl⟩
  · cases x4
    all_goals
     go_wp2_with ((with_reducible refine aE rfl ?_ ?_); rfl; intro _)
     go_meet
     exact ⟨by rw [← HNB9.out, HB9.out] <;> rfl, rfl⟩
  · cases x16 <;> cases x32
    all_goals
     go_wp2_with ((with_reducible refine aE rfl ?_ ?_); rfl; intro _)
     go_meet
     exact ⟨by rw [← HNB9.out, HB9.out] <;> rfl, rfl⟩
  · go_wp2_with ((with_reducible refine aE rfl ?_ ?_); rfl; intro _)
    go_meet
    exact ⟨by rw [← HNB9.out, HB9.out] <;> rfl, rfl⟩
 case rest =>
 obtain ⟨rfl, rfl⟩ := hcut
 obtain ⟨wk, rfl⟩ : ∃ x, x = wc := ⟨_, rfl⟩
 clear HEX HB9 hx8 hx4 hx16 hx32 hm3
 cases nb9
 rotate_left
 · as_aux_lemma =>
   have E := Hi (show R = aN 2 ((p : Int) + 16) from HG.out.symm)
   clear HG HNB9
   go_upto_region 28 with (fail)
   go_wp2_with (first
    | ((with_reducible refine aE rfl ?_ ?_); rfl; intro _)
    | ((go_at_call 48; (with_reducible refine (HBD.out _ _ _).mono ?_); rintro e wc2 ⟨rfl, hb⟩); have O6 := Hi (O6.out.below hb O6.out.lt); have O9 := Hi (O9.out.below hb O9.out.lt); have BL := Hi (am hb BL.out BL.out.size); clear hb)
    | (refine so 46 15 w.heap.size [J I 0, J I 0, J I 0, .bool false, J I 0, J I 0, J I 0, J I 0, J I 0, J I 0, J I 0, J I 0, J I 0, J I 2, J I ((p : Int) + 16)] O6.out ?_; intro ws hst hO; have O6 := Hi hO; have O9 := Hi (hst.oth O9.out (by omega)); have BL := Hi (hst.below BL.out (by omega)); clear hst hO; refine aP 6 (Y (some ⟨w.heap.size, 0, none⟩)) (by kernel_rfl) (by kernel_rfl) ?_; intro A hA hAd))
   refine bodyPost_ret (v := .agg (List.toArray [J I 0, J I 0, J I 0, .bool false, J I 0, J I 0, J I 0, J I 0, J I 0, J I 0, J I 0, J I 0, J I 0, J I 2, J I ((p : Int) + 16)])) ?_ hAd ⟨by rw [E.out] <;> rfl, BL.out⟩
   exact aD Tryz.results19 _ _ _ [J I 0, J I 0, J I 0, .bool false, J I 0, J I 0, J I 0, J I 0, J I 0, J I 0, J I 0, J I 0, J I 0, J I 2, J I ((p : Int) + 16)] _ hA O6.out.range0 Tryz.underlying46 rfl (by kernel_rfl)
 obtain rfl : b9 = true := by have h1 := HNB9.out; cases b9 <;> simp_all
 clear HNB9
 go_upto_region 29 with (fail)
 obtain ⟨g7, hg7⟩ : ∃ x, (b7 && (m1 || m2)) = x := ⟨_, rfl⟩
 have HG7 := Hi hg7
 have h1 := HG.out; rw [hg7] at h1; clear HG
 have HG := Hi h1; clear h1
 clear hg7
 go_cut [188] from 177 to 188 (fun c wx => c = .bool g7 ∧ wx = wk)
 case first => as_aux_lemma =>
  cases b7
  · go_wp2_with ((with_reducible refine aE rfl ?_ ?_); rfl; intro _)
    go_meet
    exact ⟨by rw [← HG7.out] <;> rfl, rfl⟩
  · cases m1
    all_goals
     go_wp2_with ((with_reducible refine aE rfl ?_ ?_); rfl; intro _)
     go_meet
     exact ⟨by rw [← HG7.out] <;> rfl, rfl⟩
 case rest =>
 obtain ⟨rfl, rfl⟩ := hcut
 obtain ⟨wk, rfl⟩ : ∃ x, x = wc := ⟨_, rfl⟩
 clear HG7 hm1 hm2
 cases g7
 rotate_left
 · as_aux_lemma =>
   have E := Hi (show R = aN 2 ((p : Int) + 8) from HG.out.symm)
   clear HG
   go_upto_region 30 with (fail)
   go_wp2_with (first
    | ((with_reducible refine aE rfl ?_ ?_); rfl; intro _)
    | ((go_at_call 48; (with_reducible refine (HBD.out _ _ _).mono ?_); rintro e wc2 ⟨rfl, hb⟩); have O6 := Hi (O6.out.below hb O6.out.lt); have O9 := Hi (O9.out.below hb O9.out.lt); have BL := Hi (am hb BL.out BL.out.size); clear hb)
    | (refine so 46 15 w.heap.size [J I 0, J I 0, J I 0, .bool false, J I 0, J I 0, J I 0, J I 0, J I 0, J I 0, J I 0, J I 0, J I 0, J I 2, J I ((p : Int) + 8)] O6.out ?_; intro ws hst hO; have O6 := Hi hO; have O9 := Hi (hst.oth O9.out (by omega)); have BL := Hi (hst.below BL.out (by omega)); clear hst hO; refine aP 6 (Y (some ⟨w.heap.size, 0, none⟩)) (by kernel_rfl) (by kernel_rfl) ?_; intro A hA hAd))
   refine bodyPost_ret (v := .agg (List.toArray [J I 0, J I 0, J I 0, .bool false, J I 0, J I 0, J I 0, J I 0, J I 0, J I 0, J I 0, J I 0, J I 0, J I 2, J I ((p : Int) + 8)])) ?_ hAd ⟨by rw [E.out] <;> rfl, BL.out⟩
   exact aD Tryz.results19 _ _ _ [J I 0, J I 0, J I 0, .bool false, J I 0, J I 0, J I 0, J I 0, J I 0, J I 0, J I 0, J I 0, J I 0, J I 2, J I ((p : Int) + 8)] _ hA O6.out.range0 Tryz.underlying46 rfl (by kernel_rfl)
 go_upto_region 31 with (fail)
 obtain ⟨d8, hd8⟩ : ∃ x, decide (dp ≤ 8) = x := ⟨_, rfl⟩
 have HD8 := Hi hd8
 have HCG := Hi hcg
 have HM := Hi hM
 have HDP0 := Hi dp0
 clear hcg hM
 go_cut [212] from 192 to 212 (fun c wx => c = .bool cg ∧ Obj1 wx d (List.toArray [J I (n : Int), J I W, J I HN, .bool b7, J I dp, J I mt, J I co, J I 0, J I 0, J I 0, J I 0, J I (p : Int), J I ((p : Int) + n), J I 0, J I 0]) 46 ∧ Obj1 wx w.heap.size #[J I 0, J I 0, J I 0, .bool false, J I 0, J I 0, J I 0, J I 0, J I 0, J I 0, J I 0, J I 0, J I 0, J I 0, J I 0] 46 ∧ Below w.heap.size w wx)
 case first => as_aux_lemma =>
  cases d8
  · have hM : M = 256 := by rw [← HM.out]; unfold mostI; rw [if_neg (of_decide_eq_false HD8.out)]
    have e8 : decide (dp > 8) = true := by have := of_decide_eq_false HD8.out; rw [decide_eq_true_iff]; omega
    have e256 : decide (co > 256) = cg := by rw [← HCG.out, hM]
    refine wp_region_noPanic ?_
    refine wp_region_held_drew (S := fun w' => w'.rangeAt d 0 [J I (n : Int), J I W, J I HN, .bool b7, J I dp, J I mt, J I co, J I 0, J I 0, J I 0, J I 0, J I (p : Int), J I ((p : Int) + n), J I 0, J I 0]) (by kernel_rfl) O9.out.range0 (fun hHeld => ?_)
    refine zt 0 (Y (some ⟨d, 4, none⟩)) rfl hHeld ?_
    refine zt 1 (J I dp) rfl hHeld ?_ (hy := fun w hS => by (have hc : w.cell? ⟨d, 4, none⟩ = some (J I dp) := hS 4 _ rfl); go_simp)
    refine zt 2 (.bool false) rfl hHeld ?_
    refine zt 3 (.bool false) rfl hHeld ?_
    refine zn 4 rfl hHeld ?_
    refine zn 5 rfl hHeld ?_
    refine zn 6 rfl hHeld ?_
    refine zn 7 rfl hHeld ?_
    refine zn 8 rfl hHeld ?_
    refine zn 9 rfl hHeld ?_
    refine zt 10 (.bool false) rfl hHeld ?_
    refine zt 11 (.bool false) rfl hHeld ?_
    refine zt 12 (Y (some ⟨d, 4, none⟩)) rfl hHeld ?_
    refine zt 13 (J I dp) rfl hHeld ?_ (hy := fun w hS => by (have hc : w.cell? ⟨d, 4, none⟩ = some (J I dp) := hS 4 _ rfl); go_simp)
    refine zt 14 (.bool true) rfl hHeld ?_
    refine zt 15 (.bool true) rfl hHeld ?_
    refine zt 16 (Y (some ⟨d, 6, none⟩)) rfl hHeld ?_
    refine zt 17 (J I co) rfl hHeld ?_ (hy := fun w hS => by (have hc : w.cell? ⟨d, 6, none⟩ = some (J I co) := hS 6 _ rfl); go_simp)
    refine zt 18 (.bool cg) rfl hHeld ?_
    refine zt 19 (.bool cg) rfl hHeld ?_
    refine zt 20 (.bool cg) rfl hHeld ?_
    have O6 := Hi (O6.out.drew)
    have O9 := Hi (O9.out.drew)
    have BL := Hi BL.out.drew
    generalize World.drew _ = wk at O6 O9 BL ⊢
    refine wpAnyH_done (by kernel_rfl) ?_ _
    refine NoPanic.normal ?_
    go_wp2_with fail
    go_meet
    exact ⟨rfl, O9.out, O6.out, BL.out⟩
  · have hM : (2 : Int) ^ dp.toNat = M := by rw [← HM.out]; unfold mostI; rw [if_pos (of_decide_eq_true HD8.out)]
    have e8 : decide (dp > 8) = false := by have := of_decide_eq_true HD8.out; rw [decide_eq_false_iff_not]; omega
    have HPW := Hi (fun w0 => (power_any dp w0 HDP0.out (by have := of_decide_eq_true HD8.out; omega)).mono (R' := fun e w' => e = .returned (J I M) ∧ w' = w0) fun e w' hh => ⟨by rw [← hM]; exact hh.1, hh.2.symm⟩)
    have hCG := HCG.out
    cases cg
    · skip
      refine wp_region_noPanic ?_
      refine wp_region_held_drew (S := fun w' => w'.rangeAt d 0 [J I (n : Int), J I W, J I HN, .bool b7, J I dp, J I mt, J I co, J I 0, J I 0, J I 0, J I 0, J I (p : Int), J I ((p : Int) + n), J I 0, J I 0]) (by kernel_rfl) O9.out.range0 (fun hHeld => ?_)
      refine zt 0 (Y (some ⟨d, 4, none⟩)) rfl hHeld ?_
      refine zt 1 (J I dp) rfl hHeld ?_ (hy := fun w hS => by (have hc : w.cell? ⟨d, 4, none⟩ = some (J I dp) := hS 4 _ rfl); go_simp)
      refine zt 2 (.bool true) rfl hHeld ?_
      refine zt 3 (.bool true) rfl hHeld ?_
      refine zt 4 (Y (some ⟨d, 6, none⟩)) rfl hHeld ?_
      refine zt 5 (J I co) rfl hHeld ?_ (hy := fun w hS => by (have hc : w.cell? ⟨d, 6, none⟩ = some (J I co) := hS 6 _ rfl); go_simp)
      refine zt 6 (Y (some ⟨d, 4, none⟩)) rfl hHeld ?_
      refine zt 7 (J I dp) rfl hHeld ?_ (hy := fun w hS => by (have hc : w.cell? ⟨d, 4, none⟩ = some (J I dp) := hS 4 _ rfl); go_simp)
      refine aR (i := 8) (v := J I M) rfl (by kernel_rfl) (by kernel_rfl) (by kernel_rfl) (fun _ _ _ h => h) (Or.inr ⟨by rfl, fun wx _ => ⟨54, #[J I dp], by kernel_rfl, HPW.out wx⟩⟩) hHeld ?_
      simp only [Act.put, zq1, zq2, zq3, zq4, zq5, zq6]
      refine zt 9 (.bool false) rfl hHeld ?_
      refine zt 10 (.bool false) rfl hHeld ?_
      refine zt 11 (.bool false) rfl hHeld ?_
      refine zt 12 (Y (some ⟨d, 4, none⟩)) rfl hHeld ?_
      refine zt 13 (J I dp) rfl hHeld ?_ (hy := fun w hS => by (have hc : w.cell? ⟨d, 4, none⟩ = some (J I dp) := hS 4 _ rfl); go_simp)
      refine zt 14 (.bool false) rfl hHeld ?_
      refine zt 15 (.bool false) rfl hHeld ?_
      refine zn 16 rfl hHeld ?_
      refine zn 17 rfl hHeld ?_
      refine zn 18 rfl hHeld ?_
      refine zt 19 (.bool false) rfl hHeld ?_
      refine zt 20 (.bool false) rfl hHeld ?_
      have O6 := Hi (O6.out.drew)
      have O9 := Hi (O9.out.drew)
      have BL := Hi BL.out.drew
      generalize World.drew _ = wk at O6 O9 BL ⊢
      refine wpAnyH_done (by kernel_rfl) ?_ _
      refine NoPanic.normal ?_
      go_wp2_with fail
      go_meet
      exact ⟨rfl, O9.out, O6.out, BL.out⟩
    · skip
      refine wp_region_noPanic ?_
      refine wp_region_held_drew (S := fun w' => w'.rangeAt d 0 [J I (n : Int), J I W, J I HN, .bool b7, J I dp, J I mt, J I co, J I 0, J I 0, J I 0, J I 0, J I (p : Int), J I ((p : Int) + n), J I 0, J I 0]) (by kernel_rfl) O9.out.range0 (fun hHeld => ?_)
      refine zt 0 (Y (some ⟨d, 4, none⟩)) rfl hHeld ?_
      refine zt 1 (J I dp) rfl hHeld ?_ (hy := fun w hS => by (have hc : w.cell? ⟨d, 4, none⟩ = some (J I dp) := hS 4 _ rfl); go_simp)
      refine zt 2 (.bool true) rfl hHeld ?_
      refine zt 3 (.bool true) rfl hHeld ?_
      refine zt 4 (Y (some ⟨d, 6, none⟩)) rfl hHeld ?_
      refine zt 5 (J I co) rfl hHeld ?_ (hy := fun w hS => by (have hc : w.cell? ⟨d, 6, none⟩ = some (J I co) := hS 6 _ rfl); go_simp)
      refine zt 6 (Y (some ⟨d, 4, none⟩)) rfl hHeld ?_
      refine zt 7 (J I dp) rfl hHeld ?_ (hy := fun w hS => by (have hc : w.cell? ⟨d, 4, none⟩ = some (J I dp) := hS 4 _ rfl); go_simp)
      refine aR (i := 8) (v := J I M) rfl (by kernel_rfl) (by kernel_rfl) (by kernel_rfl) (fun _ _ _ h => h) (Or.inr ⟨by rfl, fun wx _ => ⟨54, #[J I dp], by kernel_rfl, HPW.out wx⟩⟩) hHeld ?_
      simp only [Act.put, zq1, zq2, zq3, zq4, zq5, zq6]
      refine zt 9 (.bool true) rfl hHeld ?_
      refine zt 10 (.bool true) rfl hHeld ?_
      refine zt 11 (.bool true) rfl hHeld ?_
      refine zn 12 rfl hHeld ?_
      refine zn 13 rfl hHeld ?_
      refine zn 14 rfl hHeld ?_
      refine zn 15 rfl hHeld ?_
      refine zn 16 rfl hHeld ?_
      refine zn 17 rfl hHeld ?_
      refine zn 18 rfl hHeld ?_
      refine zn 19 rfl hHeld ?_
      refine zt 20 (.bool true) rfl hHeld ?_
      have O6 := Hi (O6.out.drew)
      have O9 := Hi (O9.out.drew)
      have BL := Hi BL.out.drew
      generalize World.drew _ = wk at O6 O9 BL ⊢
      refine wpAnyH_done (by kernel_rfl) ?_ _
      refine NoPanic.normal ?_
      go_wp2_with fail
      go_meet
      exact ⟨rfl, O9.out, O6.out, BL.out⟩
 case rest =>
 obtain ⟨rfl, h9, h6, hb⟩ := hcut
 clear c1 c2 c3 c4 c5 c6
 obtain ⟨wk, rfl⟩ : ∃ x, x = wc := ⟨_, rfl⟩
 have O9 := Hi h9
 have O6 := Hi h6
 have BL := Hi hb
 clear h9 h6 hb
 cases cg
 rotate_left
 · as_aux_lemma =>
   have E := Hi (show R = aN 2 ((p : Int) + 32) from HG.out.symm)
   clear HG
   go_upto_region 32 with (fail)
   go_wp2_with (first
    | ((with_reducible refine aE rfl ?_ ?_); rfl; intro _)
    | ((go_at_call 48; (with_reducible refine (HBD.out _ _ _).mono ?_); rintro e wc2 ⟨rfl, hb⟩); have O6 := Hi (O6.out.below hb O6.out.lt); have O9 := Hi (O9.out.below hb O9.out.lt); have BL := Hi (am hb BL.out BL.out.size); clear hb)
    | (refine so 46 15 w.heap.size [J I 0, J I 0, J I 0, .bool false, J I 0, J I 0, J I 0, J I 0, J I 0, J I 0, J I 0, J I 0, J I 0, J I 2, J I ((p : Int) + 32)] O6.out ?_; intro ws hst hO; have O6 := Hi hO; have O9 := Hi (hst.oth O9.out (by omega)); have BL := Hi (hst.below BL.out (by omega)); clear hst hO; refine aP 6 (Y (some ⟨w.heap.size, 0, none⟩)) (by kernel_rfl) (by kernel_rfl) ?_; intro A hA hAd))
   refine bodyPost_ret (v := .agg (List.toArray [J I 0, J I 0, J I 0, .bool false, J I 0, J I 0, J I 0, J I 0, J I 0, J I 0, J I 0, J I 0, J I 0, J I 2, J I ((p : Int) + 32)])) ?_ hAd ⟨by rw [E.out] <;> rfl, BL.out⟩
   exact aD Tryz.results19 _ _ _ [J I 0, J I 0, J I 0, .bool false, J I 0, J I 0, J I 0, J I 0, J I 0, J I 0, J I 0, J I 0, J I 0, J I 2, J I ((p : Int) + 32)] _ hA O6.out.range0 Tryz.underlying46 rfl (by kernel_rfl)
 go_upto_region 33 with (fail)
 have c4 : wk.cell? ⟨d, 4, none⟩ = some (J I dp) := (O9.out.cell 4).trans rfl
 have c6 : wk.cell? ⟨d, 6, none⟩ = some (J I co) := (O9.out.cell 6).trans rfl
 have f6 : wk.frozen? ⟨d, 6, none⟩ = false := O9.out.frozen 6
 obtain ⟨c0, hc0⟩ : ∃ x, (co == 0) = x := ⟨_, rfl⟩
 obtain ⟨z0, hz0⟩ : ∃ x, (d8 && c0) = x := ⟨_, rfl⟩
 have HZ0 := Hi hz0
 have HC0 := Hi hc0
 have hd8 := HD8.out
 clear hz0
 go_cut [223] from 216 to 223 (fun c wx => c = .bool z0 ∧ wx = wk)
 case first => as_aux_lemma =>
  cases d8
  · go_wp2_with ((with_reducible refine aE rfl ?_ ?_); rfl; intro _)
    go_meet
    exact ⟨by rw [← HZ0.out] <;> rfl, rfl⟩
  · go_wp2_with ((with_reducible refine aE rfl ?_ ?_); rfl; intro _)
    go_meet
    exact ⟨by rw [← HZ0.out] <;> rfl, rfl⟩
 case rest =>
 obtain ⟨rfl, rfl⟩ := hcut
 obtain ⟨wk, rfl⟩ : ∃ x, x = wc := ⟨_, rfl⟩
 clear hd8 hc0
 obtain ⟨co2, hco2⟩ : ∃ x, (if co = 0 ∧ dp ≤ 8 then mostI dp else co) = x := ⟨_, rfl⟩
 have HCO2 := Hi hco2
 clear hco2
 go_upto_if 223 with (fail)
 go_cut [227] from 224 to 227 (fun _ wx => Obj1 wx d (List.toArray [J I (n : Int), J I W, J I HN, .bool b7, J I dp, J I mt, J I co2, J I 0, J I 0, J I 0, J I 0, J I (p : Int), J I ((p : Int) + n), J I 0, J I 0]) 46 ∧ Obj1 wx w.heap.size #[J I 0, J I 0, J I 0, .bool false, J I 0, J I 0, J I 0, J I 0, J I 0, J I 0, J I 0, J I 0, J I 0, J I 0, J I 0] 46 ∧ Below w.heap.size w wx)
 case first => as_aux_lemma =>
  cases z0
  · have e : co2 = co := by
     rw [← HCO2.out, if_neg]
     rintro ⟨a1, a2⟩
     have h1 := HZ0.out; rw [← HD8.out, ← HC0.out, a1, decide_eq_true a2] at h1; cases h1
    subst e
    go_wp2_with fail
    go_meet
    exact ⟨O9.out, O6.out, BL.out⟩
  · have H2 := Hi (show co = 0 ∧ dp ≤ 8 by
     have h1 := HZ0.out
     have h2 := HD8.out
     have h3 := HC0.out
     cases d8
     · cases h1
     · cases c0
       · cases h1
       · exact ⟨eq_of_beq h3, of_decide_eq_true h2⟩)
    have e : co2 = 2 ^ dp.toNat := by rw [← HCO2.out, if_pos H2.out]; unfold mostI; rw [if_pos H2.out.2]
    subst e
    have HPW := Hi (fun w0 => power_any dp w0 HDP0.out (by have := H2.out.2; omega))
    go_wp2_with ((go_at_call 54; (with_reducible refine (HPW.out _).mono ?_); rintro e wl ⟨rfl, hq⟩); have hq := hq.symm; subst hq)
    go_meet
    exact ⟨(O9.out.set 6 (J I (2 ^ dp.toNat))).cells rfl, O6.out.set_other _ _ (by simpa using hd6), BL.out.setCell (p := ⟨d, 6, none⟩) (by simp; omega) _⟩
 case rest =>
 obtain ⟨h9, h6, hb⟩ := hcut
 clear c4 c6 f6
 obtain ⟨wk, rfl⟩ : ∃ x, x = wc := ⟨_, rfl⟩
 have O9 := Hi h9
 have O6 := Hi h6
 have BL := Hi hb
 clear h9 h6 hb
 have E := Hi (show R = ML from HG.out.symm)
 have hn7 := HNC.out
 have hbn := HBN.out
 have LL : ML.length = 15 := HML.out ▸ (rMk_len s p (greatH b) ((p : Int) + n)).1
 have LO : ML.all (·.oneCell') = true := HML.out ▸ (rMk_len s p (greatH b) ((p : Int) + n)).2
 have LI : (Tryz.prog.info? 46).map (·.size) = some ML.length := by rw [LL]; kernel_rfl
 have hmk : rMk s p ⟨(n : Int), W, HN, b7, dp, mt, co2, z8, 0⟩ ((p : Int) + n) = ML := by
  rw [← HML.out, HGH.out, HHN.out, HB7.out, HCO2.out, hbn]
 have HMK := Hi (fun w0 => (show Calls Tryz.prog 55 #[.string s, .agg (List.toArray [J I (n : Int), J I W, J I HN, .bool b7, J I dp, J I mt, J I co2, J I 0, J I 0, J I 0, J I 0, J I (p : Int), J I ((p : Int) + n), J I 0, J I 0]), J I s.size] w0 (RA w0 ML) from hmk ▸ rmasks_any s p n (n : Int) W HN b7 dp mt co2 ((p : Int) + n) w0 rfl (by omega) (by omega) rfl (by omega) hp2 hs))
 clear hmk HG HML HGH hn7 HNC
 go_upto_region 35 with (fail)
 go_wp2_with (first
  | ((with_reducible refine aE rfl ?_ ?_); rfl; intro _)
  | (refine aL (by kernel_rfl) 46 15 _ rfl d [J I (n : Int), J I W, J I HN, .bool b7, J I dp, J I mt, J I co2, J I 0, J I 0, J I 0, J I 0, J I (p : Int), J I ((p : Int) + n), J I 0, J I 0] rfl rfl O9.out Tryz.underlying46 rfl (by kernel_rfl) ?_; intro _)
  | ((go_at_call 55; (with_reducible refine (HMK.out _).mono ?_); rintro e wc2 ⟨rfl, hb⟩); have O6 := Hi (O6.out.below hb O6.out.lt); have O9 := Hi (O9.out.below hb O9.out.lt); have BL := Hi (am hb BL.out BL.out.size); clear hb)
  | (refine store_o rfl 46 15 _ _ rfl w.heap.size ML LL LO (by kernel_rfl) (by kernel_rfl) (by kernel_rfl) O6.out (by first | rfl | simp) ?_; intro ws hst hO; have O6 := Hi hO; have O9 := Hi (hst.oth O9.out (by omega)); have BL := Hi (hst.below BL.out (by omega)); clear hst hO; refine aP 6 (Y (some ⟨w.heap.size, 0, none⟩)) (by kernel_rfl) (by kernel_rfl) ?_; intro A hA hAd))
 refine bodyPost_ret (v := .agg (List.toArray ML)) ?_ hAd ⟨by rw [E.out] <;> rfl, BL.out⟩
 exact aD Tryz.results19 _ _ _ ML _ hA O6.out.range0 Tryz.underlying46 rfl LI
end Go.Proofs.YtfchnibjjokmbaaGreat

/- Parts. -/
import Derived.Test.YtfchnibjjokmbaaGreatK10
set_option linter.all false
set_option maxRecDepth 100000
set_option maxHeartbeats 16000000
open Go.Value renaming int → J, pointer → Y
open Go.IntKind renaming i64 → I, u8 → U
namespace Go.Proofs.YtfchnibjjokmbaaGreat
open Go.RowKit
def mkR (s : ByteArray) (p : Nat) (sz : Int) (k : Nat) : Int := if k = 0 then aC s (p + 40) 4 else if k = 1 then aC s (p + 44) 4 else if k = 2 then aC s (p + 48) 4 else if 56 ≤ sz then aC s (p + 52) 4 else 0
def rMk (s : ByteArray) (p : Nat) (a : Hd) (en : Int) : List Value :=
 if (a.mt == 3) = true then
  (if (s.size : Int) < (if (a.sz == 40) = true then (p : Int) + 52 else en) then aN 1 s.size else
   if ((aW (rstep (mkR s p a.sz) a.dp)).2 != 0) = true then aN 2 ((p : Int) + 40 + 4 * (aW (rstep (mkR s p a.sz) a.dp)).1) else
   rOk a (mkR s p a.sz 0) (mkR s p a.sz 1) (mkR s p a.sz 2) (mkR s p a.sz 3) p (if (a.sz == 40) = true then (p : Int) + 52 else en))
 else if (a.dp == 16) = true then rOk a 31744 992 31 0 p en else if (a.dp == 32) = true then rOk a 16711680 65280 255 0 p en else rOk a 0 0 0 0 p en
theorem rmasks_any (s : ByteArray) (p n : Nat) (sz W H : Int) (top : Bool) (dp mt co en : Int) (w : World) (hsz : sz = n) (h40 : 40 ≤ n) (hn : n = 40 ∨ n = 52 ∨ 56 ≤ n) (hen : en = (p : Int) + n) (hpn : p + n ≤ s.size) (hp2 : p ≤ 100000) (hs : s.size ≤ 9223372036854775807) :
 Calls Tryz.prog 55 #[.string s, .agg (List.toArray [J I sz, J I W, J I H, .bool top, J I dp, J I mt, J I co, J I 0, J I 0, J I 0, J I 0, J I (p : Int), J I en, J I 0, J I 0]), J I s.size] w (RA w (rMk s p ⟨sz, W, H, top, dp, mt, co, z8, 0⟩ en)) := by
 have HBD := Hi (fun k a w0 => rbad20_any k a w0)
 obtain ⟨R, hR⟩ : ∃ R, rMk s p ⟨sz, W, H, top, dp, mt, co, z8, 0⟩ en = R := ⟨_, rfl⟩
 have E0 := hR
 unfold rMk at E0
 simp only at E0
 rw [hR]
 clear hR
 obtain ⟨m3, hm3⟩ : ∃ b, (mt == 3) = b := ⟨_, rfl⟩
 have hm3' : (mt != 3) = !m3 := by rw [← hm3]; rfl
 obtain ⟨d16, hd16⟩ : ∃ b, (dp == 16) = b := ⟨_, rfl⟩
 obtain ⟨d32, hd32⟩ : ∃ b, (dp == 32) = b := ⟨_, rfl⟩
 obtain ⟨s40, hs40⟩ : ∃ b, (sz == 40) = b := ⟨_, rfl⟩
 have HM3 := Hi hm3
 have HD16 := Hi hd16
 have HS40 := Hi hs40
 rw [hm3, hd16, hd32, hs40] at E0
 have HE := Hi E0
 have HSZ := Hi hsz
 have HEN := Hi hen
 clear E0 hsz hen
 have O4 := Hi ((aA w (List.toArray [J I sz, J I W, J I H, .bool top, J I dp, J I mt, J I co, J I 0, J I 0, J I 0, J I 0, J I (p : Int), J I en, J I 0, J I 0]) 46).alloc (.cells #[J I 0, J I 0, J I 0, .bool false, J I 0, J I 0, J I 0, J I 0, J I 0, J I 0, J I 0, J I 0, J I 0, J I 0, J I 0] 46))
 have O6 := Hi (aA (w.alloc (.cells (List.toArray [J I sz, J I W, J I H, .bool top, J I dp, J I mt, J I co, J I 0, J I 0, J I 0, J I 0, J I (p : Int), J I en, J I 0, J I 0]) 46)) #[J I 0, J I 0, J I 0, .bool false, J I 0, J I 0, J I 0, J I 0, J I 0, J I 0, J I 0, J I 0, J I 0, J I 0, J I 0] 46)
 rw [show (w.alloc (.cells (List.toArray [J I sz, J I W, J I H, .bool top, J I dp, J I mt, J I co, J I 0, J I 0, J I 0, J I 0, J I (p : Int), J I en, J I 0, J I 0]) 46)).heap.size = w.heap.size + 1 by simp] at O6
 have BL := Hi (((Below.refl w.heap.size w).alloc (Nat.le_refl _) (.cells (List.toArray [J I sz, J I W, J I H, .bool top, J I dp, J I mt, J I co, J I 0, J I 0, J I 0, J I 0, J I (p : Int), J I en, J I 0, J I 0]) 46)).alloc (by simp) (.cells #[J I 0, J I 0, J I 0, .bool false, J I 0, J I 0, J I 0, J I 0, J I 0, J I 0, J I 0, J I 0, J I 0, J I 0, J I 0] 46))
 go_enter Tryz.func55, Tryz.ntmps55
 go_upto_region 1 with (fail)
 generalize World.alloc _ _ = w1 at O4 O6 BL ⊢
 have c0 : w1.cell? ⟨w.heap.size, 0, none⟩ = some (J I sz) := (O4.out.cell 0).trans rfl
 have c4 : w1.cell? ⟨w.heap.size, 4, none⟩ = some (J I dp) := (O4.out.cell 4).trans rfl
 have c5 : w1.cell? ⟨w.heap.size, 5, none⟩ = some (J I mt) := (O4.out.cell 5).trans rfl
 have c7 : w1.cell? ⟨w.heap.size, 7, none⟩ = some (J I 0) := (O4.out.cell 7).trans rfl
 have c8 : w1.cell? ⟨w.heap.size, 8, none⟩ = some (J I 0) := (O4.out.cell 8).trans rfl
 have c9 : w1.cell? ⟨w.heap.size, 9, none⟩ = some (J I 0) := (O4.out.cell 9).trans rfl
 have c11 : w1.cell? ⟨w.heap.size, 11, none⟩ = some (J I (p : Int)) := (O4.out.cell 11).trans rfl
 have c12 : w1.cell? ⟨w.heap.size, 12, none⟩ = some (J I en) := (O4.out.cell 12).trans rfl
 have k7 : w1.frozen? ⟨w.heap.size, 7, none⟩ = false := O4.out.frozen 7
 have k8 : w1.frozen? ⟨w.heap.size, 8, none⟩ = false := O4.out.frozen 8
 have k9 : w1.frozen? ⟨w.heap.size, 9, none⟩ = false := O4.out.frozen 9
 have k12 : w1.frozen? ⟨w.heap.size, 12, none⟩ = false := O4.out.frozen 12
 cases m3
 · cases d16
   · cases d32
     · have E := Hi (show R = [J I sz, J I W, J I H, .bool top, J I dp, J I mt, J I co, J I 0, J I 0, J I 0, J I 0, J I (p : Int), J I en, J I 0, J I 0] from HE.out.symm)
       clear HE
       go_upto_region 6 with (fail)
       clear c0 c4 c5 c7 c8 c9 c11 c12 k7 k8 k9 k12
       go_wp2_with (first
        | (refine aL (by kernel_rfl) 46 15 _ rfl w.heap.size [J I sz, J I W, J I H, .bool top, J I dp, J I mt, J I co, J I 0, J I 0, J I 0, J I 0, J I (p : Int), J I en, J I 0, J I 0] rfl rfl O4.out Tryz.underlying46 rfl (by kernel_rfl) ?_; intro _)
        | (refine so 46 15 (w.heap.size + 1) [J I sz, J I W, J I H, .bool top, J I dp, J I mt, J I co, J I 0, J I 0, J I 0, J I 0, J I (p : Int), J I en, J I 0, J I 0] O6.out ?_; intro ws hst hO; have O6 := Hi hO; have O4 := Hi (hst.oth O4.out (by omega)); have BL := Hi (hst.below BL.out (by omega)); clear hst hO; refine aP 6 (Y (some ⟨w.heap.size + 1, 0, none⟩)) (by kernel_rfl) (by kernel_rfl) ?_; intro A hA hAd))
       refine bodyPost_ret (v := .agg (List.toArray [J I sz, J I W, J I H, .bool top, J I dp, J I mt, J I co, J I 0, J I 0, J I 0, J I 0, J I (p : Int), J I en, J I 0, J I 0])) ?_ hAd ⟨by rw [E.out] <;> rfl, BL.out⟩
       exact aD Tryz.results55 _ _ _ [J I sz, J I W, J I H, .bool top, J I dp, J I mt, J I co, J I 0, J I 0, J I 0, J I 0, J I (p : Int), J I en, J I 0, J I 0] _ hA O6.out.range0 Tryz.underlying46 rfl (by kernel_rfl)
     · have E := Hi (show R = [J I sz, J I W, J I H, .bool top, J I dp, J I mt, J I co, J I 16711680, J I 65280, J I 255, J I 0, J I (p : Int), J I en, J I 0, J I 0] from HE.out.symm)
       clear HE
       go_upto_region 6 with (fail)
       have O4 := Hi (O4.out.set 7 (J I 16711680))
       have O6 := Hi (O6.out.set_other ⟨w.heap.size, 7, none⟩ (J I 16711680) (by simp))
       have BL := Hi (BL.out.setCell (p := ⟨w.heap.size, 7, none⟩) (Nat.le_refl _) (J I 16711680))
       have O4 := Hi (O4.out.set 8 (J I 65280))
       have O6 := Hi (O6.out.set_other ⟨w.heap.size, 8, none⟩ (J I 65280) (by simp))
       have BL := Hi (BL.out.setCell (p := ⟨w.heap.size, 8, none⟩) (Nat.le_refl _) (J I 65280))
       have O4 := Hi (O4.out.set 9 (J I 255))
       have O6 := Hi (O6.out.set_other ⟨w.heap.size, 9, none⟩ (J I 255) (by simp))
       have BL := Hi (BL.out.setCell (p := ⟨w.heap.size, 9, none⟩) (Nat.le_refl _) (J I 255))
       have O4 := Hi (O4.out.cells (show _ = List.toArray [J I sz, J I W, J I H, .bool top, J I dp, J I mt, J I co, J I 16711680, J I 65280, J I 255, J I 0, J I (p : Int), J I en, J I 0, J I 0] from rfl))
       clear c0 c4 c5 c7 c8 c9 c11 c12 k7 k8 k9 k12
       generalize World.setCell _ _ _ = wv at O4 O6 BL ⊢
       go_wp2_with (first
        | (refine aL (by kernel_rfl) 46 15 _ rfl w.heap.size [J I sz, J I W, J I H, .bool top, J I dp, J I mt, J I co, J I 16711680, J I 65280, J I 255, J I 0, J I (p : Int), J I en, J I 0, J I 0] rfl rfl O4.out Tryz.underlying46 rfl (by kernel_rfl) ?_; intro _)
        | (refine so 46 15 (w.heap.size + 1) [J I sz, J I W, J I H, .bool top, J I dp, J I mt, J I co, J I 16711680, J I 65280, J I 255, J I 0, J I (p : Int), J I en, J I 0, J I 0] O6.out ?_; intro ws hst hO; have O6 := Hi hO; have O4 := Hi (hst.oth O4.out (by omega)); have BL := Hi (hst.below BL.out (by omega)); clear hst hO; refine aP 6 (Y (some ⟨w.heap.size + 1, 0, none⟩)) (by kernel_rfl) (by kernel_rfl) ?_; intro A hA hAd))
       refine bodyPost_ret (v := .agg (List.toArray [J I sz, J I W, J I H, .bool top, J I dp, J I mt, J I co, J I 16711680, J I 65280, J I 255, J I 0, J I (p : Int), J I en, J I 0, J I 0])) ?_ hAd ⟨by rw [E.out] <;> rfl, BL.out⟩
       exact aD Tryz.results55 _ _ _ [J I sz, J I W, J I H, .bool top, J I dp, J I mt, J I co, J I 16711680, J I 65280, J I 255, J I 0, J I (p : Int), J I en, J I 0, J I 0] _ hA O6.out.range0 Tryz.underlying46 rfl (by kernel_rfl)
   · have E := Hi (show R = [J I sz, J I W, J I H, .bool top, J I dp, J I mt, J I co, J I 31744, J I 992, J I 31, J I 0, J I (p : Int), J I en, J I 0, J I 0] from HE.out.symm)
     obtain rfl : d32 = false := by have h1 := HD16.out; rw [beq_iff_eq] at h1; rw [h1] at hd32; exact hd32.symm
     clear HE HD16
     go_upto_region 6 with (fail)
     have O4 := Hi (O4.out.set 7 (J I 31744))
     have O6 := Hi (O6.out.set_other ⟨w.heap.size, 7, none⟩ (J I 31744) (by simp))
     have BL := Hi (BL.out.setCell (p := ⟨w.heap.size, 7, none⟩) (Nat.le_refl _) (J I 31744))
     have O4 := Hi (O4.out.set 8 (J I 992))
     have O6 := Hi (O6.out.set_other ⟨w.heap.size, 8, none⟩ (J I 992) (by simp))
     have BL := Hi (BL.out.setCell (p := ⟨w.heap.size, 8, none⟩) (Nat.le_refl _) (J I 992))
     have O4 := Hi (O4.out.set 9 (J I 31))
     have O6 := Hi (O6.out.set_other ⟨w.heap.size, 9, none⟩ (J I 31) (by simp))
     have BL := Hi (BL.out.setCell (p := ⟨w.heap.size, 9, none⟩) (Nat.le_refl _) (J I 31))
     have O4 := Hi (O4.out.cells (show _ = List.toArray [J I sz, J I W, J I H, .bool top, J I dp, J I mt, J I co, J I 31744, J I 992, J I 31, J I 0, J I (p : Int), J I en, J I 0, J I 0] from rfl))
     clear c0 c4 c5 c7 c8 c9 c11 c12 k7 k8 k9 k12
     generalize World.setCell _ _ _ = wv at O4 O6 BL ⊢
     go_wp2_with (first
      | (refine aL (by kernel_rfl) 46 15 _ rfl w.heap.size [J I sz, J I W, J I H, .bool top, J I dp, J I mt, J I co, J I 31744, J I 992, J I 31, J I 0, J I (p : Int), J I en, J I 0, J I 0] rfl rfl O4.out Tryz.underlying46 rfl (by kernel_rfl) ?_; intro _)
      | (refine so 46 15 (w.heap.size + 1) [J I sz, J I W, J I H, .bool top, J I dp, J I mt, J I co, J I 31744, J I 992, J I 31, J I 0, J I (p : Int), J I en, J I 0, J I 0] O6.out ?_; intro ws hst hO; have O6 := Hi hO; have O4 := Hi (hst.oth O4.out (by omega)); have BL := Hi (hst.below BL.out (by omega)); clear hst hO; refine aP 6 (Y (some ⟨w.heap.size + 1, 0, none⟩)) (by kernel_rfl) (by kernel_rfl) ?_; intro A hA hAd))
     refine bodyPost_ret (v := .agg (List.toArray [J I sz, J I W, J I H, .bool top, J I dp, J I mt, J I co, J I 31744, J I 992, J I 31, J I 0, J I (p : Int), J I en, J I 0, J I 0])) ?_ hAd ⟨by rw [E.out] <;> rfl, BL.out⟩
     exact aD Tryz.results55 _ _ _ [J I sz, J I W, J I H, .bool top, J I dp, J I mt, J I co, J I 31744, J I 992, J I 31, J I 0, J I (p : Int), J I en, J I 0, J I 0] _ hA O6.out.range0 Tryz.underlying46 rfl (by kernel_rfl)
 · obtain ⟨EN, hEN⟩ : ∃ x : Nat, x = (if s40 = true then p + 52 else p + n) := ⟨_, rfl⟩
   have hENi : (if s40 = true then (p : Int) + 52 else en) = (EN : Int) := by rw [hEN, HEN.out]; split <;> simp
   have hEb : EN ≤ 9223372036854775807 := by rw [hEN]; split <;> omega
   have HE := Hi (show (if (s.size : Int) < (EN : Int) then aN 1 s.size else if ((aW (rstep (mkR s p sz) dp)).2 != 0) = true then aN 2 ((p : Int) + 40 + 4 * (aW (rstep (mkR s p sz) dp)).1) else rOk ⟨sz, W, H, top, dp, mt, co, z8, 0⟩ (mkR s p sz 0) (mkR s p sz 1) (mkR s p sz 2) (mkR s p sz 3) p EN) = R by have h1 := HE.out; rw [if_pos rfl, hENi] at h1; exact h1)
   have HENI := Hi hENi
   have HENE := Hi hEN
   have hp1 : p ≤ 100000 := by omega
   clear hENi hEN hd16 hd32 HD16
   go_upto_region 8 with (fail)
   go_upto_if 32 with (fail)
   go_cut [34] from 33 to 35 (fun _ wx => Obj1 wx w.heap.size (List.toArray [J I sz, J I W, J I H, .bool top, J I dp, J I mt, J I co, J I 0, J I 0, J I 0, J I 0, J I (p : Int), J I (EN : Int), J I 0, J I 0]) 46 ∧ Obj1 wx (w.heap.size + 1) #[J I 0, J I 0, J I 0, .bool false, J I 0, J I 0, J I 0, J I 0, J I 0, J I 0, J I 0, J I 0, J I 0, J I 0, J I 0] 46 ∧ Below w.heap.size w wx)
   case first =>
    cases s40
    · obtain rfl : en = (EN : Int) := HENI.out
      go_wp2_with fail
      go_meet
      exact ⟨O4.out, O6.out, BL.out⟩
    · obtain ⟨e1⟩ : EN = p + 52 := HENE.out
      go_wp2_with fail
      go_meet
      exact ⟨(O4.out.set 12 (J I ((p : Int) + 40 + 12))).cells (by rw [show ((p : Int) + 40 + 12) = ((p + 52 : Nat) : Int) by omega]; rfl), O6.out.set_other _ _ (by simp), BL.out.setCell (p := ⟨w.heap.size, 12, none⟩) (Nat.le_refl _) _⟩
   case rest =>
    obtain ⟨h4, h6, hb⟩ := hcut
    have O4 := Hi h4
    have O6 := Hi h6
    have BL := Hi hb
    clear c0 c4 c5 c7 c8 c9 c11 c12 k7 k8 k9 k12
    clear h4 h6 hb
    have c0 : wc.cell? ⟨w.heap.size, 0, none⟩ = some (J I sz) := (O4.out.cell 0).trans rfl
    have c4 : wc.cell? ⟨w.heap.size, 4, none⟩ = some (J I dp) := (O4.out.cell 4).trans rfl
    have c12 : wc.cell? ⟨w.heap.size, 12, none⟩ = some (J I (EN : Int)) := (O4.out.cell 12).trans rfl
    have k12 : wc.frozen? ⟨w.heap.size, 12, none⟩ = false := O4.out.frozen 12
    by_cases hto : s.size < EN
    · have D : decide ((EN : Int) > (s.size : Int)) = true := by rw [decide_eq_true_iff]; omega
      have E := Hi (show R = aN 1 s.size by rw [← HE.out, if_pos (by omega)])
      clear HE
      go_upto_region 11 with (fail)
      clear c0 c4 c12 k12
      go_wp2_with (first
       | ((go_at_call 48; (with_reducible refine (HBD.out _ _ _).mono ?_); rintro e wc2 ⟨rfl, hb⟩); have O4 := Hi (O4.out.below hb O4.out.lt); have O6 := Hi (O6.out.below hb O6.out.lt); have BL := Hi (am hb BL.out BL.out.size); clear hb)
       | (refine so 46 15 (w.heap.size + 1) [J I 0, J I 0, J I 0, .bool false, J I 0, J I 0, J I 0, J I 0, J I 0, J I 0, J I 0, J I 0, J I 0, J I 1, J I (s.size : Int)] O6.out ?_; intro ws hst hO; have O6 := Hi hO; have O4 := Hi (hst.oth O4.out (by omega)); have BL := Hi (hst.below BL.out (by omega)); clear hst hO; refine aP 6 (Y (some ⟨w.heap.size + 1, 0, none⟩)) (by kernel_rfl) (by kernel_rfl) ?_; intro A hA hAd))
      refine bodyPost_ret (v := .agg (List.toArray [J I 0, J I 0, J I 0, .bool false, J I 0, J I 0, J I 0, J I 0, J I 0, J I 0, J I 0, J I 0, J I 0, J I 1, J I (s.size : Int)])) ?_ hAd ⟨by rw [E.out] <;> rfl, BL.out⟩
      exact aD Tryz.results55 _ _ _ [J I 0, J I 0, J I 0, .bool false, J I 0, J I 0, J I 0, J I 0, J I 0, J I 0, J I 0, J I 0, J I 0, J I 1, J I (s.size : Int)] _ hA O6.out.range0 Tryz.underlying46 rfl (by kernel_rfl)
    have D : decide ((EN : Int) > (s.size : Int)) = false := by rw [decide_eq_false_iff_not]; omega
    have E52 : p + 52 ≤ EN := by
     have h1 := HENE.out
     cases s40
     · rw [if_neg (by decide)] at h1
       have h2 := HS40.out
       rw [beq_eq_false_iff_ne, HSZ.out] at h2
       omega
     · rw [if_pos rfl] at h1; omega
    have E56 : 56 ≤ n → p + 56 ≤ EN := by
     intro h3
     have h1 := HENE.out
     cases s40
     · rw [if_neg (by decide)] at h1; omega
     · have h2 := HS40.out
       rw [beq_iff_eq, HSZ.out] at h2
       omega
    have hse : EN ≤ s.size := by omega
    obtain ⟨l0, h0⟩ : ∃ x, aC s (p + 40) 4 = x := ⟨_, rfl⟩
    obtain ⟨l1, h1⟩ : ∃ x, aC s (p + 44) 4 = x := ⟨_, rfl⟩
    obtain ⟨l2, h2⟩ : ∃ x, aC s (p + 48) 4 = x := ⟨_, rfl⟩
    obtain ⟨l3, h3⟩ : ∃ x, (if 56 ≤ sz then aC s (p + 52) 4 else 0) = x := ⟨_, rfl⟩
    have H0 := Hi (fun w0 => le_loww s (p + 40) (p + 44) 4 l0 w0 rfl (by omega) (by omega) h0)
    have H1 := Hi (fun w0 => le_loww s (p + 44) (p + 48) 4 l1 w0 rfl (by omega) (by omega) h1)
    have H2 := Hi (fun w0 => le_loww s (p + 48) (p + 52) 4 l2 w0 rfl (by omega) (by omega) h2)
    have hm0 : mkR s p sz 0 = l0 := h0
    have hm1 : mkR s p sz 1 = l1 := h1
    have hm2 : mkR s p sz 2 = l2 := h2
    have hm3 : mkR s p sz 3 = l3 := h3
    obtain ⟨i, hi⟩ : ∃ i, (aW (rstep (mkR s p sz) dp)).1 = i := ⟨_, rfl⟩
    obtain ⟨er, her⟩ : ∃ i, (aW (rstep (mkR s p sz) dp)).2 = i := ⟨_, rfl⟩
    obtain ⟨bd, hbd⟩ : ∃ b, (er != 0) = b := ⟨_, rfl⟩
    have hib := scan4_bd (rstep (mkR s p sz) dp)
    rw [hi] at hib
    obtain ⟨hi0, hi3⟩ := hib
    have HF := Hi (fun (w0 : World) (B : Nat) (ho : Obj1 w0 B #[J I l0, J I l1, J I l2, J I l3] 3) => (show Calls Tryz.prog 94 #[.slice (some ⟨B, 0, none⟩) 4 4, J I dp] w0 (fun e w' => e = .returned (.tuple #[J I i, J I er]) ∧ Below w0.heap.size w0 w') from (rfour_any (mkR s p sz) dp B w0 ho.lt (fun j hj => by
     rcases (show j = 0 ∨ j = 1 ∨ j = 2 ∨ j = 3 by omega) with rfl | rfl | rfl | rfl
     · rw [hm0]; exact (ho.cell 0).trans rfl
     · rw [hm1]; exact (ho.cell 1).trans rfl
     · rw [hm2]; exact (ho.cell 2).trans rfl
     · rw [hm3]; exact (ho.cell 3).trans rfl)).mono fun e w' hh => ⟨hh.1.trans (by rw [hi, her]), hh.2⟩))
    have HE := Hi (show (if bd = true then aN 2 ((p : Int) + 40 + 4 * i) else [J I sz, J I W, J I H, .bool top, J I dp, J I mt, J I co, J I l0, J I l1, J I l2, J I l3, J I (p : Int), J I (EN : Int), J I 0, J I 0]) = R by have h9 := HE.out; rw [if_neg (by omega), her, hi, hbd, hm0, hm1, hm2, hm3] at h9; exact h9)
    have E3 := fun (hc : 56 ≤ sz) => Hi (fun w0 => le_loww s (p + 52) (p + 56) 4 l3 w0 rfl (by omega) (by have := E56 (by rw [HSZ.out] at hc; omega); omega) (by rw [← h3, if_pos hc]))
    have E3n := fun (hc : ¬ 56 ≤ sz) => (show l3 = 0 by rw [← h3, if_neg hc])
    have e44 : (p : Int) + 40 + 4 = ((p + 44 : Nat) : Int) := by omega
    have X40 : (p : Int) + 40 = ((p + 40 : Nat) : Int) := by omega
    clear hm0 hm1 hm2 hm3 h0 h1 h2 h3 hi her
    have z40 : ((p : Int) + 40).toNat = p + 40 := by omega
    have z44 : ((p : Int) + 40 + 4).toNat = p + 44 := by omega
    have z48 : ((p : Int) + 40 + 8).toNat = p + 48 := by omega
    have z52 : ((p : Int) + 40 + 12).toNat = p + 52 := by omega
    have z56 : ((p : Int) + 40 + 16).toNat = p + 56 := by omega
    have y52 : (p : Int) + 40 + 12 ≤ s.size := by omega
    have y48 : (p : Int) + 40 + 8 ≤ s.size := by omega
    have y44 : (p : Int) + 40 + 4 ≤ s.size := by omega
    have y4 : (0 : Int) ≤ (p : Int) + 40 + 4 := by omega
    have y8 : (0 : Int) ≤ (p : Int) + 40 + 8 := by omega
    have y12 : (0 : Int) ≤ (p : Int) + 40 + 12 := by omega
    have y16 : (0 : Int) ≤ (p : Int) + 40 + 16 := by omega
    have y40 : (0 : Int) ≤ (p : Int) + 40 := by omega
    have y40b : (p : Int) + 40 ≤ s.size := by omega
    clear e44 X40
    go_upto_region 12 with (fail)
    refine wp_region_noPanic ?_
    refine wp_region_held_drew (S := fun w' => True) (by kernel_rfl) trivial (fun hHeld => ?_)
    refine zt 0 (.string s) rfl hHeld ?_
    refine zt 1 (J I ((p : Int) + 40)) rfl hHeld ?_
    refine zt 2 (J I ((p : Int) + 40)) rfl hHeld ?_
    refine zt 3 (J I (((p : Int) + 40) + 4)) rfl hHeld ?_ (hy := fun wx _ => by (go_simp) <;> first | (intro hh; exfalso; omega) | exact aF _ (by omega) (by omega))
    refine zt 4 (.string (s.extract (p + 40) (p + 44))) rfl hHeld ?_ (hy := fun wx _ => by (go_simp) <;> first | (intro hh; exfalso; omega) | exact aF _ (by omega) (by omega))
    refine zt 6 (.string s) rfl hHeld ?_
    refine zt 7 (J I ((p : Int) + 40)) rfl hHeld ?_
    refine zt 8 (J I (((p : Int) + 40) + 4)) rfl hHeld ?_ (hy := fun wx _ => by (go_simp) <;> first | (intro hh; exfalso; omega) | exact aF _ (by omega) (by omega))
    refine zt 9 (J I ((p : Int) + 40)) rfl hHeld ?_
    refine zt 10 (J I (((p : Int) + 40) + 8)) rfl hHeld ?_ (hy := fun wx _ => by (go_simp) <;> first | (intro hh; exfalso; omega) | exact aF _ (by omega) (by omega))
    refine zt 11 (.string (s.extract (p + 44) (p + 48))) rfl hHeld ?_ (hy := fun wx _ => by (go_simp) <;> first | (intro hh; exfalso; omega) | exact aF _ (by omega) (by omega))
    refine zt 13 (.string s) rfl hHeld ?_
    refine zt 14 (J I ((p : Int) + 40)) rfl hHeld ?_
    refine zt 15 (J I (((p : Int) + 40) + 8)) rfl hHeld ?_ (hy := fun wx _ => by (go_simp) <;> first | (intro hh; exfalso; omega) | exact aF _ (by omega) (by omega))
    refine zt 16 (J I ((p : Int) + 40)) rfl hHeld ?_
    refine zt 17 (J I (((p : Int) + 40) + 12)) rfl hHeld ?_ (hy := fun wx _ => by (go_simp) <;> first | (intro hh; exfalso; omega) | exact aF _ (by omega) (by omega))
    refine zt 18 (.string (s.extract (p + 48) (p + 52))) rfl hHeld ?_ (hy := fun wx _ => by (go_simp) <;> first | (intro hh; exfalso; omega) | exact aF _ (by omega) (by omega))
    refine aR (i := 5) (v := J I l0) rfl (by kernel_rfl) (by kernel_rfl) (by kernel_rfl) (fun _ _ _ h => h) (Or.inr ⟨by rfl, fun wx _ => ⟨49, #[.string (s.extract (p + 40) (p + 44))], by kernel_rfl, H0.out wx⟩⟩) hHeld ?_
    simp only [Act.put, zq1, zq2, zq3, zq4, zq5, zq6]
    refine aR (i := 12) (v := J I l1) rfl (by kernel_rfl) (by kernel_rfl) (by kernel_rfl) (fun _ _ _ h => h) (Or.inr ⟨by rfl, fun wx _ => ⟨49, #[.string (s.extract (p + 44) (p + 48))], by kernel_rfl, H1.out wx⟩⟩) hHeld ?_
    simp only [Act.put, zq1, zq2, zq3, zq4, zq5, zq6]
    refine aR (i := 19) (v := J I l2) rfl (by kernel_rfl) (by kernel_rfl) (by kernel_rfl) (fun _ _ _ h => h) (Or.inr ⟨by rfl, fun wx _ => ⟨49, #[.string (s.extract (p + 48) (p + 52))], by kernel_rfl, H2.out wx⟩⟩) hHeld ?_
    simp only [Act.put, zq1, zq2, zq3, zq4, zq5, zq6]
    have O4 := Hi (O4.out.drew)
    have O6 := Hi (O6.out.drew)
    have BL := Hi BL.out.drew
    generalize World.drew _ = wk at O4 O6 BL ⊢
    refine wpAnyH_ready (rs := [20]) (by kernel_rfl) (by simp) ?_
    refine AllReadyH.cons (o := _) rfl (fun K' hK => ?_) AllReadyH.nil
    go_simp
    have O8 := Hi (aA wk #[J I l0, J I l1, J I l2, J I 0] 3)
    have l6k := O6.out.lt
    have O4 := Hi (O4.out.alloc (.cells #[J I l0, J I l1, J I l2, J I 0] 3))
    have O6 := Hi (O6.out.alloc (.cells #[J I l0, J I l1, J I l2, J I 0] 3))
    have BL := Hi (BL.out.alloc BL.out.size (.cells #[J I l0, J I l1, J I l2, J I 0] 3))
    obtain ⟨d, hd⟩ : ∃ d, wk.heap.size = d := ⟨_, rfl⟩
    rw [hd] at O8 l6k ⊢
    clear hd
    generalize World.alloc wk _ = wk2 at O4 O6 O8 BL ⊢
    refine hK _ _ trivial (fun hA1 => ?_)
    clear hK K'
    try simp only [Act.put, zq1, zq2, zq3, zq4, zq5, zq6]
    obtain ⟨wk, rfl⟩ : ∃ z, z = wk2 := ⟨_, rfl⟩
    refine zt 21 (.slice (some ⟨d, 0, none⟩) 4 4) rfl hA1 ?_
    refine wpAnyH_done (by kernel_rfl) ?_ _
    refine NoPanic.normal ?_
    have c0 : wk.cell? ⟨w.heap.size, 0, none⟩ = some (J I sz) := (O4.out.cell 0).trans rfl
    have c4 : wk.cell? ⟨w.heap.size, 4, none⟩ = some (J I dp) := (O4.out.cell 4).trans rfl
    have c83 : wk.cell? ⟨d, 3, none⟩ = some (J I 0) := (O8.out.cell 3).trans rfl
    have f83 : wk.frozen? ⟨d, 3, none⟩ = false := O8.out.frozen 3
    obtain ⟨sb, hsb⟩ : ∃ b, decide (sz ≥ 56) = b := ⟨_, rfl⟩
    have HSB := Hi hsb
    go_upto_if 65 with (fail)
    clear hsb
    go_cut [74] from 66 to 74 (fun _ wx => Obj1 wx w.heap.size (List.toArray [J I sz, J I W, J I H, .bool top, J I dp, J I mt, J I co, J I 0, J I 0, J I 0, J I 0, J I (p : Int), J I (EN : Int), J I 0, J I 0]) 46 ∧ Obj1 wx (w.heap.size + 1) #[J I 0, J I 0, J I 0, .bool false, J I 0, J I 0, J I 0, J I 0, J I 0, J I 0, J I 0, J I 0, J I 0, J I 0, J I 0] 46 ∧ Obj1 wx d #[J I l0, J I l1, J I l2, J I l3] 3 ∧ Below w.heap.size w wx)
    case first =>
     cases sb
     · obtain rfl := E3n (of_decide_eq_false HSB.out)
       clear E3 E3n
       go_wp2_with fail
       go_meet
       exact ⟨O4.out, O6.out, O8.out, BL.out⟩
     · have hc : 56 ≤ sz := of_decide_eq_true HSB.out
       have E := E3 hc
       have y56 : (p : Int) + 40 + 16 ≤ s.size := by rw [HSZ.out] at hc; have := E56 (by omega); omega
       clear E3 E3n hc
       go_wp2_with (((go_at_call 49; (with_reducible refine (E.out _).mono ?_); rintro e wl ⟨rfl, hq⟩); have hq := hq.symm; subst hq))
       go_meet
       exact ⟨O4.out.set_other _ _ (by simp; omega), O6.out.set_other _ _ (by simp; omega), (O8.out.set 3 (J I l3)).cells rfl, BL.out.setCell (p := ⟨d, 3, none⟩) (by simp; omega) _⟩
    case rest =>
     obtain ⟨h4, h6, h8, hb⟩ := hcut
     have O4 := Hi h4
     have O6 := Hi h6
     have O8 := Hi h8
     have BL := Hi hb
     clear h4 h6 h8 hb E3 E3n c0 c4 c83 f83
     have c4 : wc.cell? ⟨w.heap.size, 4, none⟩ = some (J I dp) := (O4.out.cell 4).trans rfl
     have hi40 : (p : Int) + 40 + 4 * i ≤ 9223372036854775807 := by omega
     go_upto_region 16 with ((go_at_call 94; (with_reducible refine (HF.out _ d O8.out).mono ?_); rintro e wf ⟨rfl, hb⟩); have O4 := Hi (O4.out.below hb O4.out.lt); have O6 := Hi (O6.out.below hb O6.out.lt); have O8 := Hi (O8.out.below hb O8.out.lt); have BL := Hi (am hb BL.out BL.out.size); clear hb)
     clear c4
     cases bd
     rotate_left
     · have E := Hi (show R = aN 2 ((p : Int) + 40 + 4 * i) from HE.out.symm)
       clear HE
       go_upto_region 17 with (fail)
       go_wp2_with (first
        | ((go_at_call 48; (with_reducible refine (HBD.out _ _ _).mono ?_); rintro e wc2 ⟨rfl, hb⟩); have O4 := Hi (O4.out.below hb O4.out.lt); have O6 := Hi (O6.out.below hb O6.out.lt); have BL := Hi (am hb BL.out BL.out.size); clear hb)
        | (refine so 46 15 (w.heap.size + 1) [J I 0, J I 0, J I 0, .bool false, J I 0, J I 0, J I 0, J I 0, J I 0, J I 0, J I 0, J I 0, J I 0, J I 2, J I ((p : Int) + 40 + 4 * i)] O6.out ?_; intro ws hst hO; have O6 := Hi hO; have O4 := Hi (hst.oth O4.out (by omega)); have BL := Hi (hst.below BL.out (by omega)); clear hst hO; refine aP 6 (Y (some ⟨w.heap.size + 1, 0, none⟩)) (by kernel_rfl) (by kernel_rfl) ?_; intro A hA hAd))
       refine bodyPost_ret (v := .agg (List.toArray [J I 0, J I 0, J I 0, .bool false, J I 0, J I 0, J I 0, J I 0, J I 0, J I 0, J I 0, J I 0, J I 0, J I 2, J I ((p : Int) + 40 + 4 * i)])) ?_ hAd ⟨by rw [E.out] <;> rfl, BL.out⟩
       exact aD Tryz.results55 _ _ _ [J I 0, J I 0, J I 0, .bool false, J I 0, J I 0, J I 0, J I 0, J I 0, J I 0, J I 0, J I 0, J I 0, J I 2, J I ((p : Int) + 40 + 4 * i)] _ hA O6.out.range0 Tryz.underlying46 rfl (by kernel_rfl)
     · have E := Hi (show R = [J I sz, J I W, J I H, .bool top, J I dp, J I mt, J I co, J I l0, J I l1, J I l2, J I l3, J I (p : Int), J I (EN : Int), J I 0, J I 0] from HE.out.symm)
       clear HE
       go_upto_region 18 with (fail)
       refine wp_region_noPanic ?_
       refine wp_region_held_drew (S := fun w' => w'.rangeAt d 0 [J I l0, J I l1, J I l2, J I l3]) (by kernel_rfl) (Obj1.range0 (cs := [J I l0, J I l1, J I l2, J I l3]) O8.out) (fun hHeld => ?_)
       refine zt 0 (.slice (some ⟨d, 0, none⟩) 4 4) rfl hHeld ?_
       refine zt 1 (Y (some ⟨d, 0, none⟩)) rfl hHeld ?_
       refine zt 2 (J I l0) rfl hHeld ?_ (hy := fun wx hS => by have h1 : wx.cell? ⟨d, 0, none⟩ = some (J I l0) := hS 0 _ rfl; go_simp)
       refine zt 3 (.slice (some ⟨d, 0, none⟩) 4 4) rfl hHeld ?_
       refine zt 4 (Y (some ⟨d, 1, none⟩)) rfl hHeld ?_
       refine zt 5 (J I l1) rfl hHeld ?_ (hy := fun wx hS => by have h1 : wx.cell? ⟨d, 1, none⟩ = some (J I l1) := hS 1 _ rfl; go_simp)
       refine zt 6 (.slice (some ⟨d, 0, none⟩) 4 4) rfl hHeld ?_
       refine zt 7 (Y (some ⟨d, 2, none⟩)) rfl hHeld ?_
       refine zt 8 (J I l2) rfl hHeld ?_ (hy := fun wx hS => by have h1 : wx.cell? ⟨d, 2, none⟩ = some (J I l2) := hS 2 _ rfl; go_simp)
       refine zt 9 (.slice (some ⟨d, 0, none⟩) 4 4) rfl hHeld ?_
       refine zt 10 (Y (some ⟨d, 3, none⟩)) rfl hHeld ?_
       refine zt 11 (J I l3) rfl hHeld ?_ (hy := fun wx hS => by have h1 : wx.cell? ⟨d, 3, none⟩ = some (J I l3) := hS 3 _ rfl; go_simp)
       have O4 := Hi (O4.out.drew)
       have O6 := Hi (O6.out.drew)
       have O8 := Hi (O8.out.drew)
       have BL := Hi BL.out.drew
       generalize World.drew _ = wk at O4 O6 O8 BL ⊢
       have hH9 : wk.rangeAt d 0 [J I l0, J I l1, J I l2, J I l3] := Obj1.range0 (cs := [J I l0, J I l1, J I l2, J I l3]) O8.out
       refine zt 12 (Y (some ⟨w.heap.size, 7, none⟩)) rfl hH9 ?_
       have cB : wk.cell? ⟨w.heap.size, 7, none⟩ = some (J I 0) := (O4.out.cell 7).trans rfl
       have fB : wk.frozen? ⟨w.heap.size, 7, none⟩ = false := O4.out.frozen 7
       refine wpAnyH_ready (rs := [13]) (by kernel_rfl) (by simp) ?_
       refine AllReadyH.cons (o := _) rfl (fun K' hK => ?_) AllReadyH.nil
       go_simp
       have O4 := Hi ((O4.out.set 7 (J I l0)).cells (show _ = List.toArray [J I sz, J I W, J I H, .bool top, J I dp, J I mt, J I co, J I l0, J I 0, J I 0, J I 0, J I (p : Int), J I (EN : Int), J I 0, J I 0] from rfl))
       have O6 := Hi (O6.out.set_other ⟨w.heap.size, 7, none⟩ (J I l0) (by simp))
       have O8 := Hi (O8.out.set_other ⟨w.heap.size, 7, none⟩ (J I l0) (by simp; omega))
       have BL := Hi (BL.out.setCell (p := ⟨w.heap.size, 7, none⟩) (Nat.le_refl _) (J I l0))
       generalize World.setCell _ _ _ = wk2 at O4 O6 O8 BL ⊢
       refine hK _ _ (Obj1.range0 (cs := [J I l0, J I l1, J I l2, J I l3]) O8.out) (fun hS1 => ?_)
       clear hK K' cB fB
       try simp only [Act.put, zq1, zq2, zq3, zq4, zq5, zq6]
       obtain ⟨wk, rfl⟩ : ∃ z, z = wk2 := ⟨_, rfl⟩
       refine zt 14 (Y (some ⟨w.heap.size, 8, none⟩)) rfl hS1 ?_
       have cB : wk.cell? ⟨w.heap.size, 8, none⟩ = some (J I 0) := (O4.out.cell 8).trans rfl
       have fB : wk.frozen? ⟨w.heap.size, 8, none⟩ = false := O4.out.frozen 8
       refine wpAnyH_ready (rs := [15]) (by kernel_rfl) (by simp) ?_
       refine AllReadyH.cons (o := _) rfl (fun K' hK => ?_) AllReadyH.nil
       go_simp
       have O4 := Hi ((O4.out.set 8 (J I l1)).cells (show _ = List.toArray [J I sz, J I W, J I H, .bool top, J I dp, J I mt, J I co, J I l0, J I l1, J I 0, J I 0, J I (p : Int), J I (EN : Int), J I 0, J I 0] from rfl))
       have O6 := Hi (O6.out.set_other ⟨w.heap.size, 8, none⟩ (J I l1) (by simp))
       have O8 := Hi (O8.out.set_other ⟨w.heap.size, 8, none⟩ (J I l1) (by simp; omega))
       have BL := Hi (BL.out.setCell (p := ⟨w.heap.size, 8, none⟩) (Nat.le_refl _) (J I l1))
       generalize World.setCell _ _ _ = wk2 at O4 O6 O8 BL ⊢
       refine hK _ _ (Obj1.range0 (cs := [J I l0, J I l1, J I l2, J I l3]) O8.out) (fun hS2 => ?_)
       clear hK K' cB fB
       try simp only [Act.put, zq1, zq2, zq3, zq4, zq5, zq6]
       obtain ⟨wk, rfl⟩ : ∃ z, z = wk2 := ⟨_, rfl⟩
       refine zt 16 (Y (some ⟨w.heap.size, 9, none⟩)) rfl hS2 ?_
       have cB : wk.cell? ⟨w.heap.size, 9, none⟩ = some (J I 0) := (O4.out.cell 9).trans rfl
       have fB : wk.frozen? ⟨w.heap.size, 9, none⟩ = false := O4.out.frozen 9
       refine wpAnyH_ready (rs := [17]) (by kernel_rfl) (by simp) ?_
       refine AllReadyH.cons (o := _) rfl (fun K' hK => ?_) AllReadyH.nil
       go_simp
       have O4 := Hi ((O4.out.set 9 (J I l2)).cells (show _ = List.toArray [J I sz, J I W, J I H, .bool top, J I dp, J I mt, J I co, J I l0, J I l1, J I l2, J I 0, J I (p : Int), J I (EN : Int), J I 0, J I 0] from rfl))
       have O6 := Hi (O6.out.set_other ⟨w.heap.size, 9, none⟩ (J I l2) (by simp))
       have O8 := Hi (O8.out.set_other ⟨w.heap.size, 9, none⟩ (J I l2) (by simp; omega))
       have BL := Hi (BL.out.setCell (p := ⟨w.heap.size, 9, none⟩) (Nat.le_refl _) (J I l2))
       generalize World.setCell _ _ _ = wk2 at O4 O6 O8 BL ⊢
       refine hK _ _ (Obj1.range0 (cs := [J I l0, J I l1, J I l2, J I l3]) O8.out) (fun hS3 => ?_)
       clear hK K' cB fB
       try simp only [Act.put, zq1, zq2, zq3, zq4, zq5, zq6]
       obtain ⟨wk, rfl⟩ : ∃ z, z = wk2 := ⟨_, rfl⟩
       refine zt 18 (Y (some ⟨w.heap.size, 10, none⟩)) rfl hS3 ?_
       have cB : wk.cell? ⟨w.heap.size, 10, none⟩ = some (J I 0) := (O4.out.cell 10).trans rfl
       have fB : wk.frozen? ⟨w.heap.size, 10, none⟩ = false := O4.out.frozen 10
       refine wpAnyH_ready (rs := [19]) (by kernel_rfl) (by simp) ?_
       refine AllReadyH.cons (o := _) rfl (fun K' hK => ?_) AllReadyH.nil
       go_simp
       have O4 := Hi ((O4.out.set 10 (J I l3)).cells (show _ = List.toArray [J I sz, J I W, J I H, .bool top, J I dp, J I mt, J I co, J I l0, J I l1, J I l2, J I l3, J I (p : Int), J I (EN : Int), J I 0, J I 0] from rfl))
       have O6 := Hi (O6.out.set_other ⟨w.heap.size, 10, none⟩ (J I l3) (by simp))
       have O8 := Hi (O8.out.set_other ⟨w.heap.size, 10, none⟩ (J I l3) (by simp; omega))
       have BL := Hi (BL.out.setCell (p := ⟨w.heap.size, 10, none⟩) (Nat.le_refl _) (J I l3))
       generalize World.setCell _ _ _ = wk2 at O4 O6 O8 BL ⊢
       refine hK _ _ (Obj1.range0 (cs := [J I l0, J I l1, J I l2, J I l3]) O8.out) (fun hS4 => ?_)
       clear hK K' cB fB
       try simp only [Act.put, zq1, zq2, zq3, zq4, zq5, zq6]
       obtain ⟨wk, rfl⟩ : ∃ z, z = wk2 := ⟨_, rfl⟩
       refine wpAnyH_done (by kernel_rfl) ?_ _
       refine NoPanic.normal ?_
       go_wp2_with (first
        | (refine aL (by kernel_rfl) 46 15 _ rfl w.heap.size [J I sz, J I W, J I H, .bool top, J I dp, J I mt, J I co, J I l0, J I l1, J I l2, J I l3, J I (p : Int), J I (EN : Int), J I 0, J I 0] rfl rfl O4.out Tryz.underlying46 rfl (by kernel_rfl) ?_; intro _)
        | (refine so 46 15 (w.heap.size + 1) [J I sz, J I W, J I H, .bool top, J I dp, J I mt, J I co, J I l0, J I l1, J I l2, J I l3, J I (p : Int), J I (EN : Int), J I 0, J I 0] O6.out ?_; intro ws hst hO; have O6 := Hi hO; have O4 := Hi (hst.oth O4.out (by omega)); have O8 := Hi (hst.oth O8.out (by omega)); have BL := Hi (hst.below BL.out (by omega)); clear hst hO; refine aP 6 (Y (some ⟨w.heap.size + 1, 0, none⟩)) (by kernel_rfl) (by kernel_rfl) ?_; intro A hA hAd))
       refine bodyPost_ret (v := .agg (List.toArray [J I sz, J I W, J I H, .bool top, J I dp, J I mt, J I co, J I l0, J I l1, J I l2, J I l3, J I (p : Int), J I (EN : Int), J I 0, J I 0])) ?_ hAd ⟨by rw [E.out] <;> rfl, BL.out⟩
       exact aD Tryz.results55 _ _ _ [J I sz, J I W, J I H, .bool top, J I dp, J I mt, J I co, J I l0, J I l1, J I l2, J I l3, J I (p : Int), J I (EN : Int), J I 0, J I 0] _ hA O6.out.range0 Tryz.underlying46 rfl (by kernel_rfl)
end Go.Proofs.YtfchnibjjokmbaaGreat

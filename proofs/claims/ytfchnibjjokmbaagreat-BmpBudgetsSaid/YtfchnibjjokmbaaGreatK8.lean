/- Parts. -/
import Derived.Test.YtfchnibjjokmbaaGreatK6
set_option linter.all false
set_option maxRecDepth 100000
set_option maxHeartbeats 16000000
open Go.Value renaming int → J, pointer → Y
open Go.IntKind renaming i64 → I, u8 → U
namespace Go.Proofs.YtfchnibjjokmbaaGreat
open Go.RowKit
theorem hread_bad (X : Nat) (x : Sr) (l : Led) (f : Int) (w : World) (h : Pair w X x l) (hg : tkOk x l = false) : Calls Tryz.prog 25 #[Y (some ⟨X, 0, none⟩), J I f] w (HReadPost w X x (aJ x l f)) := by
 obtain ⟨k, a, p, hk, hb⟩ := tk_bad f hg
 have kb : (k != 0) = true := by simpa using hk
 have ER : aJ x l f = (([J I 0, J I 0, J I 0, .bool false, J I 0, J I 0, J I 0, J I 0, J I 0, J I 0, J I 0, J I 0, J I 0, J I 0, J I 0, J I 0], [J I k, J I a, J I p]), (ac x l f).2) := by unfold aJ; rw [if_pos hg, hb]; rfl
 unfold HReadPost
 rw [ER]
 have HTK := Hi (fun w0 hp => (htake_any X x l f w0 hp).mono (R' := fun e w' => e = .returned (.tuple #[.string ByteArray.empty, .agg (List.toArray [J I k, J I a, J I p])]) ∧ Pair w' X (ac x l f).2.1 (ac x l f).2.2 ∧ Chg (two X x) w0 w') fun e w' hh => ⟨hh.1.trans (by rw [hb]), hh.2⟩)
 have hLy : (ac x l f).2.1.L = x.L := by
  unfold ac; repeat' split
  all_goals first | exact next_L _ _ _ | (rw [next_L, next_L])
 have ER := Hi (rfl : (1 : Nat) = 1)
 have lX := h.src.lt
 have lL := h.led.lt
 have O4 := Hi ((aA w #[J I 0, J I 0, J I 0, .bool false, J I 0, J I 0, J I 0, J I 0, J I 0, J I 0, J I 0, J I 0, J I 0, J I 0, J I 0, J I 0] 63).alloc (.cells #[J I 0, J I 0, J I 0] 31))
 have O5 := Hi (aA (w.alloc (.cells #[J I 0, J I 0, J I 0, .bool false, J I 0, J I 0, J I 0, J I 0, J I 0, J I 0, J I 0, J I 0, J I 0, J I 0, J I 0, J I 0] 63)) #[J I 0, J I 0, J I 0] 31)
 have PX := Hi ((h.alloc (.cells #[J I 0, J I 0, J I 0, .bool false, J I 0, J I 0, J I 0, J I 0, J I 0, J I 0, J I 0, J I 0, J I 0, J I 0, J I 0, J I 0] 63)).alloc (.cells #[J I 0, J I 0, J I 0] 31))
 have CH := Hi (((Chg.refl (two X x) w).alloc (.cells #[J I 0, J I 0, J I 0, .bool false, J I 0, J I 0, J I 0, J I 0, J I 0, J I 0, J I 0, J I 0, J I 0, J I 0, J I 0, J I 0] 63)).alloc (.cells #[J I 0, J I 0, J I 0] 31))
 rw [show (w.alloc (.cells #[J I 0, J I 0, J I 0, .bool false, J I 0, J I 0, J I 0, J I 0, J I 0, J I 0, J I 0, J I 0, J I 0, J I 0, J I 0, J I 0] 63)).heap.size = w.heap.size + 1 by simp] at O5
 have HAT := Hi (fun w0 hp => at_any X x w0 hp)
 obtain ⟨⟨_, ⟨y, m⟩⟩, hr⟩ : ∃ r, ac x l f = r := ⟨_, rfl⟩
 rw [hr] at HTK hLy ⊢
 simp only at HTK hLy ⊢
 clear h hr hg hb hk
 go_enter Tryz.func25, Tryz.ntmps25
 go_upto_region 1 with (fail)
 generalize World.alloc _ _ = w1 at O4 O5 PX CH ⊢
 go_upto_region 2 with ((go_at_call 23; (with_reducible refine (HAT.out _ PX.out.src).mono ?_); rintro e w2 ⟨rfl, rfl⟩))
 go_wp2_with fail
 refine (HTK.out _ PX.out).mono ?_
 rintro e w2 ⟨rfl, hP, hC⟩
 have O4 := Hi (hC.obj O4.out (by unfold two; omega))
 have O5 := Hi (hC.obj O5.out (by unfold two; omega))
 have PX := Hi hP
 have CH := Hi (CH.out.trans hC)
 have l5 := O5.out.lt
 have lX2 := hP.src.lt
 have lL2 := hP.led.lt
 clear hP hC HTK
 have O8 := Hi (aA w2 #[J I k, J I a, J I p] 31)
 have O4 := Hi (O4.out.alloc (.cells #[J I k, J I a, J I p] 31))
 have O5 := Hi (O5.out.alloc (.cells #[J I k, J I a, J I p] 31))
 have PX := Hi (PX.out.alloc (.cells #[J I k, J I a, J I p] 31))
 have CH := Hi (CH.out.alloc (.cells #[J I k, J I a, J I p] 31))
 go_upto_region 3 with (fail)
 generalize World.alloc _ _ = w3 at O4 O5 O8 PX CH ⊢
 obtain ⟨d8, hd8⟩ : ∃ d, w2.heap.size = d := ⟨_, rfl⟩
 rw [hd8] at O8 lX2 lL2 l5 ⊢
 clear hd8
 have c8 : w3.cell? ⟨d8, 0, none⟩ = some (J I k) := (O8.out.cell 0).trans rfl
 go_upto_region 4 with (fail)
 refine wp_region_noPanic ?_
 refine wp_region_held_drew (S := fun w' => w'.rangeAt d8 0 [J I k, J I a, J I p]) (by kernel_rfl) O8.out.range0 (fun hHeld => ?_)
 refine zt 0 (.agg #[J I 0, J I 0, J I 0, .bool false, J I 0, J I 0, J I 0, J I 0, J I 0, J I 0, J I 0, J I 0, J I 0, J I 0, J I 0, J I 0]) rfl hHeld ?_
 refine zl 1 31 (d8) 0 [J I k, J I a, J I p] rfl (fun _ h => h) Tryz.underlying31 hHeld ?_
 have O4 := Hi (O4.out.drew)
 have O5 := Hi (O5.out.drew)
 have O8 := Hi (O8.out.drew)
 have PX := Hi (PX.out.drew1)
 have CH := Hi CH.out.drew
 generalize World.drew _ = wk at O4 O5 O8 PX CH ⊢
 refine wpAnyH_ready (rs := [2]) (by kernel_rfl) (by simp) ?_
 refine AllReadyH.cons (o := _) rfl (fun K' hK => ?_) AllReadyH.nil
 rw [if_pos (by rfl)]
 refine wp_store_mid 63 _ _ rfl (w.heap.size) 0 (List.toArray [J I 0, J I 0, J I 0, .bool false, J I 0, J I 0, J I 0, J I 0, J I 0, J I 0, J I 0, J I 0, J I 0, J I 0, J I 0, J I 0]) rfl rfl (O4.out.there 0 16 (by simp)) (by kernel_rfl) (all_oneCell_toArray (List.all_eq_true.1 (by rfl))) ?_
 simp only [Act.put, zq1, zq2, zq3, zq4, zq5, zq6]
 have hst : Stored wk (w.heap.size) 0 [J I 0, J I 0, J I 0, .bool false, J I 0, J I 0, J I 0, J I 0, J I 0, J I 0, J I 0, J I 0, J I 0, J I 0, J I 0, J I 0] (wk.setCells (w.heap.size) 0 [J I 0, J I 0, J I 0, .bool false, J I 0, J I 0, J I 0, J I 0, J I 0, J I 0, J I 0, J I 0, J I 0, J I 0, J I 0, J I 0]) := rfl
 have O4 := Hi (hst.whole O4.out (by first | rfl | simp))
 have O5 := Hi (hst.oth O5.out (by omega))
 have O8 := Hi (hst.oth O8.out (by omega))
 have PX := Hi (PX.out.into hst (by omega) (by omega))
 have CH := Hi (hst.chg CH.out (by omega))
 generalize World.setCells _ _ _ _ = wk2 at O4 O5 O8 PX CH ⊢
 clear hst
 refine hK _ _ O8.out.range0 (fun hH1 => ?_)
 clear hK K'
 obtain ⟨wk, rfl⟩ : ∃ z, z = wk2 := ⟨_, rfl⟩
 refine wpAnyH_ready (rs := [3]) (by kernel_rfl) (by simp) ?_
 refine AllReadyH.cons (o := _) rfl (fun K' hK => ?_) AllReadyH.nil
 rw [if_pos (by rfl)]
 refine wp_store_mid 31 _ _ rfl (w.heap.size + 1) 0 (List.toArray [J I k, J I a, J I p]) rfl rfl (O5.out.there 0 3 (by simp)) (by kernel_rfl) (all_oneCell_toArray (List.all_eq_true.1 (by rfl))) ?_
 simp only [Act.put, zq1, zq2, zq3, zq4, zq5, zq6]
 have hst : Stored wk (w.heap.size + 1) 0 [J I k, J I a, J I p] (wk.setCells (w.heap.size + 1) 0 [J I k, J I a, J I p]) := rfl
 have O5 := Hi (hst.whole O5.out (by first | rfl | simp))
 have O4 := Hi (hst.oth O4.out (by omega))
 have O8 := Hi (hst.oth O8.out (by omega))
 have PX := Hi (PX.out.into hst (by omega) (by omega))
 have CH := Hi (hst.chg CH.out (by omega))
 generalize World.setCells _ _ _ _ = wk2 at O4 O5 O8 PX CH ⊢
 clear hst
 refine hK _ _ O8.out.range0 (fun hH2 => ?_)
 clear hK K'
 obtain ⟨wk, rfl⟩ : ∃ z, z = wk2 := ⟨_, rfl⟩
 refine wpAnyH_done (by kernel_rfl) ?_ _
 refine NoPanic.normal ?_
 go_wp2_with fail
 refine bodyPost_ret (v := .tuple #[.agg (List.toArray [J I 0, J I 0, J I 0, .bool false, J I 0, J I 0, J I 0, J I 0, J I 0, J I 0, J I 0, J I 0, J I 0, J I 0, J I 0, J I 0]), .agg (List.toArray [J I k, J I a, J I p])]) ?_ rfl ⟨rfl, PX.out, CH.out⟩
 exact aQ Tryz.results25 _ _ _ _ [J I 0, J I 0, J I 0, .bool false, J I 0, J I 0, J I 0, J I 0, J I 0, J I 0, J I 0, J I 0, J I 0, J I 0, J I 0, J I 0] [J I k, J I a, J I p] _ _ rfl O4.out.range0 Tryz.underlying63 rfl (by kernel_rfl) rfl O5.out.range0 Tryz.underlying31 rfl (by kernel_rfl)
theorem range_setc {w : World} {g o0 d o : Nat} {L : List Value} (h : w.rangeAt g o0 L) (v : Value) (hn : g ≠ d) : (w.setCell ⟨d, o, none⟩ v).rangeAt g o0 L := fun j u hu => (World.cell?_setCell_other _ _ _ _ (fun e => hn (congrArg Addr.block e).symm)).trans (h j u hu)
theorem range_allocc {w : World} {g o0 : Nat} {L : List Value} (h : w.rangeAt g o0 L) (hg : g < w.heap.size) (ob : Obj) : (w.alloc ob).rangeAt g o0 L := fun j u hu => (World.cell?_of_block (Below.heap_alloc w ob g hg)).trans (h j u hu)
theorem parse_any (b : ByteArray) (w : World) (hb : b.size = 12) : Calls Tryz.prog 61 #[.string b] w (ParsePost w (ao b).cells 6 (fndL (fdOf b))) := by
 unfold ao fdOf; rw [if_pos hb, if_pos hb]; exact small_any' b w hb
theorem parse_any2 (b : ByteArray) (w : World) (hb : b.size ≠ 12) (h : 40 ≤ b.size) (hs : b.size ≤ 9223372036854775807) : Calls Tryz.prog 60 #[.string b] w (ParsePost w (ao b).cells 10 (fndL (fdOf b))) := by
 unfold ao fdOf; rw [if_neg hb, if_neg hb]; exact great_any' b w h hs
theorem heads_cases {n : Nat} (h : aU n = true) : n = 12 ∨ n = 40 ∨ n = 52 ∨ n = 56 ∨ n = 108 ∨ n = 124 := by unfold aU at h; simp at h; omega
theorem fd_bd {F : Fnd × Bool} {L : List Fnd} {B : Int} (h : aO L = F) (hB : 0 ≤ B) (hL : ∀ r ∈ L, 0 ≤ r.2.2 ∧ r.2.2 ≤ B) : 0 ≤ F.1.2.2 ∧ F.1.2.2 ≤ B := by
 subst h
 induction L with
 | nil => exact ⟨by decide, hB⟩
 | cons r t ih =>
   rw [aO]; split
   · exact hL r (by simp)
   · exact ih (fun q hq => hL q (by simp [hq]))
theorem com8 (dp : Int) : ∃ k0 k1 k2 k3 k4 k5 k6 k7, comM dp = [k0, k1, k2, k3, k4, k5, k6, k7] := by
 by_cases h1 : dp = 16
 · exact ⟨_, _, _, _, _, _, _, _, if_pos h1⟩
 by_cases h2 : dp = 32
 · exact ⟨_, _, _, _, _, _, _, _, (if_neg h1).trans (if_pos h2)⟩
 · exact ⟨_, _, _, _, _, _, _, _, (if_neg h1).trans ((if_neg h2).trans rfl)⟩
theorem mk8_8 (l : Nat → Int) (dp : Int) : ∃ k0 k1 k2 k3 k4 k5 k6 k7, mk8 l dp = [k0, k1, k2, k3, k4, k5, k6, k7] := by
 by_cases h1 : (aW (ae l dp)).2 = 0
 · exact ⟨_, _, _, _, _, _, _, _, if_pos h1⟩
 · exact ⟨_, _, _, _, _, _, _, _, (if_neg h1).trans rfl⟩
theorem fdOf_bd (b : ByteArray) : ∀ r ∈ fdOf b, 0 ≤ r.2.2 ∧ r.2.2 ≤ (if b.size = 12 then (10 : Int) else 32) := by
 unfold fdOf; split
 · unfold smallF sidesF; intro r hr; simp at hr; rcases hr with rfl | rfl | rfl | rfl | rfl | rfl <;> simp
 · unfold aj sidesF; intro r hr; simp at hr; rcases hr with rfl | rfl | rfl | rfl | rfl | rfl | rfl | rfl | rfl | rfl <;> simp
theorem hread_good (X : Nat) (x : Sr) (l : Led) (f : Int) (w : World) (h : Pair w X x l) (hg : tkOk x l = true) : Calls Tryz.prog 25 #[Y (some ⟨X, 0, none⟩), J I f] w (HReadPost w X x (aJ x l f)) := by
 obtain ⟨n, ⟨hd, hle, hfz, hbt, hst, -, -, -⟩⟩ := tk_good f h.src.ok hg
 obtain ⟨RS, hRS⟩ : ∃ r, aJ x l f = r := ⟨_, rfl⟩
 have E0 := hRS
 unfold aJ at E0
 rw [if_neg (by rw [hg]; decide)] at E0
 unfold HReadPost
 rw [hRS]
 have hes := h.src.ok.es
 have hsz := h.src.ok.sz
 obtain ⟨b, hb⟩ : ∃ b, (ac x l f).1.1 = b := ⟨_, rfl⟩
 obtain ⟨⟨y, m⟩, hym⟩ : ∃ q, (ac x l f).2 = q := ⟨_, rfl⟩
 rw [hym] at hst
 have hy : y = { x with p := x.p + n } := congrArg Prod.fst hst
 have hLy : y.L = x.L := by rw [hy]
 have hye : y.e = x.e := by rw [hy]
 have HTK := Hi (fun w0 hp => (htake_any X x l f w0 hp).mono (R' := fun e w' => e = .returned (.tuple #[.string b, .agg (List.toArray [J I 0, J I 0, J I 0])]) ∧ Pair w' X y m ∧ Chg (two X x) w0 w') fun e w' hh => ⟨hh.1.trans (by rw [hb, hfz]), by have := hh.2; rw [hym] at this; exact this⟩)
 rw [hb, hym] at E0
 simp only at E0
 have hbn : b.size = n := by rw [← hb, hbt, ByteArray.size_extract]; omega
 have hn := heads_cases hd
 obtain ⟨hm8, hfr, hsz0⟩ := hdOf_m b
 have hmt0 := hdOf_mt b
 obtain ⟨fl6, fl10⟩ := fdOf_len b
 have hfb := fdOf_bd b
 obtain ⟨FL, hFL⟩ : ∃ L, fdOf b = L := ⟨_, rfl⟩
 obtain ⟨⟨⟨fw, fk, fa⟩, bad⟩, hFW⟩ : ∃ F, aO FL = F := ⟨_, rfl⟩
 rw [hFL, hFW] at E0
 rw [hFL] at fl6 fl10 hfb
 have hfa : 0 ≤ fa ∧ fa ≤ (if b.size = 12 then (10 : Int) else 32) := fd_bd hFW (by split <;> omega) hfb
 have hfn : fa ≤ n := by have h1 := hfa.2; split at h1 <;> omega
 have hfa0 : 0 ≤ fa := hfa.1
 have hfq : (x.p : Int) + fa ≤ 9223372036854775807 := by omega
 have HP6 := Hi (fun w0 (e : b.size = 12) => parse_any b w0 e)
 have HP10 := Hi (fun w0 (e : b.size ≠ 12) => parse_any2 b w0 e (by omega) (by omega))
 rw [hFL] at HP6 HP10
 obtain ⟨hdr, hhd⟩ : ∃ q, ao b = q := ⟨_, rfl⟩
 rw [hhd] at hm8 hfr hsz0 hmt0 HP6 HP10 E0
 obtain ⟨sz, W, H, top, dp, mt, co, m8, fr⟩ := hdr
 simp only at hm8 hfr hsz0 hmt0
 subst hm8 hfr
 have HP6 := Hi (fun w0 (e : b.size = 12) => (show Calls Tryz.prog 61 #[.string b] w0 (ParsePost w0 [J I sz, J I W, J I H, .bool top, J I dp, J I mt, J I co, J I 0, J I 0, J I 0, J I 0, J I 0, J I 0, J I 0, J I 0, J I 0] 6 (fndL FL)) from HP6.out w0 e))
 have HP10 := Hi (fun w0 (e : b.size ≠ 12) => (show Calls Tryz.prog 60 #[.string b] w0 (ParsePost w0 [J I sz, J I W, J I H, .bool top, J I dp, J I mt, J I co, J I 0, J I 0, J I 0, J I 0, J I 0, J I 0, J I 0, J I 0, J I 0] 10 (fndL FL)) from HP10.out w0 e))
 have HSZ := Hi hsz0
 clear hsz0
 obtain ⟨nr, hnr⟩ : ∃ k, FL.length = k := ⟨_, rfl⟩
 rw [hnr] at fl6 fl10
 have HNR := Hi hnr
 have hnr9 : nr ≤ 10 := by by_cases e : b.size = 12
                           · rw [fl6 e]; decide
                           · rw [fl10 e]; decide
 have HFI := Hi (fun (w0 : World) (g cap : Nat) (ho : g < w0.heap.size) (hR : w0.rangeAt g 0 (fndL FL)) => (show Calls Tryz.prog 62 #[.slice (some ⟨g, 0, none⟩) nr cap] w0 (fun e w' => e = .returned (.tuple #[.agg #[.bool fw, J I fk, J I fa], .bool bad]) ∧ Below w0.heap.size w0 w') from (first_any FL nr g cap w0 hnr.symm (by omega) ho hR).mono fun e w' hh => ⟨hh.1.trans (by rw [hFW]; rfl), hh.2⟩))
 have HCM := Hi (fun w0 => common_any dp w0)
 have HE0 := Hi E0
 have hxp : 0 ≤ (x.p : Int) := by omega
 have hck := com8 dp
 have lX := h.src.lt
 have lL := h.led.lt
 have O4 := Hi ((aA w #[J I 0, J I 0, J I 0, .bool false, J I 0, J I 0, J I 0, J I 0, J I 0, J I 0, J I 0, J I 0, J I 0, J I 0, J I 0, J I 0] 63).alloc (.cells #[J I 0, J I 0, J I 0] 31))
 have O5 := Hi (aA (w.alloc (.cells #[J I 0, J I 0, J I 0, .bool false, J I 0, J I 0, J I 0, J I 0, J I 0, J I 0, J I 0, J I 0, J I 0, J I 0, J I 0, J I 0] 63)) #[J I 0, J I 0, J I 0] 31)
 have PX := Hi ((h.alloc (.cells #[J I 0, J I 0, J I 0, .bool false, J I 0, J I 0, J I 0, J I 0, J I 0, J I 0, J I 0, J I 0, J I 0, J I 0, J I 0, J I 0] 63)).alloc (.cells #[J I 0, J I 0, J I 0] 31))
 have CH := Hi (((Chg.refl (two X x) w).alloc (.cells #[J I 0, J I 0, J I 0, .bool false, J I 0, J I 0, J I 0, J I 0, J I 0, J I 0, J I 0, J I 0, J I 0, J I 0, J I 0, J I 0] 63)).alloc (.cells #[J I 0, J I 0, J I 0] 31))
 rw [show (w.alloc (.cells #[J I 0, J I 0, J I 0, .bool false, J I 0, J I 0, J I 0, J I 0, J I 0, J I 0, J I 0, J I 0, J I 0, J I 0, J I 0, J I 0] 63)).heap.size = w.heap.size + 1 by simp] at O5
 have HAT := Hi (fun w0 hp => at_any X x w0 hp)
 clear h hg hfz hbt hst hb hym E0 hFL hFW hRS hfb hnr hhd hd hfa
 go_enter Tryz.func25, Tryz.ntmps25
 go_upto_region 1 with (fail)
 generalize World.alloc _ _ = w1 at O4 O5 PX CH ⊢
 go_upto_region 2 with ((go_at_call 23; (with_reducible refine (HAT.out _ PX.out.src).mono ?_); rintro e w2 ⟨rfl, rfl⟩))
 go_wp2_with fail
 refine (HTK.out _ PX.out).mono ?_
 rintro e w2 ⟨rfl, hP, hC⟩
 have O4 := Hi (hC.obj O4.out (by unfold two; omega))
 have O5 := Hi (hC.obj O5.out (by unfold two; omega))
 have PX := Hi hP
 have CH := Hi (CH.out.trans hC)
 have l5 := O5.out.lt
 have lX2 := hP.src.lt
 have lL2 := hP.led.lt
 clear hP hC HTK
 have O8 := Hi (aA w2 #[J I 0, J I 0, J I 0] 31)
 have O4 := Hi (O4.out.alloc (.cells #[J I 0, J I 0, J I 0] 31))
 have O5 := Hi (O5.out.alloc (.cells #[J I 0, J I 0, J I 0] 31))
 have PX := Hi (PX.out.alloc (.cells #[J I 0, J I 0, J I 0] 31))
 have CH := Hi (CH.out.alloc (.cells #[J I 0, J I 0, J I 0] 31))
 go_upto_region 3 with (fail)
 generalize World.alloc _ _ = w3 at O4 O5 O8 PX CH ⊢
 have c8 : w3.cell? ⟨w2.heap.size, 0, none⟩ = some (J I 0) := (O8.out.cell 0).trans rfl
 go_upto_region 6 with (fail)
 clear c8 O8
 have z3 := CH.out.size
 have l5' := O5.out.lt
 have lX3 := PX.out.src.lt
 have lL3 := PX.out.led.lt
 obtain ⟨s12, hs12⟩ : ∃ c, ((n : Int) == 12) = c := ⟨_, rfl⟩
 have HS12 := Hi hs12
 go_upto_if 31 with (fail)
 obtain ⟨PV, hPV⟩ : ∃ v : Value, (if s12 = true then .func (.func 61) #[] #[] else .func (.func 60) #[] #[]) = v := ⟨_, rfl⟩
 have HPV := Hi hPV
 clear hPV hs12
 go_cut [9] from 32 to 32 (fun c wx => c = PV ∧ wx = w3)
 case first =>
  cases s12
  · go_wp2_with fail
    go_meet
    exact ⟨by rw [← HPV.out]; rfl, rfl⟩
  · go_wp2_with fail
    go_meet
    exact ⟨by rw [← HPV.out]; rfl, rfl⟩
 case rest =>
  obtain ⟨rfl, rfl⟩ := hcut
  go_upto_region 8 with (fail)
  go_cut [10, 11] from 32 to 37 (fun h10 l11 wx => ∃ dH g cap, h10 = Y (some ⟨dH, 0, none⟩) ∧ l11 = .slice (some ⟨g, 0, none⟩) nr cap ∧ Obj1 wx dH (List.toArray [J I sz, J I W, J I H, .bool top, J I dp, J I mt, J I co, J I 0, J I 0, J I 0, J I 0, J I 0, J I 0, J I 0, J I 0, J I 0]) 63 ∧ wx.rangeAt g 0 (fndL FL) ∧ w.heap.size + 2 ≤ g ∧ g < dH ∧ Obj1 wx w.heap.size #[J I 0, J I 0, J I 0, .bool false, J I 0, J I 0, J I 0, J I 0, J I 0, J I 0, J I 0, J I 0, J I 0, J I 0, J I 0, J I 0] 63 ∧ Obj1 wx (w.heap.size + 1) #[J I 0, J I 0, J I 0] 31 ∧ Pair wx X y m ∧ Chg (two X x) w wx)
  case first =>
   cases s12
   · have e12 : b.size ≠ 12 := by have h1 := HS12.out; rw [beq_eq_false_iff_ne] at h1; omega
     obtain rfl := fl10 e12
     obtain rfl : u9 = .func (.func 60) #[] #[] := HPV.out.symm.trans (if_neg (by decide))
     go_wp2_with fail
     refine (HP10.out _ e12).mono ?_
     rintro e w4 ⟨g, cap, rfl, hown, hb⟩
     have hz4 := hb.size
     have hrg := owns_range hown
     have hlg := owns_lt hown
     have O4 := Hi (O4.out.below hb O4.out.lt)
     have O5 := Hi (O5.out.below hb O5.out.lt)
     have PX := Hi (PX.out.upon hb PX.out.src.lt PX.out.led.lt)
     have CH := Hi (CH.out.trans (aB hb _))
     clear hb hown
     go_wp2_with fail
     go_meet
     exact ⟨_, g, cap, rfl, rfl, aA _ _ _, range_allocc hrg hlg.2 _, by omega, hlg.2, O4.out.alloc _, O5.out.alloc _, PX.out.alloc _, CH.out.alloc _⟩
   · have e12 : b.size = 12 := by have h1 := HS12.out; rw [beq_iff_eq] at h1; omega
     obtain rfl := fl6 e12
     obtain rfl : u9 = .func (.func 61) #[] #[] := HPV.out.symm.trans (if_pos rfl)
     go_wp2_with fail
     refine (HP6.out _ e12).mono ?_
     rintro e w4 ⟨g, cap, rfl, hown, hb⟩
     have hz4 := hb.size
     have hrg := owns_range hown
     have hlg := owns_lt hown
     have O4 := Hi (O4.out.below hb O4.out.lt)
     have O5 := Hi (O5.out.below hb O5.out.lt)
     have PX := Hi (PX.out.upon hb PX.out.src.lt PX.out.led.lt)
     have CH := Hi (CH.out.trans (aB hb _))
     clear hb hown
     go_wp2_with fail
     go_meet
     exact ⟨_, g, cap, rfl, rfl, aA _ _ _, range_allocc hrg hlg.2 _, by omega, hlg.2, O4.out.alloc _, O5.out.alloc _, PX.out.alloc _, CH.out.alloc _⟩
  case rest =>
   obtain ⟨dH, g, cap, rfl, rfl, hoh, hrg, hg2, hgd, ho4, ho5, hpx, hch⟩ := hcut
   have OH := Hi hoh
   have O4 := Hi ho4
   have O5 := Hi ho5
   have PX := Hi hpx
   have CH := Hi hch
   have RG := Hi hrg
   have ldH := hoh.lt
   have c15 : wc.cell? ⟨dH, 15, none⟩ = some (J I 0) := (hoh.cell 15).trans rfl
   have f15 : wc.frozen? ⟨dH, 15, none⟩ = false := hoh.frozen 15
   clear hoh hrg ho4 ho5 hpx hch HP6 HP10 fl6 fl10 HS12 HPV
   go_upto_region 10 with (fail)
   have OH := Hi ((OH.out.set 15 (J I (x.p : Int))).cells (show _ = (List.toArray [J I sz, J I W, J I H, .bool top, J I dp, J I mt, J I co, J I 0, J I 0, J I 0, J I 0, J I 0, J I 0, J I 0, J I 0, J I (x.p : Int)]) from rfl))
   have O4 := Hi (O4.out.set_other ⟨dH, 15, none⟩ (J I (x.p : Int)) (by simp; omega))
   have O5 := Hi (O5.out.set_other ⟨dH, 15, none⟩ (J I (x.p : Int)) (by simp; omega))
   have PX := Hi (PX.out.setc (b := dH) (o := 15) (J I (x.p : Int)) (by omega) (by omega))
   have CH := Hi (CH.out.setc dH 15 (J I (x.p : Int)) (by omega))
   have RG := Hi (range_setc RG.out (d := dH) (o := 15) (J I (x.p : Int)) (by omega))
   have lg : g < (World.setCell wc ⟨dH, 15, none⟩ (J I (x.p : Int))).heap.size := by simp [World.setCell]; omega
   clear c15 f15
   generalize World.setCell _ _ _ = w4 at OH O4 O5 PX CH RG lg ⊢
   go_wp2_with fail
   refine (HFI.out _ g cap lg RG.out).mono ?_
   rintro e w5 ⟨rfl, hb⟩
   have lX5 := hb.size
   have OH := Hi (OH.out.below hb OH.out.lt)
   have O4 := Hi (O4.out.below hb O4.out.lt)
   have O5 := Hi (O5.out.below hb O5.out.lt)
   have PX := Hi (PX.out.upon hb PX.out.src.lt PX.out.led.lt)
   have CH := Hi (CH.out.trans (aB hb _))
   have lh5 := OH.out.lt
   have lpx := PX.out.src.lt
   have lpl := PX.out.led.lt
   clear hb RG HFI lg lX5
   have O12 := Hi (aA w5 #[.bool fw, J I fk, J I fa] 134)
   have O4 := Hi (O4.out.alloc (.cells #[.bool fw, J I fk, J I fa] 134))
   have O5 := Hi (O5.out.alloc (.cells #[.bool fw, J I fk, J I fa] 134))
   have OH := Hi (OH.out.alloc (.cells #[.bool fw, J I fk, J I fa] 134))
   have PX := Hi (PX.out.alloc (.cells #[.bool fw, J I fk, J I fa] 134))
   have CH := Hi (CH.out.alloc (.cells #[.bool fw, J I fk, J I fa] 134))
   go_upto_region 11 with (fail)
   generalize World.alloc _ _ = w6 at O4 O5 OH O12 PX CH ⊢
   obtain ⟨d12, hd12⟩ : ∃ d, w5.heap.size = d := ⟨_, rfl⟩
   rw [hd12] at O12 lh5 lpx lpl ⊢
   clear hd12
   have c5 : w6.cell? ⟨dH, 5, none⟩ = some (J I mt) := (OH.out.cell 5).trans rfl
   have cz : w6.cell? ⟨dH, 0, none⟩ = some (J I sz) := (OH.out.cell 0).trans rfl
   have cd : w6.cell? ⟨dH, 4, none⟩ = some (J I dp) := (OH.out.cell 4).trans rfl
   obtain ⟨m3, hm3⟩ : ∃ q, (mt == 3) = q := ⟨_, rfl⟩
   have hm3' : (mt != 3) = !m3 := by rw [← hm3]; rfl
   have HM3 := Hi hm3
   obtain ⟨s40, hs40⟩ : ∃ q, (sz == 40) = q := ⟨_, rfl⟩
   have HS40 := Hi hs40
   have E0 := HE0.out
   unfold hRun at E0
   simp only [hm3, hs40] at E0
   clear HE0
   cases bad
   rotate_left
   · have ER := Hi (show RS = (([J I 0, J I 0, J I 0, .bool false, J I 0, J I 0, J I 0, J I 0, J I 0, J I 0, J I 0, J I 0, J I 0, J I 0, J I 0, J I 0], [J I fk, J I f, J I ((x.p : Int) + fa)]), (y, m)) from E0.symm)
     clear E0
     go_upto_region 19 with ((with_reducible refine aE rfl ?_ ?_); rfl; intro _)
     clear c5 cz cd
     refine wp_region_noPanic ?_
     refine wp_region_held_drew (S := fun w' => w'.rangeAt d12 0 [.bool fw, J I fk, J I fa]) (by kernel_rfl) O12.out.range0 (fun hHeld => ?_)
     refine zt 0 (.agg #[J I 0, J I 0, J I 0, .bool false, J I 0, J I 0, J I 0, J I 0, J I 0, J I 0, J I 0, J I 0, J I 0, J I 0, J I 0, J I 0]) rfl hHeld ?_
     refine zt 1 (Y (some ⟨d12, 1, none⟩)) rfl hHeld ?_
     refine zt 2 (J I fk) rfl hHeld ?_ (hy := fun wx hS => by have h1 : wx.cell? ⟨d12, 1, none⟩ = some (J I fk) := hS 1 _ rfl; go_simp)
     refine zt 3 (J I f) rfl hHeld ?_
     refine zt 4 (J I (x.p : Int)) rfl hHeld ?_
     refine zt 5 (Y (some ⟨d12, 2, none⟩)) rfl hHeld ?_
     refine zt 6 (J I fa) rfl hHeld ?_ (hy := fun wx hS => by have h1 : wx.cell? ⟨d12, 2, none⟩ = some (J I fa) := hS 2 _ rfl; go_simp)
     refine zt 7 (J I ((x.p : Int) + fa)) rfl hHeld ?_ (hy := fun wx hS => by (go_simp) <;> first | (intro hh; exfalso; omega) | exact aF _ (by omega) (by omega))
     refine zt 8 (.agg (List.toArray [J I fk, J I f, J I ((x.p : Int) + fa)])) rfl hHeld ?_
     have O4 := Hi (O4.out.drew)
     have O5 := Hi (O5.out.drew)
     have OH := Hi (OH.out.drew)
     have O12 := Hi (O12.out.drew)
     have PX := Hi (PX.out.drew1)
     have CH := Hi CH.out.drew
     generalize World.drew _ = wk at O4 O5 OH O12 PX CH ⊢
     refine wpAnyH_ready (rs := [9]) (by kernel_rfl) (by simp) ?_
     refine AllReadyH.cons (o := _) rfl (fun K' hK => ?_) AllReadyH.nil
     rw [if_pos (by rfl)]
     refine wp_store_mid 63 _ _ rfl (w.heap.size) 0 (List.toArray [J I 0, J I 0, J I 0, .bool false, J I 0, J I 0, J I 0, J I 0, J I 0, J I 0, J I 0, J I 0, J I 0, J I 0, J I 0, J I 0]) rfl rfl (O4.out.there 0 16 (by simp)) (by kernel_rfl) (all_oneCell_toArray (List.all_eq_true.1 (by rfl))) ?_
     simp only [Act.put, zq1, zq2, zq3, zq4, zq5, zq6]
     have hst : Stored wk (w.heap.size) 0 [J I 0, J I 0, J I 0, .bool false, J I 0, J I 0, J I 0, J I 0, J I 0, J I 0, J I 0, J I 0, J I 0, J I 0, J I 0, J I 0] (wk.setCells (w.heap.size) 0 [J I 0, J I 0, J I 0, .bool false, J I 0, J I 0, J I 0, J I 0, J I 0, J I 0, J I 0, J I 0, J I 0, J I 0, J I 0, J I 0]) := rfl
     have O4 := Hi (hst.whole O4.out (by first | rfl | simp))
     have O5 := Hi (hst.oth O5.out (by omega))
     have OH := Hi (hst.oth OH.out (by omega))
     have O12 := Hi (hst.oth O12.out (by omega))
     have PX := Hi (PX.out.into hst (by omega) (by omega))
     have CH := Hi (hst.chg CH.out (by omega))
     generalize World.setCells _ _ _ _ = wk2 at O4 O5 OH O12 PX CH ⊢
     clear hst
     refine hK _ _ O12.out.range0 (fun hH1 => ?_)
     clear hK K'
     obtain ⟨wk, rfl⟩ : ∃ z, z = wk2 := ⟨_, rfl⟩
     refine wpAnyH_ready (rs := [10]) (by kernel_rfl) (by simp) ?_
     refine AllReadyH.cons (o := _) rfl (fun K' hK => ?_) AllReadyH.nil
     rw [if_pos (by rfl)]
     refine wp_store_mid 31 _ _ rfl (w.heap.size + 1) 0 (List.toArray [J I fk, J I f, J I ((x.p : Int) + fa)]) rfl rfl (O5.out.there 0 3 (by simp)) (by kernel_rfl) (all_oneCell_toArray (List.all_eq_true.1 (by rfl))) ?_
     simp only [Act.put, zq1, zq2, zq3, zq4, zq5, zq6]
     have hst : Stored wk (w.heap.size + 1) 0 [J I fk, J I f, J I ((x.p : Int) + fa)] (wk.setCells (w.heap.size + 1) 0 [J I fk, J I f, J I ((x.p : Int) + fa)]) := rfl
     have O5 := Hi (hst.whole O5.out (by first | rfl | simp))
     have O4 := Hi (hst.oth O4.out (by omega))
     have OH := Hi (hst.oth OH.out (by omega))
     have O12 := Hi (hst.oth O12.out (by omega))
     have PX := Hi (PX.out.into hst (by omega) (by omega))
     have CH := Hi (hst.chg CH.out (by omega))
     generalize World.setCells _ _ _ _ = wk2 at O4 O5 OH O12 PX CH ⊢
     clear hst
     refine hK _ _ O12.out.range0 (fun hH2 => ?_)
     clear hK K'
     obtain ⟨wk, rfl⟩ : ∃ z, z = wk2 := ⟨_, rfl⟩
     refine wpAnyH_done (by kernel_rfl) ?_ _
     refine NoPanic.normal ?_
     go_wp2_with fail
     refine bodyPost_ret (v := .tuple #[.agg (List.toArray [J I 0, J I 0, J I 0, .bool false, J I 0, J I 0, J I 0, J I 0, J I 0, J I 0, J I 0, J I 0, J I 0, J I 0, J I 0, J I 0]), .agg (List.toArray [J I fk, J I f, J I ((x.p : Int) + fa)])]) ?_ rfl ⟨by rw [ER.out] <;> rfl, by rw [ER.out]; exact PX.out, CH.out⟩
     exact aQ Tryz.results25 _ _ _ _ [J I 0, J I 0, J I 0, .bool false, J I 0, J I 0, J I 0, J I 0, J I 0, J I 0, J I 0, J I 0, J I 0, J I 0, J I 0, J I 0] [J I fk, J I f, J I ((x.p : Int) + fa)] _ _ rfl O4.out.range0 Tryz.underlying63 rfl (by kernel_rfl) rfl O5.out.range0 Tryz.underlying31 rfl (by kernel_rfl)
   · cases m3
     · have E0 : (((Hd.at ⟨sz, W, H, top, dp, mt, co, z8, 0⟩ (comM dp) (x.p : Int), zero3), (y, m)) : (List Value × List Value) × (Sr × Led)) = RS := E0
       obtain ⟨k0, k1, k2, k3, k4, k5, k6, k7, hck⟩ := hck
       rw [hck] at HCM E0
       have ER := Hi (show RS = (([J I sz, J I W, J I H, .bool top, J I dp, J I mt, J I co, J I k0, J I k1, J I k2, J I k3, J I k4, J I k5, J I k6, J I k7, J I (x.p : Int)], [J I 0, J I 0, J I 0]), (y, m)) from E0.symm)
       have HCM := Hi (fun w0 => (show Calls Tryz.prog 64 #[J I dp] w0 (fun e w' => ∃ b, e = .returned (.tuple #[.agg (List.toArray [J I k0, J I k1, J I k2, J I k3, J I k4, J I k5, J I k6, J I k7]), .bool b]) ∧ Below w0.heap.size w0 w') from HCM.out w0))
       clear E0 hck
       go_upto_region 22 with (first
        | ((with_reducible refine aE rfl ?_ ?_); rfl; intro _)
        | ((go_at_call 64; (with_reducible refine (HCM.out _).mono ?_); rintro e wc ⟨cb, rfl, hb⟩); have O4 := Hi (O4.out.below hb O4.out.lt); have O5 := Hi (O5.out.below hb O5.out.lt); have OH := Hi (OH.out.below hb OH.out.lt); have O12 := Hi (O12.out.below hb O12.out.lt); have PX := Hi (PX.out.upon hb PX.out.src.lt PX.out.led.lt); have CH := Hi (CH.out.trans (aB hb _)); clear hb)
        | (refine store_a rfl 61 _ _ rfl dH 7 [J I k0, J I k1, J I k2, J I k3, J I k4, J I k5, J I k6, J I k7] rfl (by kernel_rfl) (by kernel_rfl) (by kernel_rfl) OH.out (by simp) ?_; intro ws hst hO; have OH := Hi (hO.cells (show _ = (List.toArray [J I sz, J I W, J I H, .bool top, J I dp, J I mt, J I co, J I k0, J I k1, J I k2, J I k3, J I k4, J I k5, J I k6, J I k7, J I (x.p : Int)]) from by kernel_rfl)); have O4 := Hi (hst.oth O4.out (by omega)); have O5 := Hi (hst.oth O5.out (by omega)); have PX := Hi (PX.out.into hst (by omega) (by omega)); have CH := Hi (hst.chg CH.out (by omega)); clear hst hO))
       clear c5 cz cd
       go_wp2_with (first
        | (refine aL (by kernel_rfl) 63 16 _ rfl dH [J I sz, J I W, J I H, .bool top, J I dp, J I mt, J I co, J I k0, J I k1, J I k2, J I k3, J I k4, J I k5, J I k6, J I k7, J I (x.p : Int)] rfl rfl OH.out Tryz.underlying63 rfl (by kernel_rfl) ?_; intro _)
        | (refine so 63 16 w.heap.size [J I sz, J I W, J I H, .bool top, J I dp, J I mt, J I co, J I k0, J I k1, J I k2, J I k3, J I k4, J I k5, J I k6, J I k7, J I (x.p : Int)] O4.out ?_; intro ws hst hO; have O4 := Hi hO; have O5 := Hi (hst.oth O5.out (by omega)); have OH := Hi (hst.oth OH.out (by omega)); have PX := Hi (PX.out.into hst (by omega) (by omega)); have CH := Hi (hst.chg CH.out (by omega)); clear hst hO)
        | (refine so 31 3 (w.heap.size + 1) [J I 0, J I 0, J I 0] O5.out ?_; intro ws hst hO; have O5 := Hi hO; have O4 := Hi (hst.oth O4.out (by omega)); have OH := Hi (hst.oth OH.out (by omega)); have PX := Hi (PX.out.into hst (by omega) (by omega)); have CH := Hi (hst.chg CH.out (by omega)); clear hst hO))
       refine bodyPost_ret (v := .tuple #[.agg (List.toArray [J I sz, J I W, J I H, .bool top, J I dp, J I mt, J I co, J I k0, J I k1, J I k2, J I k3, J I k4, J I k5, J I k6, J I k7, J I (x.p : Int)]), .agg (List.toArray [J I 0, J I 0, J I 0])]) ?_ rfl ⟨by rw [ER.out] <;> rfl, by rw [ER.out]; exact PX.out, CH.out⟩
       exact aQ Tryz.results25 _ _ _ _ [J I sz, J I W, J I H, .bool top, J I dp, J I mt, J I co, J I k0, J I k1, J I k2, J I k3, J I k4, J I k5, J I k6, J I k7, J I (x.p : Int)] [J I 0, J I 0, J I 0] _ _ rfl O4.out.range0 Tryz.underlying63 rfl (by kernel_rfl) rfl O5.out.range0 Tryz.underlying31 rfl (by kernel_rfl)
     · cases s40
       · have E0 : ((hEnd b ⟨sz, W, H, top, dp, mt, co, z8, 0⟩ f (x.p : Int), (y, m)) : (List Value × List Value) × (Sr × Led)) = RS := E0
         have h52 : 52 ≤ b.size := by
          have h1 := HS40.out
          rw [beq_eq_false_iff_ne, HSZ.out] at h1
          have h2 : n ≠ 12 := by intro h2; have h3 := hmt0 (by omega); have h4 := HM3.out; rw [h3] at h4; exact absurd h4 (by decide)
          omega
         have h56 : 56 ≤ sz → 56 ≤ b.size := by intro h1; rw [HSZ.out] at h1; omega
         have hq52 : (x.p : Int) + 52 ≤ 9223372036854775807 := by omega
         have hbz : b.size ≤ 9223372036854775807 := by omega
         clear hm3' hmt0
         obtain ⟨i, hi⟩ : ∃ i, (aW (ae (mkL b sz) dp)).1 = i := ⟨_, rfl⟩
         obtain ⟨er, her⟩ : ∃ i, ((aW (ae (mkL b sz) dp)).2 != 0) = i := ⟨_, rfl⟩
         have hib := scan4_bd (ae (mkL b sz) dp)
         have hck := mk8_8 (mkL b sz) dp
         obtain ⟨k0, k1, k2, k3, k4, k5, k6, k7, hck⟩ := hck
         unfold hEnd at E0
         simp only [hi, her, hck] at E0
         rw [hi] at hib
         obtain ⟨hi0, hi3⟩ := hib
         have HMK := Hi (fun w0 (ho : Obj1 w0 dH (List.toArray [J I sz, J I W, J I H, .bool top, J I dp, J I mt, J I co, J I 0, J I 0, J I 0, J I 0, J I 0, J I 0, J I 0, J I 0, J I (x.p : Int)]) 63) => (show Calls Tryz.prog 63 #[Y (some ⟨dH, 0, none⟩), .string b] w0 (MaskPost w0 dH [J I sz, J I W, J I H, .bool top, J I dp, J I mt, J I co, J I k0, J I k1, J I k2, J I k3, J I k4, J I k5, J I k6, J I k7, J I (x.p : Int)] i er) from by have h1 := hmasks_any b dH sz W H top dp mt co (x.p : Int) w0 h52 h56 hbz ho; rw [hi, her, hck] at h1; exact h1))
         clear hi her hck
         go_upto_region 17 with ((with_reducible refine aE rfl ?_ ?_); rfl; intro _)
         clear c5 cz cd
         go_wp2_with fail
         refine (HMK.out _ OH.out).mono ?_
         rintro e w8 ⟨rfl, hO, hC⟩
         have O4 := Hi (hC.obj O4.out (by omega))
         have O5 := Hi (hC.obj O5.out (by omega))
         have O12 := Hi (hC.obj O12.out (by omega))
         have PX := Hi (show Pair w8 X y m from ⟨PX.out.src.chg hC (by omega), PX.out.led.chg hC (by omega)⟩)
         have CH := Hi (CH.out.after hC (fun k hk he => by omega))
         have OH := Hi hO
         clear hO hC HMK
         have c5 : w8.cell? ⟨dH, 5, none⟩ = some (J I mt) := (OH.out.cell 5).trans rfl
         have hi40 : (0 : Int) ≤ 40 + 4 * i := by omega
         have hi52 : (x.p : Int) + (40 + 4 * i) ≤ 9223372036854775807 := by omega
         cases er
         · have E0 : ((([J I sz, J I W, J I H, .bool top, J I dp, J I mt, J I co, J I k0, J I k1, J I k2, J I k3, J I k4, J I k5, J I k6, J I k7, J I (x.p : Int)], [J I 0, J I 0, J I 0]), (y, m)) : (List Value × List Value) × (Sr × Led)) = RS := E0
           have ER := Hi (show RS = (([J I sz, J I W, J I H, .bool top, J I dp, J I mt, J I co, J I k0, J I k1, J I k2, J I k3, J I k4, J I k5, J I k6, J I k7, J I (x.p : Int)], [J I 0, J I 0, J I 0]), (y, m)) from E0.symm)
           clear E0
           have hm3'' : (mt != 3) = false := by have h1 := HM3.out; rw [beq_iff_eq] at h1; rw [h1]; rfl
           have c5o := Hi c5
           clear c5
           go_upto_region 18 with (first | (refine so 134 3 d12 [.bool false, J I 2, J I (40 + 4 * i)] O12.out ?_; intro ws hst hO; have O12 := Hi hO; have O4 := Hi (hst.oth O4.out (by omega)); have O5 := Hi (hst.oth O5.out (by omega)); have OH := Hi (hst.oth OH.out (by omega)); have PX := Hi (PX.out.into hst (by omega) (by omega)); have CH := Hi (hst.chg CH.out (by omega)); clear hst hO))
           have c5 : ws.cell? ⟨dH, 5, none⟩ = some (J I mt) := (OH.out.cell 5).trans rfl
           go_upto_region 22 with ((with_reducible refine aE rfl ?_ ?_); rfl; intro _)
           clear c5
           go_wp2_with (first
            | (refine aL (by kernel_rfl) 63 16 _ rfl dH [J I sz, J I W, J I H, .bool top, J I dp, J I mt, J I co, J I k0, J I k1, J I k2, J I k3, J I k4, J I k5, J I k6, J I k7, J I (x.p : Int)] rfl rfl OH.out Tryz.underlying63 rfl (by kernel_rfl) ?_; intro _)
            | (refine so 63 16 w.heap.size [J I sz, J I W, J I H, .bool top, J I dp, J I mt, J I co, J I k0, J I k1, J I k2, J I k3, J I k4, J I k5, J I k6, J I k7, J I (x.p : Int)] O4.out ?_; intro ws hst hO; have O4 := Hi hO; have O5 := Hi (hst.oth O5.out (by omega)); have OH := Hi (hst.oth OH.out (by omega)); have PX := Hi (PX.out.into hst (by omega) (by omega)); have CH := Hi (hst.chg CH.out (by omega)); clear hst hO)
            | (refine so 31 3 (w.heap.size + 1) [J I 0, J I 0, J I 0] O5.out ?_; intro ws hst hO; have O5 := Hi hO; have O4 := Hi (hst.oth O4.out (by omega)); have OH := Hi (hst.oth OH.out (by omega)); have PX := Hi (PX.out.into hst (by omega) (by omega)); have CH := Hi (hst.chg CH.out (by omega)); clear hst hO))
           refine bodyPost_ret (v := .tuple #[.agg (List.toArray [J I sz, J I W, J I H, .bool top, J I dp, J I mt, J I co, J I k0, J I k1, J I k2, J I k3, J I k4, J I k5, J I k6, J I k7, J I (x.p : Int)]), .agg (List.toArray [J I 0, J I 0, J I 0])]) ?_ rfl ⟨by rw [ER.out] <;> rfl, by rw [ER.out]; exact PX.out, CH.out⟩
           exact aQ Tryz.results25 _ _ _ _ [J I sz, J I W, J I H, .bool top, J I dp, J I mt, J I co, J I k0, J I k1, J I k2, J I k3, J I k4, J I k5, J I k6, J I k7, J I (x.p : Int)] [J I 0, J I 0, J I 0] _ _ rfl O4.out.range0 Tryz.underlying63 rfl (by kernel_rfl) rfl O5.out.range0 Tryz.underlying31 rfl (by kernel_rfl)
         · have E0 : ((([J I 0, J I 0, J I 0, .bool false, J I 0, J I 0, J I 0, J I 0, J I 0, J I 0, J I 0, J I 0, J I 0, J I 0, J I 0, J I 0], [J I 2, J I f, J I ((x.p : Int) + (40 + 4 * i))]), (y, m)) : (List Value × List Value) × (Sr × Led)) = RS := E0
           have ER := Hi (show RS = (([J I 0, J I 0, J I 0, .bool false, J I 0, J I 0, J I 0, J I 0, J I 0, J I 0, J I 0, J I 0, J I 0, J I 0, J I 0, J I 0], [J I 2, J I f, J I ((x.p : Int) + (40 + 4 * i))]), (y, m)) from E0.symm)
           clear E0 c5
           go_upto_region 19 with (first | (refine so 134 3 d12 [.bool true, J I 2, J I (40 + 4 * i)] O12.out ?_; intro ws hst hO; have O12 := Hi hO; have O4 := Hi (hst.oth O4.out (by omega)); have O5 := Hi (hst.oth O5.out (by omega)); have OH := Hi (hst.oth OH.out (by omega)); have PX := Hi (PX.out.into hst (by omega) (by omega)); have CH := Hi (hst.chg CH.out (by omega)); clear hst hO))
           refine wp_region_noPanic ?_
           refine wp_region_held_drew (S := fun w' => w'.rangeAt d12 0 [.bool true, J I 2, J I (40 + 4 * i)]) (by kernel_rfl) O12.out.range0 (fun hHeld => ?_)
           refine zt 0 (.agg #[J I 0, J I 0, J I 0, .bool false, J I 0, J I 0, J I 0, J I 0, J I 0, J I 0, J I 0, J I 0, J I 0, J I 0, J I 0, J I 0]) rfl hHeld ?_
           refine zt 1 (Y (some ⟨d12, 1, none⟩)) rfl hHeld ?_
           refine zt 2 (J I 2) rfl hHeld ?_ (hy := fun wx hS => by have h1 : wx.cell? ⟨d12, 1, none⟩ = some (J I 2) := hS 1 _ rfl; go_simp)
           refine zt 3 (J I f) rfl hHeld ?_
           refine zt 4 (J I (x.p : Int)) rfl hHeld ?_
           refine zt 5 (Y (some ⟨d12, 2, none⟩)) rfl hHeld ?_
           refine zt 6 (J I (40 + 4 * i)) rfl hHeld ?_ (hy := fun wx hS => by have h1 : wx.cell? ⟨d12, 2, none⟩ = some (J I (40 + 4 * i)) := hS 2 _ rfl; go_simp)
           refine zt 7 (J I ((x.p : Int) + (40 + 4 * i))) rfl hHeld ?_ (hy := fun wx hS => by (go_simp) <;> first | (intro hh; exfalso; omega) | exact aF _ (by omega) (by omega))
           refine zt 8 (.agg (List.toArray [J I 2, J I f, J I ((x.p : Int) + (40 + 4 * i))])) rfl hHeld ?_
           have O4 := Hi (O4.out.drew)
           have O5 := Hi (O5.out.drew)
           have OH := Hi (OH.out.drew)
           have O12 := Hi (O12.out.drew)
           have PX := Hi (PX.out.drew1)
           have CH := Hi CH.out.drew
           generalize World.drew _ = wk at O4 O5 OH O12 PX CH ⊢
           refine wpAnyH_ready (rs := [9]) (by kernel_rfl) (by simp) ?_
           refine AllReadyH.cons (o := _) rfl (fun K' hK => ?_) AllReadyH.nil
           rw [if_pos (by rfl)]
           refine wp_store_mid 63 _ _ rfl (w.heap.size) 0 (List.toArray [J I 0, J I 0, J I 0, .bool false, J I 0, J I 0, J I 0, J I 0, J I 0, J I 0, J I 0, J I 0, J I 0, J I 0, J I 0, J I 0]) rfl rfl (O4.out.there 0 16 (by simp)) (by kernel_rfl) (all_oneCell_toArray (List.all_eq_true.1 (by rfl))) ?_
           simp only [Act.put, zq1, zq2, zq3, zq4, zq5, zq6]
           have hst : Stored wk (w.heap.size) 0 [J I 0, J I 0, J I 0, .bool false, J I 0, J I 0, J I 0, J I 0, J I 0, J I 0, J I 0, J I 0, J I 0, J I 0, J I 0, J I 0] (wk.setCells (w.heap.size) 0 [J I 0, J I 0, J I 0, .bool false, J I 0, J I 0, J I 0, J I 0, J I 0, J I 0, J I 0, J I 0, J I 0, J I 0, J I 0, J I 0]) := rfl
           have O4 := Hi (hst.whole O4.out (by first | rfl | simp))
           have O5 := Hi (hst.oth O5.out (by omega))
           have OH := Hi (hst.oth OH.out (by omega))
           have O12 := Hi (hst.oth O12.out (by omega))
           have PX := Hi (PX.out.into hst (by omega) (by omega))
           have CH := Hi (hst.chg CH.out (by omega))
           generalize World.setCells _ _ _ _ = wk2 at O4 O5 OH O12 PX CH ⊢
           clear hst
           refine hK _ _ O12.out.range0 (fun hH1 => ?_)
           clear hK K'
           obtain ⟨wk, rfl⟩ : ∃ z, z = wk2 := ⟨_, rfl⟩
           refine wpAnyH_ready (rs := [10]) (by kernel_rfl) (by simp) ?_
           refine AllReadyH.cons (o := _) rfl (fun K' hK => ?_) AllReadyH.nil
           rw [if_pos (by rfl)]
           refine wp_store_mid 31 _ _ rfl (w.heap.size + 1) 0 (List.toArray [J I 2, J I f, J I ((x.p : Int) + (40 + 4 * i))]) rfl rfl (O5.out.there 0 3 (by simp)) (by kernel_rfl) (all_oneCell_toArray (List.all_eq_true.1 (by rfl))) ?_
           simp only [Act.put, zq1, zq2, zq3, zq4, zq5, zq6]
           have hst : Stored wk (w.heap.size + 1) 0 [J I 2, J I f, J I ((x.p : Int) + (40 + 4 * i))] (wk.setCells (w.heap.size + 1) 0 [J I 2, J I f, J I ((x.p : Int) + (40 + 4 * i))]) := rfl
           have O5 := Hi (hst.whole O5.out (by first | rfl | simp))
           have O4 := Hi (hst.oth O4.out (by omega))
           have OH := Hi (hst.oth OH.out (by omega))
           have O12 := Hi (hst.oth O12.out (by omega))
           have PX := Hi (PX.out.into hst (by omega) (by omega))
           have CH := Hi (hst.chg CH.out (by omega))
           generalize World.setCells _ _ _ _ = wk2 at O4 O5 OH O12 PX CH ⊢
           clear hst
           refine hK _ _ O12.out.range0 (fun hH2 => ?_)
           clear hK K'
           obtain ⟨wk, rfl⟩ : ∃ z, z = wk2 := ⟨_, rfl⟩
           refine wpAnyH_done (by kernel_rfl) ?_ _
           refine NoPanic.normal ?_
           go_wp2_with fail
           refine bodyPost_ret (v := .tuple #[.agg (List.toArray [J I 0, J I 0, J I 0, .bool false, J I 0, J I 0, J I 0, J I 0, J I 0, J I 0, J I 0, J I 0, J I 0, J I 0, J I 0, J I 0]), .agg (List.toArray [J I 2, J I f, J I ((x.p : Int) + (40 + 4 * i))])]) ?_ rfl ⟨by rw [ER.out] <;> rfl, by rw [ER.out]; exact PX.out, CH.out⟩
           exact aQ Tryz.results25 _ _ _ _ [J I 0, J I 0, J I 0, .bool false, J I 0, J I 0, J I 0, J I 0, J I 0, J I 0, J I 0, J I 0, J I 0, J I 0, J I 0, J I 0] [J I 2, J I f, J I ((x.p : Int) + (40 + 4 * i))] _ _ rfl O4.out.range0 Tryz.underlying63 rfl (by kernel_rfl) rfl O5.out.range0 Tryz.underlying31 rfl (by kernel_rfl)
       · obtain ⟨⟨⟨z, q⟩, ⟨c, ok⟩⟩, hnx⟩ : ∃ r, y.next m 12 = r := ⟨_, rfl⟩
         have HT2 := Hi (fun w0 hp => hnx ▸ take_any X y m 12 w0 hp)
         have hLz := next_L y m 12
         have hno := fun (ho : (y.next m 12).2.2 = true) => next_ok ho
         rw [hnx] at E0 hLz hno
         simp only at E0 hLz hno
         have E0 : (((if ok = true then (hEnd (b ++ c) ⟨sz, W, H, top, dp, mt, co, z8, 0⟩ f (x.p : Int), (z, q)) else (([J I 0, J I 0, J I 0, .bool false, J I 0, J I 0, J I 0, J I 0, J I 0, J I 0, J I 0, J I 0, J I 0, J I 0, J I 0, J I 0], aK z q f), (z, q)))) : (List Value × List Value) × (Sr × Led)) = RS := E0
         clear hnx
         go_upto_region 13 with ((with_reducible refine aE rfl ?_ ?_); rfl; intro _)
         go_wp2_with fail
         refine (HT2.out _ PX.out).mono ?_
         rintro e w7 ⟨rfl, hP, hC⟩
         have hC : Chg (two X x) _ w7 := hC.mono fun k _ hk => by unfold two at hk ⊢; rw [← hLy]; exact hk
         have OH := Hi (hC.obj OH.out (by unfold two; omega))
         have O4 := Hi (hC.obj O4.out (by unfold two; omega))
         have O5 := Hi (hC.obj O5.out (by unfold two; omega))
         have O12 := Hi (hC.obj O12.out (by unfold two; omega))
         have PX := Hi hP
         have CH := Hi (CH.out.trans hC)
         have lX7 := hP.src.lt
         have lL7 := hP.led.lt
         clear hP hC HT2 c5 cz cd
         have hn40 : b.size = 40 := by have h1 := HS40.out; rw [beq_iff_eq, HSZ.out] at h1; omega
         cases ok
         · rw [if_neg (by decide)] at E0
           obtain ⟨F, hF⟩ : ∃ F, aK z q f = F := ⟨_, rfl⟩
           have HF := Hi (fun w0 hp => fault_c X z q f w0 F hF hp)
           have FLn : F.length = 3 := by rw [← hF]; exact aV _ _ _
           have FO : F.all (·.oneCell') = true := by rw [← hF]; exact faultL_one _ _ _
           have ER := Hi (show RS = (([J I 0, J I 0, J I 0, .bool false, J I 0, J I 0, J I 0, J I 0, J I 0, J I 0, J I 0, J I 0, J I 0, J I 0, J I 0, J I 0], F), (z, q)) by rw [← hF]; exact E0.symm)
           have FI : (Tryz.prog.info? 31).map (·.size) = some F.length := by rw [FLn]; kernel_rfl
           clear hF hno E0 O12
           go_wp2_with (first
            | ((go_at_call 37; (with_reducible refine (HF.out _ PX.out).mono ?_); rintro e wc ⟨rfl, hb⟩); have O4 := Hi (O4.out.below hb O4.out.lt); have O5 := Hi (O5.out.below hb O5.out.lt); have OH := Hi (OH.out.below hb OH.out.lt); have PX := Hi (PX.out.upon hb PX.out.src.lt PX.out.led.lt); have CH := Hi (CH.out.trans (aB hb _)); clear hb)
            | (refine so 63 16 w.heap.size [J I 0, J I 0, J I 0, .bool false, J I 0, J I 0, J I 0, J I 0, J I 0, J I 0, J I 0, J I 0, J I 0, J I 0, J I 0, J I 0] O4.out ?_; intro ws hst hO; have O4 := Hi hO; have O5 := Hi (hst.oth O5.out (by omega)); have OH := Hi (hst.oth OH.out (by omega)); have PX := Hi (PX.out.into hst (by omega) (by omega)); have CH := Hi (hst.chg CH.out (by omega)); clear hst hO)
            | (refine store_o rfl 31 3 _ _ rfl (w.heap.size + 1) F FLn FO (by kernel_rfl) (by kernel_rfl) (by kernel_rfl) O5.out (by first | rfl | simp) ?_; intro ws hst hO; have O5 := Hi hO; have O4 := Hi (hst.oth O4.out (by omega)); have OH := Hi (hst.oth OH.out (by omega)); have PX := Hi (PX.out.into hst (by omega) (by omega)); have CH := Hi (hst.chg CH.out (by omega)); clear hst hO))
           refine bodyPost_ret (v := .tuple #[.agg (List.toArray [J I 0, J I 0, J I 0, .bool false, J I 0, J I 0, J I 0, J I 0, J I 0, J I 0, J I 0, J I 0, J I 0, J I 0, J I 0, J I 0]), .agg (List.toArray F)]) ?_ rfl ⟨by rw [ER.out] <;> rfl, by rw [ER.out]; exact PX.out, CH.out⟩
           exact aQ Tryz.results25 _ _ _ _ [J I 0, J I 0, J I 0, .bool false, J I 0, J I 0, J I 0, J I 0, J I 0, J I 0, J I 0, J I 0, J I 0, J I 0, J I 0, J I 0] F _ _ rfl O4.out.range0 Tryz.underlying63 rfl (by kernel_rfl) rfl O5.out.range0 Tryz.underlying31 rfl FI
         · rw [if_pos rfl] at E0
           obtain ⟨-, -, hn12, hz, -, hc⟩ := hno rfl
           have hcs : c.size = 12 := by rw [hc, ByteArray.size_extract]; rw [hy] at hn12 ⊢; simp only at hn12 ⊢; omega
           have hcs2 : c.size ≤ 12 := by omega
           have hbcs : (b ++ c).size = 52 := by rw [ByteArray.size_append]; omega
           have hq52 : (x.p : Int) + 52 ≤ 9223372036854775807 := by rw [hy] at hn12; simp only at hn12; omega
           obtain ⟨bb, hbb⟩ : ∃ bb, b ++ c = bb := ⟨_, rfl⟩
           have h52 : 52 ≤ bb.size := by rw [← hbb]; omega
           have h56 : 56 ≤ sz → 56 ≤ bb.size := by intro h1; rw [HSZ.out] at h1; omega
           have hbz : bb.size ≤ 9223372036854775807 := by rw [← hbb]; omega
           have hn124 : n ≤ 124 := by omega
           clear hno hz hc hcs hbcs hm3' hmt0 hn40
           go_upto_region 17 with (fail)
           try simp only [hbb]
           rw [hbb] at E0
           clear hbb
           obtain ⟨i, hi⟩ : ∃ i, (aW (ae (mkL bb sz) dp)).1 = i := ⟨_, rfl⟩
           obtain ⟨er, her⟩ : ∃ i, ((aW (ae (mkL bb sz) dp)).2 != 0) = i := ⟨_, rfl⟩
           have hib := scan4_bd (ae (mkL bb sz) dp)
           have hck := mk8_8 (mkL bb sz) dp
           obtain ⟨k0, k1, k2, k3, k4, k5, k6, k7, hck⟩ := hck
           unfold hEnd at E0
           simp only [hi, her, hck] at E0
           rw [hi] at hib
           obtain ⟨hi0, hi3⟩ := hib
           have HMK := Hi (fun w0 (ho : Obj1 w0 dH (List.toArray [J I sz, J I W, J I H, .bool top, J I dp, J I mt, J I co, J I 0, J I 0, J I 0, J I 0, J I 0, J I 0, J I 0, J I 0, J I (x.p : Int)]) 63) => (show Calls Tryz.prog 63 #[Y (some ⟨dH, 0, none⟩), .string bb] w0 (MaskPost w0 dH [J I sz, J I W, J I H, .bool top, J I dp, J I mt, J I co, J I k0, J I k1, J I k2, J I k3, J I k4, J I k5, J I k6, J I k7, J I (x.p : Int)] i er) from by have h1 := hmasks_any bb dH sz W H top dp mt co (x.p : Int) w0 h52 h56 hbz ho; rw [hi, her, hck] at h1; exact h1))
           clear hi her hck
           go_wp2_with fail
           refine (HMK.out _ OH.out).mono ?_
           rintro e w8 ⟨rfl, hO, hC⟩
           have O4 := Hi (hC.obj O4.out (by omega))
           have O5 := Hi (hC.obj O5.out (by omega))
           have O12 := Hi (hC.obj O12.out (by omega))
           have PX := Hi (show Pair w8 X z q from ⟨PX.out.src.chg hC (by omega), PX.out.led.chg hC (by omega)⟩)
           have CH := Hi (CH.out.after hC (fun k hk he => by omega))
           have OH := Hi hO
           clear hO hC HMK
           have c5 : w8.cell? ⟨dH, 5, none⟩ = some (J I mt) := (OH.out.cell 5).trans rfl
           have hi40 : (0 : Int) ≤ 40 + 4 * i := by omega
           have hi52 : (x.p : Int) + (40 + 4 * i) ≤ 9223372036854775807 := by omega
           cases er
           · have E0 : ((([J I sz, J I W, J I H, .bool top, J I dp, J I mt, J I co, J I k0, J I k1, J I k2, J I k3, J I k4, J I k5, J I k6, J I k7, J I (x.p : Int)], [J I 0, J I 0, J I 0]), (z, q)) : (List Value × List Value) × (Sr × Led)) = RS := E0
             have ER := Hi (show RS = (([J I sz, J I W, J I H, .bool top, J I dp, J I mt, J I co, J I k0, J I k1, J I k2, J I k3, J I k4, J I k5, J I k6, J I k7, J I (x.p : Int)], [J I 0, J I 0, J I 0]), (z, q)) from E0.symm)
             clear E0
             have hm3'' : (mt != 3) = false := by have h1 := HM3.out; rw [beq_iff_eq] at h1; rw [h1]; rfl
             have c5o := Hi c5
             clear c5
             go_upto_region 18 with (first | (refine so 134 3 d12 [.bool false, J I 2, J I (40 + 4 * i)] O12.out ?_; intro ws hst hO; have O12 := Hi hO; have O4 := Hi (hst.oth O4.out (by omega)); have O5 := Hi (hst.oth O5.out (by omega)); have OH := Hi (hst.oth OH.out (by omega)); have PX := Hi (PX.out.into hst (by omega) (by omega)); have CH := Hi (hst.chg CH.out (by omega)); clear hst hO))
             have c5 : ws.cell? ⟨dH, 5, none⟩ = some (J I mt) := (OH.out.cell 5).trans rfl
             go_upto_region 22 with ((with_reducible refine aE rfl ?_ ?_); rfl; intro _)
             clear c5
             go_wp2_with (first
              | (refine aL (by kernel_rfl) 63 16 _ rfl dH [J I sz, J I W, J I H, .bool top, J I dp, J I mt, J I co, J I k0, J I k1, J I k2, J I k3, J I k4, J I k5, J I k6, J I k7, J I (x.p : Int)] rfl rfl OH.out Tryz.underlying63 rfl (by kernel_rfl) ?_; intro _)
              | (refine so 63 16 w.heap.size [J I sz, J I W, J I H, .bool top, J I dp, J I mt, J I co, J I k0, J I k1, J I k2, J I k3, J I k4, J I k5, J I k6, J I k7, J I (x.p : Int)] O4.out ?_; intro ws hst hO; have O4 := Hi hO; have O5 := Hi (hst.oth O5.out (by omega)); have OH := Hi (hst.oth OH.out (by omega)); have PX := Hi (PX.out.into hst (by omega) (by omega)); have CH := Hi (hst.chg CH.out (by omega)); clear hst hO)
              | (refine so 31 3 (w.heap.size + 1) [J I 0, J I 0, J I 0] O5.out ?_; intro ws hst hO; have O5 := Hi hO; have O4 := Hi (hst.oth O4.out (by omega)); have OH := Hi (hst.oth OH.out (by omega)); have PX := Hi (PX.out.into hst (by omega) (by omega)); have CH := Hi (hst.chg CH.out (by omega)); clear hst hO))
             refine bodyPost_ret (v := .tuple #[.agg (List.toArray [J I sz, J I W, J I H, .bool top, J I dp, J I mt, J I co, J I k0, J I k1, J I k2, J I k3, J I k4, J I k5, J I k6, J I k7, J I (x.p : Int)]), .agg (List.toArray [J I 0, J I 0, J I 0])]) ?_ rfl ⟨by rw [ER.out] <;> rfl, by rw [ER.out]; exact PX.out, CH.out⟩
             exact aQ Tryz.results25 _ _ _ _ [J I sz, J I W, J I H, .bool top, J I dp, J I mt, J I co, J I k0, J I k1, J I k2, J I k3, J I k4, J I k5, J I k6, J I k7, J I (x.p : Int)] [J I 0, J I 0, J I 0] _ _ rfl O4.out.range0 Tryz.underlying63 rfl (by kernel_rfl) rfl O5.out.range0 Tryz.underlying31 rfl (by kernel_rfl)
           · have E0 : ((([J I 0, J I 0, J I 0, .bool false, J I 0, J I 0, J I 0, J I 0, J I 0, J I 0, J I 0, J I 0, J I 0, J I 0, J I 0, J I 0], [J I 2, J I f, J I ((x.p : Int) + (40 + 4 * i))]), (z, q)) : (List Value × List Value) × (Sr × Led)) = RS := E0
             have ER := Hi (show RS = (([J I 0, J I 0, J I 0, .bool false, J I 0, J I 0, J I 0, J I 0, J I 0, J I 0, J I 0, J I 0, J I 0, J I 0, J I 0, J I 0], [J I 2, J I f, J I ((x.p : Int) + (40 + 4 * i))]), (z, q)) from E0.symm)
             clear E0 c5
             go_upto_region 19 with (first | (refine so 134 3 d12 [.bool true, J I 2, J I (40 + 4 * i)] O12.out ?_; intro ws hst hO; have O12 := Hi hO; have O4 := Hi (hst.oth O4.out (by omega)); have O5 := Hi (hst.oth O5.out (by omega)); have OH := Hi (hst.oth OH.out (by omega)); have PX := Hi (PX.out.into hst (by omega) (by omega)); have CH := Hi (hst.chg CH.out (by omega)); clear hst hO))
             refine wp_region_noPanic ?_
             refine wp_region_held_drew (S := fun w' => w'.rangeAt d12 0 [.bool true, J I 2, J I (40 + 4 * i)]) (by kernel_rfl) O12.out.range0 (fun hHeld => ?_)
             refine zt 0 (.agg #[J I 0, J I 0, J I 0, .bool false, J I 0, J I 0, J I 0, J I 0, J I 0, J I 0, J I 0, J I 0, J I 0, J I 0, J I 0, J I 0]) rfl hHeld ?_
             refine zt 1 (Y (some ⟨d12, 1, none⟩)) rfl hHeld ?_
             refine zt 2 (J I 2) rfl hHeld ?_ (hy := fun wx hS => by have h1 : wx.cell? ⟨d12, 1, none⟩ = some (J I 2) := hS 1 _ rfl; go_simp)
             refine zt 3 (J I f) rfl hHeld ?_
             refine zt 4 (J I (x.p : Int)) rfl hHeld ?_
             refine zt 5 (Y (some ⟨d12, 2, none⟩)) rfl hHeld ?_
             refine zt 6 (J I (40 + 4 * i)) rfl hHeld ?_ (hy := fun wx hS => by have h1 : wx.cell? ⟨d12, 2, none⟩ = some (J I (40 + 4 * i)) := hS 2 _ rfl; go_simp)
             refine zt 7 (J I ((x.p : Int) + (40 + 4 * i))) rfl hHeld ?_ (hy := fun wx hS => by (go_simp) <;> first | (intro hh; exfalso; omega) | exact aF _ (by omega) (by omega))
             refine zt 8 (.agg (List.toArray [J I 2, J I f, J I ((x.p : Int) + (40 + 4 * i))])) rfl hHeld ?_
             have O4 := Hi (O4.out.drew)
             have O5 := Hi (O5.out.drew)
             have OH := Hi (OH.out.drew)
             have O12 := Hi (O12.out.drew)
             have PX := Hi (PX.out.drew1)
             have CH := Hi CH.out.drew
             generalize World.drew _ = wk at O4 O5 OH O12 PX CH ⊢
             refine wpAnyH_ready (rs := [9]) (by kernel_rfl) (by simp) ?_
             refine AllReadyH.cons (o := _) rfl (fun K' hK => ?_) AllReadyH.nil
             rw [if_pos (by rfl)]
             refine wp_store_mid 63 _ _ rfl (w.heap.size) 0 (List.toArray [J I 0, J I 0, J I 0, .bool false, J I 0, J I 0, J I 0, J I 0, J I 0, J I 0, J I 0, J I 0, J I 0, J I 0, J I 0, J I 0]) rfl rfl (O4.out.there 0 16 (by simp)) (by kernel_rfl) (all_oneCell_toArray (List.all_eq_true.1 (by rfl))) ?_
             simp only [Act.put, zq1, zq2, zq3, zq4, zq5, zq6]
             have hst : Stored wk (w.heap.size) 0 [J I 0, J I 0, J I 0, .bool false, J I 0, J I 0, J I 0, J I 0, J I 0, J I 0, J I 0, J I 0, J I 0, J I 0, J I 0, J I 0] (wk.setCells (w.heap.size) 0 [J I 0, J I 0, J I 0, .bool false, J I 0, J I 0, J I 0, J I 0, J I 0, J I 0, J I 0, J I 0, J I 0, J I 0, J I 0, J I 0]) := rfl
             have O4 := Hi (hst.whole O4.out (by first | rfl | simp))
             have O5 := Hi (hst.oth O5.out (by omega))
             have OH := Hi (hst.oth OH.out (by omega))
             have O12 := Hi (hst.oth O12.out (by omega))
             have PX := Hi (PX.out.into hst (by omega) (by omega))
             have CH := Hi (hst.chg CH.out (by omega))
             generalize World.setCells _ _ _ _ = wk2 at O4 O5 OH O12 PX CH ⊢
             clear hst
             refine hK _ _ O12.out.range0 (fun hH1 => ?_)
             clear hK K'
             obtain ⟨wk, rfl⟩ : ∃ z, z = wk2 := ⟨_, rfl⟩
             refine wpAnyH_ready (rs := [10]) (by kernel_rfl) (by simp) ?_
             refine AllReadyH.cons (o := _) rfl (fun K' hK => ?_) AllReadyH.nil
             rw [if_pos (by rfl)]
             refine wp_store_mid 31 _ _ rfl (w.heap.size + 1) 0 (List.toArray [J I 2, J I f, J I ((x.p : Int) + (40 + 4 * i))]) rfl rfl (O5.out.there 0 3 (by simp)) (by kernel_rfl) (all_oneCell_toArray (List.all_eq_true.1 (by rfl))) ?_
             simp only [Act.put, zq1, zq2, zq3, zq4, zq5, zq6]
             have hst : Stored wk (w.heap.size + 1) 0 [J I 2, J I f, J I ((x.p : Int) + (40 + 4 * i))] (wk.setCells (w.heap.size + 1) 0 [J I 2, J I f, J I ((x.p : Int) + (40 + 4 * i))]) := rfl
             have O5 := Hi (hst.whole O5.out (by first | rfl | simp))
             have O4 := Hi (hst.oth O4.out (by omega))
             have OH := Hi (hst.oth OH.out (by omega))
             have O12 := Hi (hst.oth O12.out (by omega))
             have PX := Hi (PX.out.into hst (by omega) (by omega))
             have CH := Hi (hst.chg CH.out (by omega))
             generalize World.setCells _ _ _ _ = wk2 at O4 O5 OH O12 PX CH ⊢
             clear hst
             refine hK _ _ O12.out.range0 (fun hH2 => ?_)
             clear hK K'
             obtain ⟨wk, rfl⟩ : ∃ z, z = wk2 := ⟨_, rfl⟩
             refine wpAnyH_done (by kernel_rfl) ?_ _
             refine NoPanic.normal ?_
             go_wp2_with fail
             refine bodyPost_ret (v := .tuple #[.agg (List.toArray [J I 0, J I 0, J I 0, .bool false, J I 0, J I 0, J I 0, J I 0, J I 0, J I 0, J I 0, J I 0, J I 0, J I 0, J I 0, J I 0]), .agg (List.toArray [J I 2, J I f, J I ((x.p : Int) + (40 + 4 * i))])]) ?_ rfl ⟨by rw [ER.out] <;> rfl, by rw [ER.out]; exact PX.out, CH.out⟩
             exact aQ Tryz.results25 _ _ _ _ [J I 0, J I 0, J I 0, .bool false, J I 0, J I 0, J I 0, J I 0, J I 0, J I 0, J I 0, J I 0, J I 0, J I 0, J I 0, J I 0] [J I 2, J I f, J I ((x.p : Int) + (40 + 4 * i))] _ _ rfl O4.out.range0 Tryz.underlying63 rfl (by kernel_rfl) rfl O5.out.range0 Tryz.underlying31 rfl (by kernel_rfl)
end Go.Proofs.YtfchnibjjokmbaaGreat

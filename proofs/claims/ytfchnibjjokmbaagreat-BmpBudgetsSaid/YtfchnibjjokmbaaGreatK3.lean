/- Parts. -/
import Derived.Test.YtfchnibjjokmbaaGreatK2
set_option linter.all false
set_option maxRecDepth 100000
set_option maxHeartbeats 16000000
open Go.Value renaming int → J, pointer → Y
open Go.IntKind renaming i64 → I, u8 → U
namespace Go.Proofs.YtfchnibjjokmbaaGreat
open Go.RowKit
theorem owns_obj {w : World} {B base n size : Nat} {L : List Value} {T : TypeId} (h : Obj1 w B L.toArray T) (hb : base ≤ B) (hc : n ≤ maxLen) (hl : L.length = n * size) : w.ownsRow base T size (.slice (some ⟨B, 0, none⟩) n n) n L :=
 ⟨by omega, Or.inr ⟨B, n, L.toArray, rfl, hb, h, Nat.le_refl _, hc, by simpa using hl, by rw [show L.toArray.toList = L by simp, ← hl]; exact List.take_length⟩⟩
theorem news_obj {w : World} {B : Nat} {L : List Value} {T : TypeId} (h : Obj1 w B L.toArray T) : ∀ j u, L[j]? = some u → w.cell? ((⟨B, 0, none⟩ : Addr).add j) = some u := by
 intro j u hu
 rw [Addr.add_mid, Nat.zero_add, h.cell]; simpa using hu
theorem one_all {L : List Value} (h : L.all (·.oneCell') = true) : ∀ u ∈ L, u.oneCell' = true := List.all_eq_true.1 h
theorem chg_grown {w w' : World} {r : Option Nat} {S : Nat → Prop} (h : w.grownBy w' r) (hS : ∀ j, r = some j → S j) : Chg S w w' := ⟨h.os, h.tape, h.output, h.size, fun k hk hn => h.block k hk (fun e => hn (hS k e.symm))⟩
theorem owns_set3 {w : World} {base e size n g cap : Nat} {xs : List Value} (h : w.ownsRow base e size (.slice (some ⟨g, 0, none⟩) n cap) n xs) {OB o : Nat} (u : Value) (hOB : g ≠ OB) : (w.setCell ⟨OB, o, none⟩ u).ownsRow base e size (.slice (some ⟨g, 0, none⟩) n cap) n xs := by
 obtain ⟨h1, h2⟩ := h
 refine ⟨h1, ?_⟩
 rcases h2 with ⟨h2, _⟩ | ⟨g', cap', cur, hv, hb, hg, rest⟩
 · simp at h2
 · have e : g' = g := by injection hv with hv; injection hv with hv; injection hv with hv; exact hv.symm
   subst e
   exact Or.inr ⟨g', cap', cur, hv, hb, Obj1.set_other (T := e) (cs := cur) hg ⟨OB, o, none⟩ u (by simpa using hOB), rest⟩
theorem Stored.owns {w w2 : World} {b o base e size n g cap : Nat} {vs xs : List Value} (hst : Stored w b o vs w2) (h : w.ownsRow base e size (.slice (some ⟨g, 0, none⟩) n cap) n xs) (hn : g ≠ b) : w2.ownsRow base e size (.slice (some ⟨g, 0, none⟩) n cap) n xs := by
 rw [show w2 = _ from hst]; clear hst
 induction vs generalizing w o with
 | nil => exact h
 | cons v r ih => rw [World.setCells]; exact ih (owns_set3 h v hn)
structure Hd where
 sz : Int
 w : Int
 h : Int
 top : Bool
 dp : Int
 mt : Int
 co : Int
 m : List Int
 fr : Int
def Hd.cells (a : Hd) : List Value := [J I a.sz, J I a.w, J I a.h, .bool a.top, J I a.dp, J I a.mt, J I a.co] ++ (a.m.map (.int .i64) ++ [J I a.fr])
def z8 : List Int := [0, 0, 0, 0, 0, 0, 0, 0]
def smallH (s : ByteArray) : Hd := ⟨12, aC s 4 2, aC s 6 2, false, aC s 10 2, 0, if aC s 10 2 ≤ 8 then 2 ^ (aC s 10 2).toNat else 0, z8, 0⟩
def smallF (s : ByteArray) : List Fnd := sidesF (aC s 4 2) (aC s 6 2) 4 6 ++ [(aC s 8 2 != 1, 2, 8), (!dpB (aC s 10 2) false, 3, 10)]
def greatH (s : ByteArray) : Hd := ⟨s.size, ab (aC s 4 4), if ab (aC s 8 4) < 0 then -ab (aC s 8 4) else ab (aC s 8 4), decide (ab (aC s 8 4) < 0), aC s 14 2, aC s 16 4,
 if aC s 32 4 = 0 ∧ aC s 14 2 ≤ 8 then mostI (aC s 14 2) else aC s 32 4, z8, 0⟩
def aj (s : ByteArray) : List Fnd := sidesF (ab (aC s 4 4)) (ab (aC s 8 4)) 4 8 ++ [(aC s 12 2 != 1, 2, 12), (!dpB (aC s 14 2) true, 3, 14), (decide (aC s 16 4 > 3), 3, 16), (!fitsB (aC s 16 4) (aC s 14 2), 2, 16),
 (decide (ab (aC s 8 4) < 0) && (aC s 16 4 == 1 || aC s 16 4 == 2), 2, 8), (dpB (aC s 14 2) true && decide (aC s 32 4 > mostI (aC s 14 2)), 2, 32)]
def ParsePost (w : World) (C : List Value) (n : Nat) (R : List Value) (e : Ending) (w' : World) : Prop := ∃ g cap, e = .returned (.tuple #[.agg C.toArray, .slice (some ⟨g, 0, none⟩) n cap]) ∧ w'.ownsRow w.heap.size 134 3 (.slice (some ⟨g, 0, none⟩) n cap) n R ∧ Below w.heap.size w w'
theorem hlow_at (s : ByteArray) (a n : Nat) (i k V : Int) (w : World) (hi : i = a) (hk : k = n) (hV : aC s a n = V) (hn : n ≤ 4) (h : a + n ≤ s.size) (hs : s.size ≤ 9223372036854775807) : Calls Tryz.prog 97 #[.string s, J I i, J I k] w fun e w' => e = .returned (J I V) ∧ w' = w := by
 subst hi hk hV; exact hlow_any s a n w hn h hs
theorem hlow32_at (s : ByteArray) (a : Nat) (i V : Int) (w : World) (hi : i = a) (hV : ab (aC s a 4) = V) (h : a + 4 ≤ s.size) (hs : s.size ≤ 9223372036854775807) : Calls Tryz.prog 100 #[.string s, J I i, J I 4] w fun e w' => e = .returned (.int .i32 V) ∧ w' = w := by
 subst hi hV; exact hlow32_any s a 4 w rfl h hs
theorem small_any' (s : ByteArray) (w : World) (h : s.size = 12) : Calls Tryz.prog 61 #[.string s] w (ParsePost w (smallH s).cells 6 (fndL (smallF s))) := by
 obtain ⟨i0, hi, hz0, hz1, hz2⟩ := info_parts (P := Tryz.prog) (e := 134) (z := .agg #[.bool false, J I 0, J I 0]) (size := 3) (bytes := 24) (by kernel_rfl)
 obtain ⟨C, hC⟩ : ∃ C, (smallH s).cells = C := ⟨_, rfl⟩
 obtain ⟨R, hR⟩ : ∃ C, fndL (smallF s) = C := ⟨_, rfl⟩
 have hCC := hC
 have hRR := hR
 obtain ⟨W, hW⟩ : ∃ W, aC s 4 2 = W := ⟨_, rfl⟩
 obtain ⟨H, hH⟩ : ∃ H, aC s 6 2 = H := ⟨_, rfl⟩
 obtain ⟨P, hP⟩ : ∃ P, aC s 8 2 = P := ⟨_, rfl⟩
 obtain ⟨dp, hdp⟩ : ∃ dp, aC s 10 2 = dp := ⟨_, rfl⟩
 have bdp := ah s 10 2
 have HW := Hi (fun w0 => hlow_at s 4 2 4 2 W w0 rfl rfl hW (by omega) (by omega) (by omega))
 have HH := Hi (fun w0 => hlow_at s 6 2 6 2 H w0 rfl rfl hH (by omega) (by omega) (by omega))
 have HP := Hi (fun w0 => hlow_at s 8 2 8 2 P w0 rfl rfl hP (by omega) (by omega) (by omega))
 have HDP := Hi (fun w0 => hlow_at s 10 2 10 2 dp w0 rfl rfl hdp (by omega) (by omega) (by omega))
 have HD := Hi (fun w0 => hdepth_any dp false w0)
 have HS := Hi (fun w0 => sides_any W H 4 6 w0)
 rw [hdp] at bdp
 unfold smallH at hC
 unfold smallF at hR
 rw [hW, hH, hdp] at hC
 rw [hW, hH, hP, hdp, fndL_app] at hR
 unfold sidesF at hR HS
 obtain ⟨b1, hb1⟩ : ∃ x, decide (W ≤ 0) = x := ⟨_, rfl⟩
 obtain ⟨b2, hb2⟩ : ∃ x, decide (W > 16384) = x := ⟨_, rfl⟩
 obtain ⟨b3, hb3⟩ : ∃ x, (H == 0) = x := ⟨_, rfl⟩
 obtain ⟨b4, hb4⟩ : ∃ x, (decide (H > 16384) || decide (H < -16384)) = x := ⟨_, rfl⟩
 obtain ⟨b5, hb5⟩ : ∃ x, (P != 1) = x := ⟨_, rfl⟩
 obtain ⟨b6, hb6⟩ : ∃ x, dpB dp false = x := ⟨_, rfl⟩
 rw [hb1, hb2, hb3, hb4] at hR HS
 rw [hb5, hb6] at hR
 rw [hb6] at HD
 have HR := Hi (show R = [.bool b1, J I 2, J I 4, .bool b2, J I 3, J I 4, .bool b3, J I 2, J I 6, .bool b4, J I 3, J I 6] ++ [.bool b5, J I 2, J I 8, .bool (!b6), J I 3, J I 10] from hR.symm)
 have HC := Hi hC.symm
 rw [show (smallH s).cells = C from hCC, show fndL (smallF s) = R from hRR]
 clear hCC hRR
 clear hC hR hW hH hP hdp hb1 hb2 hb3 hb4 hb6
 have O2 := Hi (aA w #[J I 0, J I 0, J I 0, .bool false, J I 0, J I 0, J I 0, J I 0, J I 0, J I 0, J I 0, J I 0, J I 0, J I 0, J I 0, J I 0] 63)
 have BL := Hi ((Below.refl w.heap.size w).alloc (Nat.le_refl _) (.cells #[J I 0, J I 0, J I 0, .bool false, J I 0, J I 0, J I 0, J I 0, J I 0, J I 0, J I 0, J I 0, J I 0, J I 0, J I 0, J I 0] 63))
 have O4 := Hi (aA (w.alloc (.cells #[J I 0, J I 0, J I 0, .bool false, J I 0, J I 0, J I 0, J I 0, J I 0, J I 0, J I 0, J I 0, J I 0, J I 0, J I 0, J I 0] 63)) #[J I 0, J I 0, J I 0, .bool false, J I 0, J I 0, J I 0, J I 0, J I 0, J I 0, J I 0, J I 0, J I 0, J I 0, J I 0, J I 0] 63)
 have O2 := Hi (O2.out.alloc (.cells #[J I 0, J I 0, J I 0, .bool false, J I 0, J I 0, J I 0, J I 0, J I 0, J I 0, J I 0, J I 0, J I 0, J I 0, J I 0, J I 0] 63))
 have BL := Hi (BL.out.alloc (by simp) (.cells #[J I 0, J I 0, J I 0, .bool false, J I 0, J I 0, J I 0, J I 0, J I 0, J I 0, J I 0, J I 0, J I 0, J I 0, J I 0, J I 0] 63))
 rw [show (w.alloc (.cells #[J I 0, J I 0, J I 0, .bool false, J I 0, J I 0, J I 0, J I 0, J I 0, J I 0, J I 0, J I 0, J I 0, J I 0, J I 0, J I 0] 63)).heap.size = w.heap.size + 1 by simp] at O4
 go_enter Tryz.func61, Tryz.ntmps61
 go_upto_region 2 with (first
  | ((go_at_call 97; (with_reducible refine (HW.out _).mono ?_); rintro e wl ⟨rfl, rfl⟩))
  | ((go_at_call 97; (with_reducible refine (HH.out _).mono ?_); rintro e wl ⟨rfl, rfl⟩))
  | ((go_at_call 97; (with_reducible refine (HDP.out _).mono ?_); rintro e wl ⟨rfl, rfl⟩))
  | (refine so 63 16 (w.heap.size + 1) [J I 12, J I W, J I H, .bool false, J I dp, J I 0, J I 0, J I 0, J I 0, J I 0, J I 0, J I 0, J I 0, J I 0, J I 0, J I 0] O4.out ?_; intro ws hst hO; have O4 := Hi hO; have O2 := Hi (hst.oth O2.out (by omega)); have BL := Hi (hst.below BL.out (by omega)); clear hst hO))
 refine wp_region_noPanic ?_
 refine wp_region_held_drew (S := fun w' => w'.rangeAt (w.heap.size + 1) 0 [J I 12, J I W, J I H, .bool false, J I dp, J I 0, J I 0, J I 0, J I 0, J I 0, J I 0, J I 0, J I 0, J I 0, J I 0, J I 0]) (by kernel_rfl) O4.out.range0 (fun hHeld => ?_)
 refine zt 0 (Y (some ⟨w.heap.size + 1, 1, none⟩)) rfl hHeld ?_
 refine zt 1 (J I W) rfl hHeld ?_ (hy := fun wx hS => by have h1 : wx.cell? ⟨w.heap.size + 1, 1, none⟩ = some (J I W) := hS 1 _ rfl; go_simp)
 refine zt 2 (Y (some ⟨w.heap.size + 1, 2, none⟩)) rfl hHeld ?_
 refine zt 3 (J I H) rfl hHeld ?_ (hy := fun wx hS => by have h1 : wx.cell? ⟨w.heap.size + 1, 2, none⟩ = some (J I H) := hS 2 _ rfl; go_simp)
 refine zt 5 (.string s) rfl hHeld ?_
 refine zt 9 (Y (some ⟨w.heap.size + 1, 4, none⟩)) rfl hHeld ?_
 refine zt 10 (J I dp) rfl hHeld ?_ (hy := fun wx hS => by have h1 : wx.cell? ⟨w.heap.size + 1, 4, none⟩ = some (J I dp) := hS 4 _ rfl; go_simp)
 have O2 := Hi (O2.out.drew)
 have O4 := Hi (O4.out.drew)
 have BL := Hi BL.out.drew
 generalize World.drew _ = wk at O2 O4 BL ⊢
 refine wpAnyH_ready (rs := [4]) (by kernel_rfl) (by simp) ?_
 refine AllReadyH.cons (o := _) rfl (fun K' hK => ?_) AllReadyH.nil
 go_simp
 refine (HS.out _).mono ?_
 rintro x wq ⟨rfl, hos, hb⟩
 have OS := Hi hos
 have lk := O4.out.lt
 have zk := BL.out.size
 have O2 := Hi (O2.out.below hb O2.out.lt)
 have O4 := Hi (O4.out.below hb O4.out.lt)
 have BL := Hi (am hb BL.out BL.out.size)
 clear hos
 obtain ⟨d, hd⟩ : ∃ d, wk.heap.size = d := ⟨_, rfl⟩
 have hdz := hb.size
 have ldq := OS.out.lt
 rw [hd] at OS lk zk hdz ldq ⊢
 clear hb hd
 go_wp2_with fail
 refine hK _ _ O4.out.range0 (fun hC1 => ?_)
 clear hK K'
 try simp only [Act.put, zq1, zq2, zq3, zq4, zq5, zq6]
 obtain ⟨wk, rfl⟩ : ∃ z, z = wq := ⟨_, rfl⟩
 refine wpAnyH_ready (rs := [6]) (by kernel_rfl) (by simp) ?_
 refine AllReadyH.cons (o := _) rfl (fun K' hK => ?_) AllReadyH.nil
 go_simp
 refine (HP.out _).mono ?_
 rintro x wq ⟨rfl, hq⟩
 have hq := hq.symm
 subst hq
 go_wp2_with fail
 refine hK _ _ O4.out.range0 (fun hC2 => ?_)
 clear hK K'
 try simp only [Act.put, zq1, zq2, zq3, zq4, zq5, zq6]
 refine zt 7 (.bool b5) rfl hC2 ?_
 refine zt 8 (.agg #[.bool b5, J I 2, J I 8]) rfl hC2 ?_
 refine wpAnyH_ready (rs := [11]) (by kernel_rfl) (by simp) ?_
 refine AllReadyH.cons (o := _) rfl (fun K' hK => ?_) AllReadyH.nil
 go_simp
 refine (HD.out _).mono ?_
 rintro x wq ⟨rfl, hq⟩
 have hq := hq.symm
 subst hq
 go_wp2_with fail
 refine hK _ _ O4.out.range0 (fun hC3 => ?_)
 clear hK K'
 try simp only [Act.put, zq1, zq2, zq3, zq4, zq5, zq6]
 refine zt 12 (.bool (!b6)) rfl hC3 ?_
 refine zt 13 (.agg #[.bool (!b6), J I 3, J I 10]) rfl hC3 ?_
 refine wpAnyH_ready (rs := [14]) (by kernel_rfl) (by simp) ?_
 refine AllReadyH.cons (o := _) rfl (fun K' hK => ?_) AllReadyH.nil
 go_simp
 have ON := Hi (aA wk (List.toArray [.bool b5, J I 2, J I 8, .bool (!b6), J I 3, J I 10]) 134)
 have OS := Hi (OS.out.alloc (.cells (List.toArray [.bool b5, J I 2, J I 8, .bool (!b6), J I 3, J I 10]) 134))
 have O2 := Hi (O2.out.alloc (.cells (List.toArray [.bool b5, J I 2, J I 8, .bool (!b6), J I 3, J I 10]) 134))
 have O4 := Hi (O4.out.alloc (.cells (List.toArray [.bool b5, J I 2, J I 8, .bool (!b6), J I 3, J I 10]) 134))
 have BL := Hi (BL.out.alloc BL.out.size (.cells (List.toArray [.bool b5, J I 2, J I 8, .bool (!b6), J I 3, J I 10]) 134))
 have zk2 := BL.out.size
 obtain ⟨e, he⟩ : ∃ e, wk.heap.size = e := ⟨_, rfl⟩
 have lde := ON.out.lt
 have ldo := OS.out.lt
 have l4 := O4.out.lt
 rw [he] at ON lde ⊢
 have hde : d ≠ e ∧ d < e := (by rw [← he]; omega)
 have h4e : w.heap.size + 1 < e := (by rw [← he]; omega)
 clear he
 generalize World.alloc wk _ = wk2 at O2 O4 OS ON BL lde ldo l4 zk2 ⊢
 refine hK _ _ O4.out.range0 (fun hC4 => ?_)
 clear hK K'
 try simp only [Act.put, zq1, zq2, zq3, zq4, zq5, zq6]
 obtain ⟨wk, rfl⟩ : ∃ z, z = wk2 := ⟨_, rfl⟩
 refine wpAnyH_ready (rs := [15]) (by kernel_rfl) (by simp) ?_
 refine AllReadyH.cons (o := _) rfl (fun K' hK => step_append_lies _ rfl (.tmp 17) (.tmp 27) 131 rfl w.heap.size 134 i0 (.agg #[.bool false, J I 0, J I 0]) 3 24 Tryz.underlying131 hi hz0 hz1 hz2 (by rfl) (by decide) _ 4 ([.bool b1, J I 2, J I 4, .bool b2, J I 3, J I 4, .bool b3, J I 2, J I 6, .bool b4, J I 3, J I 6]) rfl (owns_obj OS.out (by omega) (by decide) rfl) ⟨e, 0, none⟩ 2 2 [.bool b5, J I 2, J I 8, .bool (!b6), J I 3, J I 10] rfl rfl (news_obj ON.out) (one_all rfl) (by decide) (by unfold maxLen; decide) (by decide) zk2 _ rfl ?_) AllReadyH.nil
 intro g cap w3 hown hgr hat hlt
 have hgr : wk.grownBy w3 (some d) := hgr
 have hat : some d = some g ∨ g = wk.heap.size := hat
 have hgd : g ≠ w.heap.size ∧ g ≠ w.heap.size + 1 := (by rcases hat with hat | hat <;> first | (injection hat with hat; omega) | omega)
 have OW := Hi hown
 have hC3 : Chg (fun k => k = d) wk w3 := chg_grown hgr (by intro j hj; injection hj with hj; exact hj.symm)
 have O4 := Hi (hC3.obj O4.out (by omega))
 have O2 := Hi (hC3.obj O2.out (by have := O2.out.lt; omega))
 have BL := Hi (bchg BL.out hC3 zk2 (by intro k hk; omega))
 clear hown hgr hat hC3
 refine hK _ _ O4.out.range0 (fun hC5 => ?_)
 clear hK K'
 try simp only [Act.put, zq1, zq2, zq3, zq4, zq5, zq6]
 obtain ⟨wk, rfl⟩ : ∃ z, z = w3 := ⟨_, rfl⟩
 refine zt 16 (.slice (some ⟨g, 0, none⟩) (4 + 2) cap) rfl hC5 ?_
 refine wpAnyH_done (by kernel_rfl) ?_ _
 refine NoPanic.normal ?_
 have f6 : wk.frozen? ⟨w.heap.size + 1, 6, none⟩ = false := O4.out.frozen 6
 have c6 : wk.cell? ⟨w.heap.size + 1, 6, none⟩ = some (J I 0) := (O4.out.cell 6).trans rfl
 have c4 : wk.cell? ⟨w.heap.size + 1, 4, none⟩ = some (J I dp) := (O4.out.cell 4).trans rfl
 by_cases hd8 : dp ≤ 8
 · have D8 : decide (dp ≤ 8) = true := by simpa using hd8
   have HC := Hi (show C = [J I 12, J I W, J I H, .bool false, J I dp, J I 0, J I (2 ^ dp.toNat), J I 0, J I 0, J I 0, J I 0, J I 0, J I 0, J I 0, J I 0, J I 0] by rw [HC.out]; unfold Hd.cells; simp only []; rw [if_pos hd8]; rfl)
   have hp := pow_pos' dp.toNat
   have hl := pow_le' (show dp.toNat ≤ 8 by omega)
   have h8 : (2 : Int) ^ 8 = 256 := by decide
   rw [h8] at hl
   have eSh : wrap64 (2 ^ min dp.toNat 64) = 2 ^ dp.toNat := by rw [Nat.min_eq_left (by omega)]; exact IntWalk.wrap64_in _ ⟨by omega, by omega⟩
   clear h8 hd8 hp hl
   go_upto_region 5 with (fail)
   have O4 := Hi ((O4.out.set 6 (J I (2 ^ dp.toNat))).cells (show _ = (List.toArray [J I 12, J I W, J I H, .bool false, J I dp, J I 0, J I (2 ^ dp.toNat), J I 0, J I 0, J I 0, J I 0, J I 0, J I 0, J I 0, J I 0, J I 0]) from rfl))
   have O2 := Hi (O2.out.set_other ⟨w.heap.size + 1, 6, none⟩ (J I (2 ^ dp.toNat)) (by simp))
   have OW := Hi (owns_set3 OW.out (OB := w.heap.size + 1) (o := 6) (J I (2 ^ dp.toNat)) hgd.2)
   have BL := Hi (BL.out.setCell (p := ⟨w.heap.size + 1, 6, none⟩) (by simp) (J I (2 ^ dp.toNat)))
   clear c4 c6 f6
   generalize World.setCell _ _ _ = wk at O2 O4 OW BL ⊢
   go_wp2_with (first
    | (refine aL (by kernel_rfl) 63 16 _ rfl (w.heap.size + 1) [J I 12, J I W, J I H, .bool false, J I dp, J I 0, J I (2 ^ dp.toNat), J I 0, J I 0, J I 0, J I 0, J I 0, J I 0, J I 0, J I 0, J I 0] rfl rfl O4.out Tryz.underlying63 rfl (by kernel_rfl) ?_; intro _)
    | (refine so 63 16 w.heap.size [J I 12, J I W, J I H, .bool false, J I dp, J I 0, J I (2 ^ dp.toNat), J I 0, J I 0, J I 0, J I 0, J I 0, J I 0, J I 0, J I 0, J I 0] O2.out ?_; intro ws hst hO; have O2 := Hi hO; have O4 := Hi (hst.oth O4.out (by omega)); have BL := Hi (hst.below BL.out (by omega)); have OW := Hi (hst.owns OW.out hgd.1); clear hst hO))
   refine bodyPost_ret (v := .tuple #[.agg (List.toArray [J I 12, J I W, J I H, .bool false, J I dp, J I 0, J I (2 ^ dp.toNat), J I 0, J I 0, J I 0, J I 0, J I 0, J I 0, J I 0, J I 0, J I 0]), .slice (some ⟨g, 0, none⟩) 6 cap]) ?_ rfl ⟨g, cap, by rw [HC.out] <;> rfl, by rw [HR.out]; exact OW.out, BL.out⟩
   exact ag Tryz.results61 _ _ _ [J I 12, J I W, J I H, .bool false, J I dp, J I 0, J I (2 ^ dp.toNat), J I 0, J I 0, J I 0, J I 0, J I 0, J I 0, J I 0, J I 0, J I 0] _ rfl O2.out.range0 Tryz.underlying63 rfl (by kernel_rfl)
 · have D8 : decide (dp ≤ 8) = false := by simpa using hd8
   have HC := Hi (show C = [J I 12, J I W, J I H, .bool false, J I dp, J I 0, J I 0, J I 0, J I 0, J I 0, J I 0, J I 0, J I 0, J I 0, J I 0, J I 0] by rw [HC.out]; unfold Hd.cells; simp only []; rw [if_neg hd8]; rfl)
   clear hd8 f6 c6
   go_wp2_with (first
    | (refine aL (by kernel_rfl) 63 16 _ rfl (w.heap.size + 1) [J I 12, J I W, J I H, .bool false, J I dp, J I 0, J I 0, J I 0, J I 0, J I 0, J I 0, J I 0, J I 0, J I 0, J I 0, J I 0] rfl rfl O4.out Tryz.underlying63 rfl (by kernel_rfl) ?_; intro _)
    | (refine so 63 16 w.heap.size [J I 12, J I W, J I H, .bool false, J I dp, J I 0, J I 0, J I 0, J I 0, J I 0, J I 0, J I 0, J I 0, J I 0, J I 0, J I 0] O2.out ?_; intro ws hst hO; have O2 := Hi hO; have O4 := Hi (hst.oth O4.out (by omega)); have BL := Hi (hst.below BL.out (by omega)); have OW := Hi (hst.owns OW.out hgd.1); clear hst hO))
   refine bodyPost_ret (v := .tuple #[.agg (List.toArray [J I 12, J I W, J I H, .bool false, J I dp, J I 0, J I 0, J I 0, J I 0, J I 0, J I 0, J I 0, J I 0, J I 0, J I 0, J I 0]), .slice (some ⟨g, 0, none⟩) 6 cap]) ?_ rfl ⟨g, cap, by rw [HC.out] <;> rfl, by rw [HR.out]; exact OW.out, BL.out⟩
   exact ag Tryz.results61 _ _ _ [J I 12, J I W, J I H, .bool false, J I dp, J I 0, J I 0, J I 0, J I 0, J I 0, J I 0, J I 0, J I 0, J I 0, J I 0, J I 0] _ rfl O2.out.range0 Tryz.underlying63 rfl (by kernel_rfl)
end Go.Proofs.YtfchnibjjokmbaaGreat

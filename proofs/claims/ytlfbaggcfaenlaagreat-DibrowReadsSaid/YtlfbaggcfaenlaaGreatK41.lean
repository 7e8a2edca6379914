/- The reference of layer 21: Rows, walked. -/
import Derived.Test.YtlfbaggcfaenlaaGreatK34
import Derived.Test.YtlfbaggcfaenlaaGreatK3
import Derived.Test.YtlfbaggcfaenlaaGreatK5
import Derived.Test.YtlfbaggcfaenlaaGreatK20
import Derived.Deep.CutRange
import Derived.Test.YtlfbaggcfaenlaaGreatK0
namespace Go.Proofs.YtlfbaggcfaenlaaGreat
open Go.RowKit
set_option linter.unusedVariables false
set_option linter.unusedSimpArgs false
structure W21 (W H dp : Nat) (r g b q : Int) (M : Nat) (tb : List Value) : Prop where
  hW : W ≤ 300
  hH : H ≤ 300
  w1 : 1 ≤ W
  h1 : 1 ≤ H
  hd : dp = 1 ∨ dp = 4 ∨ dp = 8 ∨ dp = 16 ∨ dp = 24 ∨ dp = 32
  hr : 0 ≤ r ∧ r < 2 ^ 32
  hg : 0 ≤ g ∧ g < 2 ^ 32
  hb : 0 ≤ b ∧ b < 2 ^ 32
  hq : 0 ≤ q ∧ q < 2 ^ 32
  hM : M ≤ 256
  tl : tb.length = 4 * M
  ta : ∀ u ∈ tb, u.oneCell' = true
theorem load_rg {P : Program} {ops : Array Oper} {rest : List Oper} {op : Oper} {a : Act} {w : World} {Q : Exit → Act → World → Prop} (hw : Region.wanted op (yielded ops a.tmps) = true) (ty : TypeId) (x : Operand) (ho : op.op = .load ty x)
    (b o : Nat) (YS : List Value) (hx : a.eval x = .pointer (some ⟨b, o, none⟩)) (hr : w.rangeAt b o YS) {d : TypeDesc} (hu : P.underlying ty = some d) (hd : d.isRow = true) (hi : (P.info? ty).map (·.size) = some YS.length)
    (h : Unit → wpList P ops Q rest (a.put op.dst (.agg YS.toArray)) w) : wpList P ops Q (op :: rest) a w := by
  rw [wpList, if_pos hw]
  exact Or.inl (wp_load_mid ty x ho b o hx YS d hr hu hd hi (h ()))
theorem range_chgw {S : Nat → Prop} {w w' : World} {b o : Nat} {L : List Value} (h : w.rangeAt b o L) (hc : Chg S w w') (hlt : b < w.heap.size) (hn : ¬ S b) : w'.rangeAt b o L := fun j v hv => (hc.cell hlt hn).trans (h j v hv)
theorem owns_chgw {S : Nat → Prop} {w w' : World} {base e size n g cap : Nat} {xs : List Value} (h : w.ownsRow base e size (.slice (some ⟨g, 0, none⟩) n cap) n xs) (hc : Chg S w w') (hn : ¬ S g) : w'.ownsRow base e size (.slice (some ⟨g, 0, none⟩) n cap) n xs := by
  have hlt := (owns_lt h).2
  obtain ⟨hl, h2⟩ := h
  refine ⟨hl, ?_⟩
  rcases h2 with h2 | ⟨g', cap', cur, hv, hg, hh, rest⟩
  · exact Or.inl h2
  · have e' : g' = g := by injection hv with e1; injection e1 with e1; injection e1 with e1; exact e1.symm
    subst e'
    exact Or.inr ⟨g', cap', cur, hv, hg, (hc.block g' hlt hn).trans hh, rest⟩
theorem owns_blw {B : Nat} {w w' : World} {base e size n g cap : Nat} {xs : List Value} (h : w.ownsRow base e size (.slice (some ⟨g, 0, none⟩) n cap) n xs) (hb : Below w.heap.size w w') : w'.ownsRow base e size (.slice (some ⟨g, 0, none⟩) n cap) n xs := owns_chgw h (chg_of_below hb (fun _ => False)) (fun h => h)
set_option maxRecDepth 100000 in
set_option maxHeartbeats 16000000 in
theorem rows21_any (sz : Int) (W H : Nat) (top : Bool) (dp : Nat) (mt co r g b q fr en : Int) (s : ByteArray) (at_ te N M : Nat) (lv : Value) (tb : List Value) (w : World) (hN : N = W * H) (HW : W21 W H dp r g b q M tb) (hat : at_ ≤ te) (hte : te ≤ s.size) (hs : s.size ≤ 100000)
    (hl : dp ≤ 8 → ∃ gt ct bt, lv = .slice (some ⟨gt, 0, none⟩) M ct ∧ w.ownsRow bt 185 4 (.slice (some ⟨gt, 0, none⟩) M ct) M tb) :
    Calls Tryz.prog 33 #[.string s, .int .i64 at_, .int .i64 te, .agg (List.toArray [.int .i64 sz, .int .i64 W, .int .i64 H, .bool top, .int .i64 dp, .int .i64 mt, .int .i64 co, .int .i64 r, .int .i64 g, .int .i64 b, .int .i64 q, .int .i64 fr, .int .i64 en, .int .i64 0, .int .i64 0]), lv] w (Read22Post w W H N (rows21 ⟨W, H, top, dp, r, g, b, q⟩ s tb M te at_ H 0 (zC N))) := by
  obtain ⟨d, hd⟩ : ∃ d, w.heap.size = d := ⟨_, rfl⟩
  have HWW := Hi HW
  have hW := HW.hW
  have hH := HW.hH
  have hN9 : N ≤ 90000 := by rw [hN]; exact Nat.mul_le_mul hW hH
  have eWH : (W : Int) * (H : Int) = (N : Int) := by rw [hN]; exact (Int.natCast_mul W H).symm
  have HN := Hi hN
  have HLV := Hi hl
  have HBD := Hi (fun w0 (k a : Int) => (show Calls Tryz.prog 93 #[.int .i64 k, .int .i64 a] w0 (fun e w' => e = .returned (.agg (List.toArray [.int .i64 0, .int .i64 0, .slice none 0 0, .int .i64 k, .int .i64 a])) ∧ Below w0.heap.size w0 w') from bad13_any k a w0))
  obtain ⟨n, hn⟩ : ∃ n, strideN W dp = n := ⟨_, rfl⟩
  have hn2 : n ≤ 1300 := by
    have hdb : dp ≤ 32 := by rcases HW.hd with e | e | e | e | e | e <;> omega
    have := Nat.mul_le_mul hW hdb
    rw [← hn]; unfold strideN; omega
  have HST := Hi (fun w0 => (show Calls Tryz.prog 34 #[.agg (List.toArray [.int .i64 sz, .int .i64 W, .int .i64 H, .bool top, .int .i64 dp, .int .i64 mt, .int .i64 co, .int .i64 r, .int .i64 g, .int .i64 b, .int .i64 q, .int .i64 fr, .int .i64 en, .int .i64 0, .int .i64 0])] w0 (fun e w' => e = .returned (.int .i64 (n : Int)) ∧ Below w0.heap.size w0 w') from by
    have := rstride_any sz W H top dp mt co r g b q fr en w0 (by omega) (by rcases HW.hd with e | e | e | e | e | e <;> omega); rw [hn] at this; exact this))
  have HNN := Hi hn
  obtain ⟨R, hR⟩ : ∃ R, rows21 ⟨W, H, top, dp, r, g, b, q⟩ s tb M te at_ H 0 (zC N) = R := ⟨_, rfl⟩
  rw [hR]
  have HR := Hi hR
  have HM := fun w0 => mkC w0 N (by omega)
  have HD0 := Hi hd
  clear hR HW hN hl hn
  have OH := Hi ((obj1_new w (List.toArray [.int .i64 sz, .int .i64 W, .int .i64 H, .bool top, .int .i64 dp, .int .i64 mt, .int .i64 co, .int .i64 r, .int .i64 g, .int .i64 b, .int .i64 q, .int .i64 fr, .int .i64 en, .int .i64 0, .int .i64 0]) 52).alloc (.cells (List.toArray [.int .i64 0, .int .i64 0, .slice none 0 0, .int .i64 0, .int .i64 0]) 59))
  have OR := Hi (obj1_new (w.alloc (.cells (List.toArray [.int .i64 sz, .int .i64 W, .int .i64 H, .bool top, .int .i64 dp, .int .i64 mt, .int .i64 co, .int .i64 r, .int .i64 g, .int .i64 b, .int .i64 q, .int .i64 fr, .int .i64 en, .int .i64 0, .int .i64 0]) 52)) (List.toArray [.int .i64 0, .int .i64 0, .slice none 0 0, .int .i64 0, .int .i64 0]) 59)
  rw [show (w.alloc (.cells (List.toArray [.int .i64 sz, .int .i64 W, .int .i64 H, .bool top, .int .i64 dp, .int .i64 mt, .int .i64 co, .int .i64 r, .int .i64 g, .int .i64 b, .int .i64 q, .int .i64 fr, .int .i64 en, .int .i64 0, .int .i64 0]) 52)).heap.size = d + 1 by rw [← hd]; simp] at OR
  rw [hd] at OH
  have BL := Hi (((Below.refl w.heap.size w).alloc (Nat.le_refl _) (.cells (List.toArray [.int .i64 sz, .int .i64 W, .int .i64 H, .bool top, .int .i64 dp, .int .i64 mt, .int .i64 co, .int .i64 r, .int .i64 g, .int .i64 b, .int .i64 q, .int .i64 fr, .int .i64 en, .int .i64 0, .int .i64 0]) 52)).alloc (by simp) (.cells (List.toArray [.int .i64 0, .int .i64 0, .slice none 0 0, .int .i64 0, .int .i64 0]) 59))
  have hz3 : ((w.alloc (.cells (List.toArray [.int .i64 sz, .int .i64 W, .int .i64 H, .bool top, .int .i64 dp, .int .i64 mt, .int .i64 co, .int .i64 r, .int .i64 g, .int .i64 b, .int .i64 q, .int .i64 fr, .int .i64 en, .int .i64 0, .int .i64 0]) 52)).alloc (.cells (List.toArray [.int .i64 0, .int .i64 0, .slice none 0 0, .int .i64 0, .int .i64 0]) 59)).heap.size = d + 1 + 1 := by rw [← hd]; simp
  rw [hd] at BL
  go_enter Tryz.func33, Tryz.ntmps33
  go_upto_region 1 with (fail)
  clear hd
  generalize World.alloc _ _ = w3 at OH OR BL hz3 ⊢
  have ZL : (zC N).length = N * 4 := by rw [zC_len]; omega
  have lw3 : d + 1 < w3.heap.size := OR.out.lt
  have HEN := Hi (show ∀ wx gO gS, (gS = d + 1 + 1 ∧ gO = d + 1 + 1 + 1) ∨ (gO = d + 1 + 1 ∧ gS = d + 1 + 1 + 1) → Obj1 wx gO (List.toArray [.int .i64 W, .int .i64 H, .slice (some ⟨gS, 0, none⟩) N N, .int .i64 0, .int .i64 0]) 59 → Obj1 wx gS (zC N).toArray 185 → wx.ownsRow (d + 1 + 1) 185 4 (.slice (some ⟨gS, 0, none⟩) N N) N (zC N) from fun wx gO gS hc h1 h2 =>
    owns_obj (base := d + 1 + 1) (n := N) (size := 4) h2 (by omega) (by unfold maxLen; omega) ZL)
  have HMK := Hi HM
  clear HM
  go_cut [11] from 20 to 31 (fun cc wx => ∃ gO gS, cc = .pointer (some ⟨gO, 0, none⟩) ∧ gO ≠ gS ∧ d + 1 < gO ∧ d + 1 < gS ∧ Obj1 wx gO (List.toArray [.int .i64 W, .int .i64 H, .slice (some ⟨gS, 0, none⟩) N N, .int .i64 0, .int .i64 0]) 59 ∧ wx.ownsRow (d + 1 + 1) 185 4 (.slice (some ⟨gS, 0, none⟩) N N) N (zC N) ∧ Obj1 wx d (List.toArray [.int .i64 sz, .int .i64 W, .int .i64 H, .bool top, .int .i64 dp, .int .i64 mt, .int .i64 co, .int .i64 r, .int .i64 g, .int .i64 b, .int .i64 q, .int .i64 fr, .int .i64 en, .int .i64 0, .int .i64 0]) 52 ∧ Obj1 wx (d + 1) (List.toArray [.int .i64 0, .int .i64 0, .slice none 0 0, .int .i64 0, .int .i64 0]) 59 ∧ Below d w wx)
  case first =>
    refine wp_region_noPanic ?_
    refine wp_region_held_drew (S := fun w' => Chg (fun _ => False) w3 w') (by kernel_rfl) (Chg.refl _ _).drew (fun hHeld => ?_)
    refine wpAnyH_take (i := 0) (v := .pointer (some ⟨d, 1, none⟩)) rfl (by kernel_rfl) (by kernel_rfl) (by kernel_rfl) (fun _ _ _ h => h) (Or.inl ⟨by rfl, fun w hS => by (go_simp) <;> first | rfl | assumption | (intro hh; exfalso; omega) | (exact (i64_wraps _ (by omega) (by omega)).trans (by omega)) | omega⟩) hHeld ?_
    simp only [Act.put, zq1, zq2, zq3, zq4, zq5, zq6]
    refine wpAnyH_take (i := 1) (v := .int .i64 (W : Int)) rfl (by kernel_rfl) (by kernel_rfl) (by kernel_rfl) (fun _ _ _ h => h) (Or.inl ⟨by rfl, fun w hS => by (have hc : w.cell? ⟨d, 1, none⟩ = some (.int .i64 (W : Int)) := (hS.cell (b := d) (o := 1) (by omega) (fun h => h)).trans ((OH.out.cell 1).trans rfl); go_simp)⟩) hHeld ?_
    simp only [Act.put, zq1, zq2, zq3, zq4, zq5, zq6]
    refine wpAnyH_take (i := 2) (v := .pointer (some ⟨d, 2, none⟩)) rfl (by kernel_rfl) (by kernel_rfl) (by kernel_rfl) (fun _ _ _ h => h) (Or.inl ⟨by rfl, fun w hS => by (go_simp) <;> first | rfl | assumption | (intro hh; exfalso; omega) | (exact (i64_wraps _ (by omega) (by omega)).trans (by omega)) | omega⟩) hHeld ?_
    simp only [Act.put, zq1, zq2, zq3, zq4, zq5, zq6]
    refine wpAnyH_take (i := 3) (v := .int .i64 (H : Int)) rfl (by kernel_rfl) (by kernel_rfl) (by kernel_rfl) (fun _ _ _ h => h) (Or.inl ⟨by rfl, fun w hS => by (have hc : w.cell? ⟨d, 2, none⟩ = some (.int .i64 (H : Int)) := (hS.cell (b := d) (o := 2) (by omega) (fun h => h)).trans ((OH.out.cell 2).trans rfl); go_simp)⟩) hHeld ?_
    simp only [Act.put, zq1, zq2, zq3, zq4, zq5, zq6]
    refine wpAnyH_take (i := 4) (v := .pointer (some ⟨d, 1, none⟩)) rfl (by kernel_rfl) (by kernel_rfl) (by kernel_rfl) (fun _ _ _ h => h) (Or.inl ⟨by rfl, fun w hS => by (go_simp) <;> first | rfl | assumption | (intro hh; exfalso; omega) | (exact (i64_wraps _ (by omega) (by omega)).trans (by omega)) | omega⟩) hHeld ?_
    simp only [Act.put, zq1, zq2, zq3, zq4, zq5, zq6]
    refine wpAnyH_take (i := 5) (v := .int .i64 (W : Int)) rfl (by kernel_rfl) (by kernel_rfl) (by kernel_rfl) (fun _ _ _ h => h) (Or.inl ⟨by rfl, fun w hS => by (have hc : w.cell? ⟨d, 1, none⟩ = some (.int .i64 (W : Int)) := (hS.cell (b := d) (o := 1) (by omega) (fun h => h)).trans ((OH.out.cell 1).trans rfl); go_simp)⟩) hHeld ?_
    simp only [Act.put, zq1, zq2, zq3, zq4, zq5, zq6]
    refine wpAnyH_take (i := 6) (v := .pointer (some ⟨d, 2, none⟩)) rfl (by kernel_rfl) (by kernel_rfl) (by kernel_rfl) (fun _ _ _ h => h) (Or.inl ⟨by rfl, fun w hS => by (go_simp) <;> first | rfl | assumption | (intro hh; exfalso; omega) | (exact (i64_wraps _ (by omega) (by omega)).trans (by omega)) | omega⟩) hHeld ?_
    simp only [Act.put, zq1, zq2, zq3, zq4, zq5, zq6]
    refine wpAnyH_take (i := 7) (v := .int .i64 (H : Int)) rfl (by kernel_rfl) (by kernel_rfl) (by kernel_rfl) (fun _ _ _ h => h) (Or.inl ⟨by rfl, fun w hS => by (have hc : w.cell? ⟨d, 2, none⟩ = some (.int .i64 (H : Int)) := (hS.cell (b := d) (o := 2) (by omega) (fun h => h)).trans ((OH.out.cell 2).trans rfl); go_simp)⟩) hHeld ?_
    simp only [Act.put, zq1, zq2, zq3, zq4, zq5, zq6]
    refine wpAnyH_take (i := 8) (v := .int .i64 (N : Int)) rfl (by kernel_rfl) (by kernel_rfl) (by kernel_rfl) (fun _ _ _ h => h) (Or.inl ⟨by rfl, fun w hS => by (go_simp; exact i64_wraps _ (by omega) (by omega))⟩) hHeld ?_
    simp only [Act.put, zq1, zq2, zq3, zq4, zq5, zq6]
    have hS := (Chg.refl (fun _ => False) w3).drew
    have OH := Hi OH.out.drew
    have OR := Hi OR.out.drew
    have BL := Hi BL.out.drew
    have hzd : w3.drew.heap.size = d + 1 + 1 := hz3
    generalize World.drew _ = wk at OH OR BL hS hzd ⊢
    have HM := HMK.out
    refine wpAnyH_ready (rs := [9, 11]) (by kernel_rfl) (by simp) ?_
    refine AllReadyH.cons (o := _) rfl (fun K' hK => ?_) (AllReadyH.cons (o := _) rfl (fun K' hK => ?_) AllReadyH.nil)
    · skip
      go_simp
      have OSL := Hi (obj1_new wk (zC N).toArray 185)
      rw [hzd] at OSL
      have OH := Hi (OH.out.alloc (.cells (zC N).toArray 185))
      have OR := Hi (OR.out.alloc (.cells (zC N).toArray 185))
      have BL := Hi (BL.out.alloc (by omega) (.cells (zC N).toArray 185))
      have hS := hS.alloc (.cells (zC N).toArray 185)
      have hzA : (wk.alloc (.cells (zC N).toArray 185)).heap.size = d + 1 + 1 + 1 := by simp; omega
      generalize World.alloc wk _ = wA at OSL BL OH OR hS hzA ⊢
      refine hK _ _ hS (fun hH2 => ?_)
      clear hK K'
      try simp only [Act.put, zq1, zq2, zq3, zq4, zq5, zq6]
      refine wpAnyH_take (i := 10) (v := .agg (List.toArray [.int .i64 W, .int .i64 H, .slice (some ⟨d + 1 + 1, 0, none⟩) N N, .int .i64 0, .int .i64 0])) rfl (by kernel_rfl) (by kernel_rfl) (by kernel_rfl) (fun _ _ _ h => h) (Or.inl ⟨by rfl, fun w hS => by go_simp⟩) hH2 ?_
      simp only [Act.put, zq1, zq2, zq3, zq4, zq5, zq6]
      refine wpAnyH_ready (rs := [11]) (by kernel_rfl) (by simp) ?_
      refine AllReadyH.cons (o := _) rfl (fun K' hK => ?_) AllReadyH.nil
      go_simp
      have OO := Hi (obj1_new wA #[.int .i64 0, .int .i64 0, .slice none 0 0, .int .i64 0, .int .i64 0] 59)
      rw [hzA] at OO
      have OH := Hi (OH.out.alloc (.cells #[.int .i64 0, .int .i64 0, .slice none 0 0, .int .i64 0, .int .i64 0] 59))
      have OR := Hi (OR.out.alloc (.cells #[.int .i64 0, .int .i64 0, .slice none 0 0, .int .i64 0, .int .i64 0] 59))
      have OSL := Hi (OSL.out.alloc (.cells #[.int .i64 0, .int .i64 0, .slice none 0 0, .int .i64 0, .int .i64 0] 59))
      have BL := Hi (BL.out.alloc (by omega) (.cells #[.int .i64 0, .int .i64 0, .slice none 0 0, .int .i64 0, .int .i64 0] 59))
      have hS := hS.alloc (.cells #[.int .i64 0, .int .i64 0, .slice none 0 0, .int .i64 0, .int .i64 0] 59)
      have hzB : (wA.alloc (.cells #[.int .i64 0, .int .i64 0, .slice none 0 0, .int .i64 0, .int .i64 0] 59)).heap.size = d + 1 + 1 + 1 + 1 := by simp; omega
      generalize World.alloc wA _ = wB at OO BL OH OR OSL hS hzB ⊢
      refine hK _ _ hS (fun hH3 => ?_)
      clear hK K'
      try simp only [Act.put, zq1, zq2, zq3, zq4, zq5, zq6]
      refine wpAnyH_ready (rs := [12]) (by kernel_rfl) (by simp) ?_
      refine AllReadyH.cons (o := _) rfl (fun K' hK => ?_) AllReadyH.nil
      rw [if_pos (by rfl)]
      refine wp_store_mid 59 _ _ rfl (d + 1 + 1 + 1) 0 ([.int .i64 W, .int .i64 H, .slice (some ⟨d + 1 + 1, 0, none⟩) N N, .int .i64 0, .int .i64 0]).toArray rfl rfl (by have := OO.out.there 0 5 (by simp); simpa using this) (by kernel_rfl) (by first | (simp only [List.all_toArray]; rfl) | (simp; rfl) | simp) ?_
      simp only [Act.put, zq1, zq2, zq3, zq4, zq5, zq6]
      have hst : Stored wB (d + 1 + 1 + 1) 0 ([.int .i64 W, .int .i64 H, .slice (some ⟨d + 1 + 1, 0, none⟩) N N, .int .i64 0, .int .i64 0]) (wB.setCells (d + 1 + 1 + 1) 0 ([.int .i64 W, .int .i64 H, .slice (some ⟨d + 1 + 1, 0, none⟩) N N, .int .i64 0, .int .i64 0])) := rfl
      have OO := Hi (hst.whole OO.out rfl)
      have OSL := Hi (hst.oth OSL.out (by omega))
      have OH := Hi (hst.oth OH.out (by omega))
      have OR := Hi (hst.oth OR.out (by omega))
      have BL := Hi (hst.below BL.out (by omega))
      have hS := Stored.chgS hst hS (Or.inr (by omega))
      generalize World.setCells _ _ _ _ = wC at OO OSL OH OR BL hS ⊢
      clear hst
      refine hK _ _ hS (fun hH4 => ?_)
      clear hK K'
      refine wpAnyH_done (by kernel_rfl) ?_ _
      refine NoPanic.normal ?_
      go_wp2_with fail
      go_meet
      exact ⟨d + 1 + 1 + 1, d + 1 + 1, rfl, by omega, by omega, by omega, OO.out, HEN.out _ (d + 1 + 1 + 1) (d + 1 + 1) (Or.inl ⟨rfl, rfl⟩) OO.out OSL.out, OH.out, OR.out, BL.out⟩
    · skip
      go_simp
      have OO := Hi (obj1_new wk #[.int .i64 0, .int .i64 0, .slice none 0 0, .int .i64 0, .int .i64 0] 59)
      rw [hzd] at OO
      have OH := Hi (OH.out.alloc (.cells #[.int .i64 0, .int .i64 0, .slice none 0 0, .int .i64 0, .int .i64 0] 59))
      have OR := Hi (OR.out.alloc (.cells #[.int .i64 0, .int .i64 0, .slice none 0 0, .int .i64 0, .int .i64 0] 59))
      have BL := Hi (BL.out.alloc (by omega) (.cells #[.int .i64 0, .int .i64 0, .slice none 0 0, .int .i64 0, .int .i64 0] 59))
      have hS := hS.alloc (.cells #[.int .i64 0, .int .i64 0, .slice none 0 0, .int .i64 0, .int .i64 0] 59)
      have hzA : (wk.alloc (.cells #[.int .i64 0, .int .i64 0, .slice none 0 0, .int .i64 0, .int .i64 0] 59)).heap.size = d + 1 + 1 + 1 := by simp; omega
      generalize World.alloc wk _ = wA at OO BL OH OR hS hzA ⊢
      refine hK _ _ hS (fun hH2 => ?_)
      clear hK K'
      try simp only [Act.put, zq1, zq2, zq3, zq4, zq5, zq6]
      refine wpAnyH_ready (rs := [9]) (by kernel_rfl) (by simp) ?_
      refine AllReadyH.cons (o := _) rfl (fun K' hK => ?_) AllReadyH.nil
      go_simp
      have OSL := Hi (obj1_new wA (zC N).toArray 185)
      rw [hzA] at OSL
      have OH := Hi (OH.out.alloc (.cells (zC N).toArray 185))
      have OR := Hi (OR.out.alloc (.cells (zC N).toArray 185))
      have OO := Hi (OO.out.alloc (.cells (zC N).toArray 185))
      have BL := Hi (BL.out.alloc (by omega) (.cells (zC N).toArray 185))
      have hS := hS.alloc (.cells (zC N).toArray 185)
      have hzB : (wA.alloc (.cells (zC N).toArray 185)).heap.size = d + 1 + 1 + 1 + 1 := by simp; omega
      generalize World.alloc wA _ = wB at OSL BL OH OR OO hS hzB ⊢
      refine hK _ _ hS (fun hH3 => ?_)
      clear hK K'
      try simp only [Act.put, zq1, zq2, zq3, zq4, zq5, zq6]
      refine wpAnyH_take (i := 10) (v := .agg (List.toArray [.int .i64 W, .int .i64 H, .slice (some ⟨d + 1 + 1 + 1, 0, none⟩) N N, .int .i64 0, .int .i64 0])) rfl (by kernel_rfl) (by kernel_rfl) (by kernel_rfl) (fun _ _ _ h => h) (Or.inl ⟨by rfl, fun w hS => by go_simp⟩) hH3 ?_
      simp only [Act.put, zq1, zq2, zq3, zq4, zq5, zq6]
      refine wpAnyH_ready (rs := [12]) (by kernel_rfl) (by simp) ?_
      refine AllReadyH.cons (o := _) rfl (fun K' hK => ?_) AllReadyH.nil
      rw [if_pos (by rfl)]
      refine wp_store_mid 59 _ _ rfl (d + 1 + 1) 0 ([.int .i64 W, .int .i64 H, .slice (some ⟨d + 1 + 1 + 1, 0, none⟩) N N, .int .i64 0, .int .i64 0]).toArray rfl rfl (by have := OO.out.there 0 5 (by simp); simpa using this) (by kernel_rfl) (by first | (simp only [List.all_toArray]; rfl) | (simp; rfl) | simp) ?_
      simp only [Act.put, zq1, zq2, zq3, zq4, zq5, zq6]
      have hst : Stored wB (d + 1 + 1) 0 ([.int .i64 W, .int .i64 H, .slice (some ⟨d + 1 + 1 + 1, 0, none⟩) N N, .int .i64 0, .int .i64 0]) (wB.setCells (d + 1 + 1) 0 ([.int .i64 W, .int .i64 H, .slice (some ⟨d + 1 + 1 + 1, 0, none⟩) N N, .int .i64 0, .int .i64 0])) := rfl
      have OO := Hi (hst.whole OO.out rfl)
      have OSL := Hi (hst.oth OSL.out (by omega))
      have OH := Hi (hst.oth OH.out (by omega))
      have OR := Hi (hst.oth OR.out (by omega))
      have BL := Hi (hst.below BL.out (by omega))
      have hS := Stored.chgS hst hS (Or.inr (by omega))
      generalize World.setCells _ _ _ _ = wC at OO OSL OH OR BL hS ⊢
      clear hst
      refine hK _ _ hS (fun hH4 => ?_)
      clear hK K'
      refine wpAnyH_done (by kernel_rfl) ?_ _
      refine NoPanic.normal ?_
      go_wp2_with fail
      go_meet
      exact ⟨d + 1 + 1, d + 1 + 1 + 1, rfl, by omega, by omega, by omega, OO.out, HEN.out _ (d + 1 + 1) (d + 1 + 1 + 1) (Or.inr ⟨rfl, rfl⟩) OO.out OSL.out, OH.out, OR.out, BL.out⟩
  case rest =>
    obtain ⟨gO, gS, rfl, hne, hgO, hgS, hoo, how, hoh, hor, hbl⟩ := hcut
    have OO := Hi hoo
    have OW := Hi how
    have OH := Hi hoh
    have OR := Hi hor
    have BL := Hi hbl
    clear hoo how hoh hor hbl HEN HMK ZL lw3 hz3
    go_wp2_with (refine load_u (by kernel_rfl) 52 15 _ rfl d [.int .i64 sz, .int .i64 W, .int .i64 H, .bool top, .int .i64 dp, .int .i64 mt, .int .i64 co, .int .i64 r, .int .i64 g, .int .i64 b, .int .i64 q, .int .i64 fr, .int .i64 en, .int .i64 0, .int .i64 0] rfl rfl OH.out Tryz.underlying52 rfl (by kernel_rfl) ?_; intro _)
    with_reducible refine (HST.out _).mono ?_
    rintro e w4 ⟨rfl, hb⟩
    have ltz := OO.out.lt
    have OH := Hi (OH.out.below hb OH.out.lt)
    have OR := Hi (OR.out.below hb OR.out.lt)
    have OO := Hi (OO.out.below hb OO.out.lt)
    have OW := Hi (owns_blw (B := d) OW.out hb)
    have BL := Hi (bthen hb BL.out (by omega))
    clear hb
    go_wp2_with fail
    try go_frame
    go_loopw [13] (fun cc wr => ∃ (k : Nat) (L : List Value), k ≤ H ∧ cc = .int .i64 k ∧ rows21 ⟨W, H, top, dp, r, g, b, q⟩ s tb M te at_ (H - k) k L = R ∧ Obj1 wr d (List.toArray [.int .i64 sz, .int .i64 W, .int .i64 H, .bool top, .int .i64 dp, .int .i64 mt, .int .i64 co, .int .i64 r, .int .i64 g, .int .i64 b, .int .i64 q, .int .i64 fr, .int .i64 en, .int .i64 0, .int .i64 0]) 52 ∧ Obj1 wr (d + 1) (List.toArray [.int .i64 0, .int .i64 0, .slice none 0 0, .int .i64 0, .int .i64 0]) 59 ∧ Obj1 wr gO (List.toArray [.int .i64 W, .int .i64 H, .slice (some ⟨gS, 0, none⟩) N N, .int .i64 0, .int .i64 0]) 59 ∧ wr.ownsRow (d + 1 + 1) 185 4 (.slice (some ⟨gS, 0, none⟩) N N) N L ∧ L.length = 4 * (W * H) ∧ (∀ u ∈ L, u.oneCell' = true) ∧ Below d w wr) (fun cc _ => H - (intOf cc).toNat)
    case atStart => exact ⟨0, zC N, Nat.zero_le _, rfl, by rw [Nat.sub_zero]; exact HR.out, OH.out, OR.out, OO.out, OW.out, by rw [zC_len, HN.out], zC_all N, BL.out⟩
    case round =>
      obtain ⟨k, L, hk, rfl, hrl, hoh, hor, hoo, how, hll, hlu, hbl⟩ := hrel
      have HRL := Hi hrl
      clear hrl
      have OH := Hi hoh
      have OR := Hi hor
      have OO := Hi hoo
      have OW := Hi how
      have HLL := Hi hll
      have HLU := Hi hlu
      have BL := Hi hbl
      have lgS := (owns_lt how).2
      have lgO := hoo.lt
      clear hoh hor hoo how hll hlu hbl
      have c2 := (OH.out.cell 2).trans (show _ = some (.int .i64 (H : Int)) from rfl)
      by_cases hlt : k < H
      rotate_left
      · have HRE := Hi (show R = .ok L by rw [← HRL.out, show H - k = 0 by omega]; rfl)
        go_wp2_with (first
          | (refine load_u (by kernel_rfl) 59 5 _ rfl gO [.int .i64 W, .int .i64 H, .slice (some ⟨gS, 0, none⟩) N N, .int .i64 0, .int .i64 0] rfl rfl OO.out Tryz.underlying59 rfl (by kernel_rfl) ?_; intro _)
          | (refine store_o rfl 59 5 _ _ rfl (d + 1) [.int .i64 W, .int .i64 H, .slice (some ⟨gS, 0, none⟩) N N, .int .i64 0, .int .i64 0] rfl rfl (by kernel_rfl) (by kernel_rfl) (by kernel_rfl) OR.out (by first | rfl | simp) ?_; intro ws hst hO; have OR := Hi hO; have OW := Hi (hst.owns OW.out (by omega)); have BL := Hi (hst.below BL.out (by omega)); clear hst hO))
        refine bodyPost_ret (v := .agg (List.toArray [.int .i64 W, .int .i64 H, .slice (some ⟨gS, 0, none⟩) N N, .int .i64 0, .int .i64 0])) ?_ rfl ?_
        · exact results_c Tryz.results33 _ _ _ [.int .i64 W, .int .i64 H, .slice (some ⟨gS, 0, none⟩) N N, .int .i64 0, .int .i64 0] _ rfl OR.out.range0 Tryz.underlying59 rfl (by kernel_rfl)
        · rw [show R = .ok L from HRE.out]
          exact ⟨gS, N, by rfl, owns_keep (b2 := w.heap.size) OW.out (by rw [HD0.out]; omega) (fun _ _ _ => rfl), by rw [HD0.out]; exact BL.out⟩
      obtain ⟨kn, hkn⟩ : ∃ m, k * n = m := ⟨_, rfl⟩
      have hknb : kn ≤ 390000 := by rw [← hkn]; exact Nat.mul_le_mul (show k ≤ 300 by omega) hn2
      have ekn : (k : Int) * (n : Int) = (kn : Int) := by rw [← hkn]; exact (Int.natCast_mul k n).symm
      obtain ⟨fr0, hfr⟩ : ∃ m, at_ + kn = m := ⟨_, rfl⟩
      have efr : (at_ : Int) + (kn : Int) = (fr0 : Int) := by omega
      obtain ⟨y, hy⟩ : ∃ y, (if top = true then k else H - 1 - k) = y := ⟨_, rfl⟩
      have HYH := Hi (show y < H by rw [← hy]; split <;> omega)
      obtain ⟨RW, hRW⟩ : ∃ RW, row21 ⟨W, H, top, dp, r, g, b, q⟩ s tb M te fr0 y W 0 L = RW := ⟨_, rfl⟩
      have HRW := Hi hRW
      have HRL := Hi (show (bindE RW fun L' => if te < fr0 + n then .error (1, (te : Int)) else rows21 ⟨W, H, top, dp, r, g, b, q⟩ s tb M te at_ (H - (k + 1)) (k + 1) L') = R by
        have := HRL.out
        rw [show H - k = (H - (k + 1)) + 1 by omega, rows21] at this
        rw [show strideN (H21.W ⟨W, H, top, dp, r, g, b, q⟩) (H21.dp ⟨W, H, top, dp, r, g, b, q⟩) = n from HNN.out, hkn, hfr, show yOf ⟨W, H, top, dp, r, g, b, q⟩ k = y from hy, show row21 ⟨W, H, top, dp, r, g, b, q⟩ s tb M te fr0 y (H21.W ⟨W, H, top, dp, r, g, b, q⟩) 0 L = RW from hRW] at this
        exact this)
      have HYK := Hi hy
      have hfrb : fr0 ≤ 490000 := by omega
      clear hy hRW hkn hfr
      have hate : at_ ≤ 100000 := by omega
      go_upto_region 8 with (fail)
      clear c2 ekn efr hknb hate
      have c1 := (OH.out.cell 1).trans (show _ = some (.int .i64 (W : Int)) from rfl)
      have HFB := Hi hfrb
      have HKH := Hi hlt
      clear hlt hfrb
      go_upto_region 8 with (fail)
      clear c1
      go_loopw [15] (fun cc w5 => ∃ (x : Nat) (L2 : List Value), x ≤ W ∧ cc = .int .i64 x ∧ row21 ⟨W, H, top, dp, r, g, b, q⟩ s tb M te fr0 y (W - x) x L2 = RW ∧ Obj1 w5 d (List.toArray [.int .i64 sz, .int .i64 W, .int .i64 H, .bool top, .int .i64 dp, .int .i64 mt, .int .i64 co, .int .i64 r, .int .i64 g, .int .i64 b, .int .i64 q, .int .i64 fr, .int .i64 en, .int .i64 0, .int .i64 0]) 52 ∧ Obj1 w5 (d + 1) (List.toArray [.int .i64 0, .int .i64 0, .slice none 0 0, .int .i64 0, .int .i64 0]) 59 ∧ Obj1 w5 gO (List.toArray [.int .i64 W, .int .i64 H, .slice (some ⟨gS, 0, none⟩) N N, .int .i64 0, .int .i64 0]) 59 ∧ w5.ownsRow (d + 1 + 1) 185 4 (.slice (some ⟨gS, 0, none⟩) N N) N L2 ∧ L2.length = 4 * (W * H) ∧ (∀ u ∈ L2, u.oneCell' = true) ∧ Below d w w5) (fun cc _ => W - (intOf cc).toNat)
      case atStart => exact ⟨0, L, Nat.zero_le _, rfl, by rw [Nat.sub_zero]; exact HRW.out, OH.out, OR.out, OO.out, OW.out, HLL.out, HLU.out, BL.out⟩
      case round =>
        obtain ⟨x, L2, hx, rfl, hrl2, hoh, hor, hoo, how, hll, hlu, hbl⟩ := hrel
        have HRL2 := Hi hrl2
        clear hrl2 lgS lgO
        have OH := Hi hoh
        have OR := Hi hor
        have OO := Hi hoo
        have OW := Hi how
        have HLL := Hi hll
        have HLU := Hi hlu
        have BL := Hi hbl
        have lgS := (owns_lt how).2
        have lgO := hoo.lt
        clear hoh hor hoo how hll hlu hbl
        have c1 := (OH.out.cell 1).trans (show _ = some (.int .i64 (W : Int)) from rfl)
        by_cases hlt : x < W
        rotate_left
        · have ERW := Hi (show RW = .ok L2 by rw [← HRL2.out, show W - x = 0 by omega]; rfl)
          have HRL := Hi (show (if te < fr0 + n then .error (1, (te : Int)) else rows21 ⟨W, H, top, dp, r, g, b, q⟩ s tb M te at_ (H - (k + 1)) (k + 1) L2) = R by have := HRL.out; rw [ERW.out] at this; exact this)
          have hfrb := HFB.out
          by_cases hte2 : te < fr0 + n
          · have HRE := Hi (show R = .error (1, (te : Int)) by rw [← HRL.out, if_pos hte2])
            have hti : (te : Int) < (fr0 : Int) + (n : Int) := by omega
            go_wp2_with fail
            with_reducible refine (HBD.out _ 1 te).mono ?_
            rintro e wb ⟨rfl, hb⟩
            have lzr := OR.out.lt
            have OR := Hi (OR.out.below hb OR.out.lt)
            have BL := Hi (bthen hb BL.out (by omega))
            clear hb
            go_wp2_with (refine store_o rfl 59 5 _ _ rfl (d + 1) [.int .i64 0, .int .i64 0, .slice none 0 0, .int .i64 1, .int .i64 te] rfl rfl (by kernel_rfl) (by kernel_rfl) (by kernel_rfl) OR.out (by first | rfl | simp) ?_; intro ws hst hO; have OR := Hi hO; have BL := Hi (hst.below BL.out (by omega)); clear hst hO)
            refine bodyPost_ret (v := .agg (List.toArray [.int .i64 0, .int .i64 0, .slice none 0 0, .int .i64 1, .int .i64 te])) ?_ rfl ?_
            · exact results_c Tryz.results33 _ _ _ [.int .i64 0, .int .i64 0, .slice none 0 0, .int .i64 1, .int .i64 te] _ rfl OR.out.range0 Tryz.underlying59 rfl (by kernel_rfl)
            · rw [show R = .error (1, te) from HRE.out]
              exact ⟨by rfl, by rw [HD0.out]; exact BL.out⟩
          · have HRE := Hi (show rows21 ⟨W, H, top, dp, r, g, b, q⟩ s tb M te at_ (H - (k + 1)) (k + 1) L2 = R by rw [← HRL.out, if_neg hte2])
            have hti : ¬ (te : Int) < (fr0 : Int) + (n : Int) := by omega
            have HK2 := HKH.out
            go_wp2_with fail
            go_roundw
            case rel => exact ⟨k + 1, L2, by have := HKH.out; omega, by go_num, HRE.out, OH.out, OR.out, OO.out, OW.out, HLL.out, HLU.out, BL.out⟩
            case measure => have := HKH.out; simp [intOf]; omega
        have HXW := Hi hlt
        have hdb : dp ≤ 32 := by rcases HWW.out.hd with e | e | e | e | e | e <;> omega
        have hxdb : x * dp ≤ 9600 := Nat.mul_le_mul (show x ≤ 300 by omega) hdb
        obtain ⟨xd, hxd⟩ : ∃ m, x * dp = m := ⟨_, rfl⟩
        rw [hxd] at hxdb
        have exd : (x : Int) * (dp : Int) = (xd : Int) := by rw [← hxd]; exact (Int.natCast_mul x dp).symm
        obtain ⟨xq, hxq⟩ : ∃ m, xd / 8 = m := ⟨_, rfl⟩
        have exq : Int.tdiv (xd : Int) 8 = (xq : Int) := by rw [Int.tdiv_eq_ediv_of_nonneg (by omega), ← hxq]; omega
        obtain ⟨p, hp⟩ : ∃ m, fr0 + xq = m := ⟨_, rfl⟩
        have ep : (fr0 : Int) + (xq : Int) = (p : Int) := by omega
        have hfrb := HFB.out
        have hpb : p ≤ 500000 := by omega
        obtain ⟨z, hz⟩ : ∃ m, wsz dp = m := ⟨_, rfl⟩
        have hzb : z ≤ 4 := by rw [← hz]; unfold wsz; split <;> omega
        have HRL2 := Hi (show (if te < p + z then .error (1, (te : Int)) else bindE (px21 ⟨W, H, top, dp, r, g, b, q⟩ s tb M p x) fun cs => row21 ⟨W, H, top, dp, r, g, b, q⟩ s tb M te fr0 y (W - (x + 1)) (x + 1) (putC L2 (4 * (y * W + x)) cs)) = RW by
          have := HRL2.out
          rw [show W - x = (W - (x + 1)) + 1 by omega, row21] at this
          rw [show wsz (H21.dp ⟨W, H, top, dp, r, g, b, q⟩) = z from hz, show x * (H21.dp ⟨W, H, top, dp, r, g, b, q⟩) = xd from hxd, hxq, hp] at this
          exact this)
        have HXD := Hi (And.intro hxd (And.intro exd hxdb))
        have HZ := Hi hz
        obtain ⟨b8, hb8⟩ : ∃ b, decide ((dp : Int) > 8) = b := ⟨_, rfl⟩
        have c4 := (OH.out.cell 4).trans (show _ = some (.int .i64 (dp : Int)) from rfl)
        clear hp hz hxd
        go_upto_if 59 with (fail)
        have HB8 := Hi hb8
        clear hb8 c1 exd exq ep hxdb hfrb hxq
        go_cut [17] from 60 to 63 (fun cc wx => wx = wr ∧ cc = .int .i64 (z : Int))
        case first =>
          have hb8 := HB8.out
          have hz := HZ.out
          clear HB8 HZ
          cases b8
          · have h1 : ¬ (dp : Int) > 8 := of_decide_eq_false hb8
            obtain rfl : 1 = z := by rw [← hz]; unfold wsz; rw [if_neg (by omega)]
            clear hb8 h1 hz c4
            go_wp2_with fail
            go_meet
            exact ⟨rfl, rfl⟩
          · have h1 : (dp : Int) > 8 := of_decide_eq_true hb8
            have ez : Int.tdiv (dp : Int) 8 = (z : Int) := by rw [Int.tdiv_eq_ediv_of_nonneg (by omega), ← hz]; unfold wsz; rw [if_pos (by omega)]; omega
            clear hb8 h1 hz
            go_wp2_with fail
            go_meet
            exact ⟨rfl, rfl⟩
        case rest =>
          obtain ⟨rfl, rfl⟩ := hcut
          by_cases hte2 : te < p + z
          · have HRE := Hi (show R = .error (1, (te : Int)) by
              have e1 := HRL2.out
              rw [if_pos hte2] at e1
              have e2 := HRL.out
              rw [← e1] at e2
              exact e2.symm)
            have hti : (te : Int) < (p : Int) + (z : Int) := by omega
            go_wp2_with fail
            with_reducible refine (HBD.out _ 1 te).mono ?_
            rintro e wb ⟨rfl, hb⟩
            have lzr := OR.out.lt
            have OR := Hi (OR.out.below hb OR.out.lt)
            have BL := Hi (bthen hb BL.out (by omega))
            clear hb
            go_wp2_with (refine store_o rfl 59 5 _ _ rfl (d + 1) [.int .i64 0, .int .i64 0, .slice none 0 0, .int .i64 1, .int .i64 te] rfl rfl (by kernel_rfl) (by kernel_rfl) (by kernel_rfl) OR.out (by first | rfl | simp) ?_; intro ws hst hO; have OR := Hi hO; have BL := Hi (hst.below BL.out (by omega)); clear hst hO)
            refine bodyPost_ret (v := .agg (List.toArray [.int .i64 0, .int .i64 0, .slice none 0 0, .int .i64 1, .int .i64 te])) ?_ rfl ?_
            · exact results_c Tryz.results33 _ _ _ [.int .i64 0, .int .i64 0, .slice none 0 0, .int .i64 1, .int .i64 te] _ rfl OR.out.range0 Tryz.underlying59 rfl (by kernel_rfl)
            · rw [show R = .error (1, te) from HRE.out]
              exact ⟨by rfl, by rw [HD0.out]; exact BL.out⟩
          have hti : ¬ (te : Int) < (p : Int) + (z : Int) := by omega
          have HRL2 := Hi (show (bindE (px21 ⟨W, H, top, dp, r, g, b, q⟩ s tb M p x) fun cs => row21 ⟨W, H, top, dp, r, g, b, q⟩ s tb M te fr0 y (W - (x + 1)) (x + 1) (putC L2 (4 * (y * W + x)) cs)) = RW by rw [← HRL2.out, if_neg hte2])
          have hz1 : 1 ≤ z := by rw [← HZ.out]; unfold wsz; split <;> omega
          obtain ⟨dC, hdC⟩ : ∃ b, wc.heap.size = b := ⟨_, rfl⟩
          have l1 := OH.out.lt
          have l2 := OR.out.lt
          have l3 := OO.out.lt
          have l4 := (owns_lt OW.out).2
          rw [hdC] at l1 l2 l3 l4
          have OC := Hi (obj1_new wc #[.int .u8 0, .int .u8 0, .int .u8 0, .int .u8 0] 185)
          rw [hdC] at OC
          have OH := Hi (OH.out.alloc (.cells #[.int .u8 0, .int .u8 0, .int .u8 0, .int .u8 0] 185))
          have OR := Hi (OR.out.alloc (.cells #[.int .u8 0, .int .u8 0, .int .u8 0, .int .u8 0] 185))
          have OO := Hi (OO.out.alloc (.cells #[.int .u8 0, .int .u8 0, .int .u8 0, .int .u8 0] 185))
          have OW := Hi (owns_chgw OW.out ((Chg.refl (fun _ => False) _).alloc (.cells #[.int .u8 0, .int .u8 0, .int .u8 0, .int .u8 0] 185)) (fun h => h))
          have BL := Hi (BL.out.alloc (by omega) (.cells #[.int .u8 0, .int .u8 0, .int .u8 0, .int .u8 0] 185))
          go_upto_region 17 with (refine store_o rfl 185 4 _ _ rfl dC [.int .u8 0, .int .u8 0, .int .u8 0, .int .u8 0] rfl rfl (by kernel_rfl) (by kernel_rfl) (by kernel_rfl) OC.out (by first | rfl | simp) ?_; intro ws hst hO; have OC := Hi hO; have OH := Hi (hst.oth OH.out (by omega)); have OR := Hi (hst.oth OR.out (by omega)); have OO := Hi (hst.oth OO.out (by omega)); have OW := Hi (hst.owns OW.out (by omega)); have BL := Hi (hst.below BL.out (by omega)); clear hst hO)
          clear hdC hti c4
          have c4 := (OH.out.cell 4).trans (show _ = some (.int .i64 (dp : Int)) from rfl)
          obtain ⟨l8, hl8⟩ : ∃ b, decide ((dp : Int) ≤ 8) = b := ⟨_, rfl⟩
          have HL8 := Hi hl8
          go_upto_if 73 with (fail)
          clear hl8
          cases hpx : px21 ⟨W, H, top, dp, r, g, b, q⟩ s tb M p x with
          | error e =>
            have hpx := Hi hpx
            have h8 : dp ≤ 8 := by
              have h := hpx.out
              unfold px21 at h
              by_cases h8 : dp ≤ 8
              · exact h8
              · rw [if_neg h8] at h
                split at h <;> cases h
            have hdp8 : dp = 1 ∨ dp = 4 ∨ dp = 8 := by rcases HWW.out.hd with e | e | e | e | e | e <;> omega
            obtain ⟨hxd, exd, hxdb⟩ := HXD.out
            obtain ⟨e8, he8⟩ : ∃ m, 8 - dp = m := ⟨_, rfl⟩
            have ee8 : (8 : Int) - (dp : Int) = (e8 : Int) := by omega
            obtain ⟨xr, hxr⟩ : ∃ m, xd % 8 = m := ⟨_, rfl⟩
            have exr : Int.tmod (xd : Int) 8 = (xr : Int) := by rw [Int.tmod_eq_emod_of_nonneg (by omega), ← hxr]; omega
            have hxre : xr ≤ e8 := by rcases hdp8 with rfl | rfl | rfl <;> omega
            obtain ⟨sh, hsh⟩ : ∃ m, e8 - xr = m := ⟨_, rfl⟩
            have esh : (e8 : Int) - (xr : Int) = (sh : Int) := by omega
            have hsh7 : sh ≤ 7 := by omega
            obtain ⟨pw, hpw⟩ : ∃ m : Nat, 2 ^ sh = m := ⟨_, rfl⟩
            obtain ⟨qw, hqw⟩ : ∃ m : Nat, 2 ^ dp = m := ⟨_, rfl⟩
            have hpw1 : 1 ≤ pw := by rw [← hpw]; exact Nat.one_le_two_pow
            have hqw1 : 1 ≤ qw := by rw [← hqw]; exact Nat.one_le_two_pow
            have HPW_13 := Hi (fun w0 => (power_any (sh : Int) w0 (by omega) (by omega)).mono (R' := fun e w' => e = .returned (.int .i64 (pw : Int)) ∧ w' = w0) fun e w' hh => ⟨by rw [hh.1, Int.toNat_natCast, ← hpw]; simp, hh.2.symm⟩)
            have HPW_17 := Hi (fun w0 => (power_any (dp : Int) w0 (by omega) (by omega)).mono (R' := fun e w' => e = .returned (.int .i64 (qw : Int)) ∧ w' = w0) fun e w' hh => ⟨by rw [hh.1, Int.toNat_natCast, ← hqw]; simp, hh.2.symm⟩)
            have hbd := byN_bd s p
            obtain ⟨bv, hbv⟩ : ∃ m : Nat, byN s p = m := ⟨(byN s p).toNat, by omega⟩
            obtain ⟨bq, hbq⟩ : ∃ m, bv / pw = m := ⟨_, rfl⟩
            obtain ⟨ix, hix⟩ : ∃ m, bq % qw = m := ⟨_, rfl⟩
            have ebq : Int.tdiv (bv : Int) (pw : Int) = (bq : Int) := by rw [Int.tdiv_eq_ediv_of_nonneg (by omega), ← hbq]; simp
            have eix : Int.tmod (bq : Int) (qw : Int) = (ix : Int) := by rw [Int.tmod_eq_emod_of_nonneg (by omega), ← hix]; simp
            have hpw0 : ((pw : Int) == 0) = false := by rw [beq_eq_false_iff_ne]; omega
            have hqw0 : ((qw : Int) == 0) = false := by rw [beq_eq_false_iff_ne]; omega
            have hbv8 : bv ≤ 255 := by omega
            have hbq8 : bq ≤ 255 := by rw [← hbq]; exact Nat.le_trans (Nat.div_le_self _ _) hbv8
            have hix8 : ix ≤ 255 := by rw [← hix]; exact Nat.le_trans (Nat.mod_le _ _) hbq8
            have hps : p < s.size := by omega
            have EIX := Hi (show (ent21 (byN s p) dp x).toNat = ix by
              unfold ent21
              rw [hbv, hxd, hxr, he8, hsh, ← hix, ← hbq, ← hpw, ← hqw]
              have h1 : (bv : Int) / 2 ^ sh % 2 ^ dp = ((bv / 2 ^ sh % 2 ^ dp : Nat) : Int) := by simp
              rw [h1, Int.toNat_natCast])
            clear hxd he8 hxr hsh hpw hqw hbd hbq hix hxre
            have HER := Hi (show M ≤ ix ∧ e = (2, (p : Int)) by
              have h := hpx.out
              unfold px21 at h
              rw [if_pos h8] at h
              rw [show H21.dp ⟨W, H, top, dp, r, g, b, q⟩ = dp from rfl, EIX.out] at h
              by_cases hm : ix < M
              · rw [if_pos hm] at h; cases h
              · rw [if_neg hm] at h; injection h with h; exact ⟨by omega, h.symm⟩)
            obtain ⟨gt, ct, bt, hlv, ht⟩ := HLV.out h8
            subst hlv
            have h8t := HL8.out
            have hl8 : l8 = true := by rw [← h8t]; exact decide_eq_true (by omega)
            subst hl8
            have HRE := Hi (show R = .error (2, (p : Int)) by
              have e1 := HRL2.out
              rw [hpx.out, HER.out.2] at e1
              have e2 := HRL.out
              rw [← e1] at e2
              exact e2.symm)
            clear h8t h8 hdp8
            go_upto_region 18 with (fail)
            refine wp_region_noPanic ?_
            refine wp_region_held_drew (S := fun w' => Chg (fun _ => False) ws w') (by kernel_rfl) (Chg.refl _ _).drew (fun hHeld => ?_)
            refine wpAnyH_take (i := 0) (v := .string s) rfl (by kernel_rfl) (by kernel_rfl) (by kernel_rfl) (fun _ _ _ h => h) (Or.inl ⟨by rfl, fun w hS => by (go_simp) <;> first | rfl | assumption | (intro hh; exfalso; omega) | (exact (i64_wraps _ (by omega) (by omega)).trans (by omega)) | omega⟩) hHeld ?_
            simp only [Act.put, zq1, zq2, zq3, zq4, zq5, zq6]
            refine wpAnyH_take (i := 1) (v := .int .i64 (p : Int)) rfl (by kernel_rfl) (by kernel_rfl) (by kernel_rfl) (fun _ _ _ h => h) (Or.inl ⟨by rfl, fun w hS => by (go_simp) <;> first | rfl | assumption | (intro hh; exfalso; omega) | (exact (i64_wraps _ (by omega) (by omega)).trans (by omega)) | omega⟩) hHeld ?_
            simp only [Act.put, zq1, zq2, zq3, zq4, zq5, zq6]
            refine wpAnyH_take (i := 2) (v := .int .u8 (bv : Int)) rfl (by kernel_rfl) (by kernel_rfl) (by kernel_rfl) (fun _ _ _ h => h) (Or.inl ⟨by rfl, fun w hS => by (go_simp; exact (byN_get s p hps).trans hbv)⟩) hHeld ?_
            simp only [Act.put, zq1, zq2, zq3, zq4, zq5, zq6]
            refine wpAnyH_take (i := 3) (v := .int .i64 (bv : Int)) rfl (by kernel_rfl) (by kernel_rfl) (by kernel_rfl) (fun _ _ _ h => h) (Or.inl ⟨by rfl, fun w hS => by (go_simp) <;> first | rfl | assumption | (intro hh; exfalso; omega) | (exact (i64_wraps _ (by omega) (by omega)).trans (by omega)) | omega⟩) hHeld ?_
            simp only [Act.put, zq1, zq2, zq3, zq4, zq5, zq6]
            refine wpAnyH_take (i := 4) (v := .pointer (some ⟨d, 4, none⟩)) rfl (by kernel_rfl) (by kernel_rfl) (by kernel_rfl) (fun _ _ _ h => h) (Or.inl ⟨by rfl, fun w hS => by (go_simp) <;> first | rfl | assumption | (intro hh; exfalso; omega) | (exact (i64_wraps _ (by omega) (by omega)).trans (by omega)) | omega⟩) hHeld ?_
            simp only [Act.put, zq1, zq2, zq3, zq4, zq5, zq6]
            refine wpAnyH_take (i := 5) (v := .int .i64 (dp : Int)) rfl (by kernel_rfl) (by kernel_rfl) (by kernel_rfl) (fun _ _ _ h => h) (Or.inl ⟨by rfl, fun w hS => by (have hc : w.cell? ⟨d, 4, none⟩ = some (.int .i64 (dp : Int)) := (hS.cell (b := d) (o := 4) OH.out.lt (fun h => h)).trans ((OH.out.cell 4).trans rfl); go_simp)⟩) hHeld ?_
            simp only [Act.put, zq1, zq2, zq3, zq4, zq5, zq6]
            refine wpAnyH_take (i := 6) (v := .int .i64 (e8 : Int)) rfl (by kernel_rfl) (by kernel_rfl) (by kernel_rfl) (fun _ _ _ h => h) (Or.inl ⟨by rfl, fun w hS => by (go_simp; (try rw [IntKind.wrap_i64]); omega)⟩) hHeld ?_
            simp only [Act.put, zq1, zq2, zq3, zq4, zq5, zq6]
            refine wpAnyH_take (i := 7) (v := .int .i64 (x : Int)) rfl (by kernel_rfl) (by kernel_rfl) (by kernel_rfl) (fun _ _ _ h => h) (Or.inl ⟨by rfl, fun w hS => by (go_simp) <;> first | rfl | assumption | (intro hh; exfalso; omega) | (exact (i64_wraps _ (by omega) (by omega)).trans (by omega)) | omega⟩) hHeld ?_
            simp only [Act.put, zq1, zq2, zq3, zq4, zq5, zq6]
            refine wpAnyH_take (i := 8) (v := .pointer (some ⟨d, 4, none⟩)) rfl (by kernel_rfl) (by kernel_rfl) (by kernel_rfl) (fun _ _ _ h => h) (Or.inl ⟨by rfl, fun w hS => by (go_simp) <;> first | rfl | assumption | (intro hh; exfalso; omega) | (exact (i64_wraps _ (by omega) (by omega)).trans (by omega)) | omega⟩) hHeld ?_
            simp only [Act.put, zq1, zq2, zq3, zq4, zq5, zq6]
            refine wpAnyH_take (i := 9) (v := .int .i64 (dp : Int)) rfl (by kernel_rfl) (by kernel_rfl) (by kernel_rfl) (fun _ _ _ h => h) (Or.inl ⟨by rfl, fun w hS => by (have hc : w.cell? ⟨d, 4, none⟩ = some (.int .i64 (dp : Int)) := (hS.cell (b := d) (o := 4) OH.out.lt (fun h => h)).trans ((OH.out.cell 4).trans rfl); go_simp)⟩) hHeld ?_
            simp only [Act.put, zq1, zq2, zq3, zq4, zq5, zq6]
            refine wpAnyH_take (i := 10) (v := .int .i64 (xd : Int)) rfl (by kernel_rfl) (by kernel_rfl) (by kernel_rfl) (fun _ _ _ h => h) (Or.inl ⟨by rfl, fun w hS => by (go_simp; exact i64_wraps _ (by omega) (by omega))⟩) hHeld ?_
            simp only [Act.put, zq1, zq2, zq3, zq4, zq5, zq6]
            refine wpAnyH_take (i := 11) (v := .int .i64 (xr : Int)) rfl (by kernel_rfl) (by kernel_rfl) (by kernel_rfl) (fun _ _ _ h => h) (Or.inl ⟨by rfl, fun w hS => by (go_simp)⟩) hHeld ?_
            simp only [Act.put, zq1, zq2, zq3, zq4, zq5, zq6]
            refine wpAnyH_take (i := 12) (v := .int .i64 (sh : Int)) rfl (by kernel_rfl) (by kernel_rfl) (by kernel_rfl) (fun _ _ _ h => h) (Or.inl ⟨by rfl, fun w hS => by (go_simp; (try rw [IntKind.wrap_i64]); omega)⟩) hHeld ?_
            simp only [Act.put, zq1, zq2, zq3, zq4, zq5, zq6]
            refine wpAnyH_call2 (i := 13) (v := .int .i64 (pw : Int)) rfl (by kernel_rfl) (by kernel_rfl) (by kernel_rfl) (fun _ _ _ h => h) (Or.inr ⟨by rfl, fun wx _ => ⟨40, #[.int .i64 (sh : Int)], by kernel_rfl, HPW_13.out wx⟩⟩) hHeld ?_
            simp only [Act.put, zq1, zq2, zq3, zq4, zq5, zq6]
            refine wpAnyH_take (i := 14) (v := .int .i64 (bq : Int)) rfl (by kernel_rfl) (by kernel_rfl) (by kernel_rfl) (fun _ _ _ h => h) (Or.inl ⟨by rfl, fun w hS => by (go_simp; rw [if_neg (by omega), i64_wraps _ (by omega) (by omega)])⟩) hHeld ?_
            simp only [Act.put, zq1, zq2, zq3, zq4, zq5, zq6]
            refine wpAnyH_take (i := 15) (v := .pointer (some ⟨d, 4, none⟩)) rfl (by kernel_rfl) (by kernel_rfl) (by kernel_rfl) (fun _ _ _ h => h) (Or.inl ⟨by rfl, fun w hS => by (go_simp) <;> first | rfl | assumption | (intro hh; exfalso; omega) | (exact (i64_wraps _ (by omega) (by omega)).trans (by omega)) | omega⟩) hHeld ?_
            simp only [Act.put, zq1, zq2, zq3, zq4, zq5, zq6]
            refine wpAnyH_take (i := 16) (v := .int .i64 (dp : Int)) rfl (by kernel_rfl) (by kernel_rfl) (by kernel_rfl) (fun _ _ _ h => h) (Or.inl ⟨by rfl, fun w hS => by (have hc : w.cell? ⟨d, 4, none⟩ = some (.int .i64 (dp : Int)) := (hS.cell (b := d) (o := 4) OH.out.lt (fun h => h)).trans ((OH.out.cell 4).trans rfl); go_simp)⟩) hHeld ?_
            simp only [Act.put, zq1, zq2, zq3, zq4, zq5, zq6]
            refine wpAnyH_call2 (i := 17) (v := .int .i64 (qw : Int)) rfl (by kernel_rfl) (by kernel_rfl) (by kernel_rfl) (fun _ _ _ h => h) (Or.inr ⟨by rfl, fun wx _ => ⟨40, #[.int .i64 (dp : Int)], by kernel_rfl, HPW_17.out wx⟩⟩) hHeld ?_
            simp only [Act.put, zq1, zq2, zq3, zq4, zq5, zq6]
            refine wpAnyH_take (i := 18) (v := .int .i64 (ix : Int)) rfl (by kernel_rfl) (by kernel_rfl) (by kernel_rfl) (fun _ _ _ h => h) (Or.inl ⟨by rfl, fun w hS => by (go_simp; omega)⟩) hHeld ?_
            simp only [Act.put, zq1, zq2, zq3, zq4, zq5, zq6]
            refine wpAnyH_take (i := 19) (v := .int .i64 (ix : Int)) rfl (by kernel_rfl) (by kernel_rfl) (by kernel_rfl) (fun _ _ _ h => h) (Or.inl ⟨by rfl, fun w hS => by (go_simp) <;> first | rfl | assumption | (intro hh; exfalso; omega) | (exact (i64_wraps _ (by omega) (by omega)).trans (by omega)) | omega⟩) hHeld ?_
            simp only [Act.put, zq1, zq2, zq3, zq4, zq5, zq6]
            have hS := (Chg.refl (fun _ => False) ws).drew
            generalize World.drew _ = wk at hS ⊢
            refine wpAnyH_done (by kernel_rfl) ?_ _
            refine NoPanic.normal ?_
            have lzd := OH.out.lt
            have OH := Hi (hS.obj OH.out (fun h => h))
            have OR := Hi (hS.obj OR.out (fun h => h))
            have OO := Hi (hS.obj OO.out (fun h => h))
            have OC := Hi (hS.obj OC.out (fun h => h))
            have OW := Hi (owns_chgw OW.out hS (fun h => h))
            have lzs := hS.size
            have BL := Hi (BL.out.trans (hS.below (Nat.le_of_lt lzd) (fun _ h => h.elim)))
            clear hS lzd
            clear exd hxdb ee8 exr esh hsh7 ebq eix hpw0 hqw0 hbv8 hbq8 hbv c4
            have hge : (ix : Int) ≥ (M : Int) := by have := HER.out.1; omega
            go_wp2_with fail
            with_reducible refine (HBD.out _ 2 p).mono ?_
            rintro e wb ⟨rfl, hb⟩
            have lzr := OR.out.lt
            have OR := Hi (OR.out.below hb OR.out.lt)
            have BL := Hi (bthen hb BL.out (by omega))
            clear hb
            go_wp2_with (refine store_o rfl 59 5 _ _ rfl (d + 1) [.int .i64 0, .int .i64 0, .slice none 0 0, .int .i64 2, .int .i64 p] rfl rfl (by kernel_rfl) (by kernel_rfl) (by kernel_rfl) OR.out (by first | rfl | simp) ?_; intro ws hst hO; have OR := Hi hO; have BL := Hi (hst.below BL.out (by omega)); clear hst hO)
            refine bodyPost_ret (v := .agg (List.toArray [.int .i64 0, .int .i64 0, .slice none 0 0, .int .i64 2, .int .i64 p])) ?_ rfl ?_
            · exact results_c Tryz.results33 _ _ _ [.int .i64 0, .int .i64 0, .slice none 0 0, .int .i64 2, .int .i64 p] _ rfl OR.out.range0 Tryz.underlying59 rfl (by kernel_rfl)
            · rw [show R = .error (2, p) from HRE.out]
              exact ⟨by rfl, by rw [HD0.out]; exact BL.out⟩
          | ok cs =>
            have hpx := Hi hpx
            obtain ⟨hcl, hca⟩ := px21_len HWW.out.tl HWW.out.ta hpx.out
            have HCL := Hi hcl
            have HCA := Hi (show cs.all (·.oneCell') = true from List.all_eq_true.2 hca)
            have HCA2 := Hi hca
            have HRL2 := Hi (show row21 ⟨W, H, top, dp, r, g, b, q⟩ s tb M te fr0 y (W - (x + 1)) (x + 1) (putC L2 (4 * (y * W + x)) cs) = RW by have := HRL2.out; rw [hpx.out] at this; exact this)
            clear hcl hca c4
            go_cut [19] from 74 to 128 (fun cc wx => Obj1 wx dC cs.toArray 185 ∧ Obj1 wx d (List.toArray [.int .i64 sz, .int .i64 W, .int .i64 H, .bool top, .int .i64 dp, .int .i64 mt, .int .i64 co, .int .i64 r, .int .i64 g, .int .i64 b, .int .i64 q, .int .i64 fr, .int .i64 en, .int .i64 0, .int .i64 0]) 52 ∧ Obj1 wx (d + 1) (List.toArray [.int .i64 0, .int .i64 0, .slice none 0 0, .int .i64 0, .int .i64 0]) 59 ∧ Obj1 wx gO (List.toArray [.int .i64 W, .int .i64 H, .slice (some ⟨gS, 0, none⟩) N N, .int .i64 0, .int .i64 0]) 59 ∧ wx.ownsRow (d + 1 + 1) 185 4 (.slice (some ⟨gS, 0, none⟩) N N) N L2 ∧ Below d w wx)
            case first =>
              by_cases h8 : dp ≤ 8
              · skip
                have hdp8 : dp = 1 ∨ dp = 4 ∨ dp = 8 := by rcases HWW.out.hd with e | e | e | e | e | e <;> omega
                obtain ⟨hxd, exd, hxdb⟩ := HXD.out
                obtain ⟨e8, he8⟩ : ∃ m, 8 - dp = m := ⟨_, rfl⟩
                have ee8 : (8 : Int) - (dp : Int) = (e8 : Int) := by omega
                obtain ⟨xr, hxr⟩ : ∃ m, xd % 8 = m := ⟨_, rfl⟩
                have exr : Int.tmod (xd : Int) 8 = (xr : Int) := by rw [Int.tmod_eq_emod_of_nonneg (by omega), ← hxr]; omega
                have hxre : xr ≤ e8 := by rcases hdp8 with rfl | rfl | rfl <;> omega
                obtain ⟨sh, hsh⟩ : ∃ m, e8 - xr = m := ⟨_, rfl⟩
                have esh : (e8 : Int) - (xr : Int) = (sh : Int) := by omega
                have hsh7 : sh ≤ 7 := by omega
                obtain ⟨pw, hpw⟩ : ∃ m : Nat, 2 ^ sh = m := ⟨_, rfl⟩
                obtain ⟨qw, hqw⟩ : ∃ m : Nat, 2 ^ dp = m := ⟨_, rfl⟩
                have hpw1 : 1 ≤ pw := by rw [← hpw]; exact Nat.one_le_two_pow
                have hqw1 : 1 ≤ qw := by rw [← hqw]; exact Nat.one_le_two_pow
                have HPW_13 := Hi (fun w0 => (power_any (sh : Int) w0 (by omega) (by omega)).mono (R' := fun e w' => e = .returned (.int .i64 (pw : Int)) ∧ w' = w0) fun e w' hh => ⟨by rw [hh.1, Int.toNat_natCast, ← hpw]; simp, hh.2.symm⟩)
                have HPW_17 := Hi (fun w0 => (power_any (dp : Int) w0 (by omega) (by omega)).mono (R' := fun e w' => e = .returned (.int .i64 (qw : Int)) ∧ w' = w0) fun e w' hh => ⟨by rw [hh.1, Int.toNat_natCast, ← hqw]; simp, hh.2.symm⟩)
                have hbd := byN_bd s p
                obtain ⟨bv, hbv⟩ : ∃ m : Nat, byN s p = m := ⟨(byN s p).toNat, by omega⟩
                obtain ⟨bq, hbq⟩ : ∃ m, bv / pw = m := ⟨_, rfl⟩
                obtain ⟨ix, hix⟩ : ∃ m, bq % qw = m := ⟨_, rfl⟩
                have ebq : Int.tdiv (bv : Int) (pw : Int) = (bq : Int) := by rw [Int.tdiv_eq_ediv_of_nonneg (by omega), ← hbq]; simp
                have eix : Int.tmod (bq : Int) (qw : Int) = (ix : Int) := by rw [Int.tmod_eq_emod_of_nonneg (by omega), ← hix]; simp
                have hpw0 : ((pw : Int) == 0) = false := by rw [beq_eq_false_iff_ne]; omega
                have hqw0 : ((qw : Int) == 0) = false := by rw [beq_eq_false_iff_ne]; omega
                have hbv8 : bv ≤ 255 := by omega
                have hbq8 : bq ≤ 255 := by rw [← hbq]; exact Nat.le_trans (Nat.div_le_self _ _) hbv8
                have hix8 : ix ≤ 255 := by rw [← hix]; exact Nat.le_trans (Nat.mod_le _ _) hbq8
                have hps : p < s.size := by omega
                have EIX := Hi (show (ent21 (byN s p) dp x).toNat = ix by
                  unfold ent21
                  rw [hbv, hxd, hxr, he8, hsh, ← hix, ← hbq, ← hpw, ← hqw]
                  have h1 : (bv : Int) / 2 ^ sh % 2 ^ dp = ((bv / 2 ^ sh % 2 ^ dp : Nat) : Int) := by simp
                  rw [h1, Int.toNat_natCast])
                clear hxd he8 hxr hsh hpw hqw hbd hbq hix hxre
                have HER := Hi (show ix < M ∧ pxC tb ix = cs by
                  have h := hpx.out
                  unfold px21 at h
                  rw [if_pos h8] at h
                  rw [show H21.dp ⟨W, H, top, dp, r, g, b, q⟩ = dp from rfl, EIX.out] at h
                  by_cases hm : ix < M
                  · rw [if_pos hm] at h; injection h with h; exact ⟨hm, h⟩
                  · rw [if_neg hm] at h; cases h)
                obtain ⟨gt, ct, bt, hlv, ht⟩ := HLV.out h8
                subst hlv
                have HT := Hi (owns_down ht (show Below d w ws from BL.out) (fun g hg => by
                  have : gt = g := by simpa [Value.ownBlock] using hg
                  have := (owns_lt ht).2
                  have := HD0.out
                  omega))
                have h8t := HL8.out
                have hl8 : l8 = true := by rw [← h8t]; exact decide_eq_true (by omega)
                subst hl8
                clear h8t h8 hdp8 ht
                go_upto_region 18 with (fail)
                refine wp_region_noPanic ?_
                refine wp_region_held_drew (S := fun w' => Chg (fun _ => False) ws w') (by kernel_rfl) (Chg.refl _ _).drew (fun hHeld => ?_)
                refine wpAnyH_take (i := 0) (v := .string s) rfl (by kernel_rfl) (by kernel_rfl) (by kernel_rfl) (fun _ _ _ h => h) (Or.inl ⟨by rfl, fun w hS => by (go_simp) <;> first | rfl | assumption | (intro hh; exfalso; omega) | (exact (i64_wraps _ (by omega) (by omega)).trans (by omega)) | omega⟩) hHeld ?_
                simp only [Act.put, zq1, zq2, zq3, zq4, zq5, zq6]
                refine wpAnyH_take (i := 1) (v := .int .i64 (p : Int)) rfl (by kernel_rfl) (by kernel_rfl) (by kernel_rfl) (fun _ _ _ h => h) (Or.inl ⟨by rfl, fun w hS => by (go_simp) <;> first | rfl | assumption | (intro hh; exfalso; omega) | (exact (i64_wraps _ (by omega) (by omega)).trans (by omega)) | omega⟩) hHeld ?_
                simp only [Act.put, zq1, zq2, zq3, zq4, zq5, zq6]
                refine wpAnyH_take (i := 2) (v := .int .u8 (bv : Int)) rfl (by kernel_rfl) (by kernel_rfl) (by kernel_rfl) (fun _ _ _ h => h) (Or.inl ⟨by rfl, fun w hS => by (go_simp; exact (byN_get s p hps).trans hbv)⟩) hHeld ?_
                simp only [Act.put, zq1, zq2, zq3, zq4, zq5, zq6]
                refine wpAnyH_take (i := 3) (v := .int .i64 (bv : Int)) rfl (by kernel_rfl) (by kernel_rfl) (by kernel_rfl) (fun _ _ _ h => h) (Or.inl ⟨by rfl, fun w hS => by (go_simp) <;> first | rfl | assumption | (intro hh; exfalso; omega) | (exact (i64_wraps _ (by omega) (by omega)).trans (by omega)) | omega⟩) hHeld ?_
                simp only [Act.put, zq1, zq2, zq3, zq4, zq5, zq6]
                refine wpAnyH_take (i := 4) (v := .pointer (some ⟨d, 4, none⟩)) rfl (by kernel_rfl) (by kernel_rfl) (by kernel_rfl) (fun _ _ _ h => h) (Or.inl ⟨by rfl, fun w hS => by (go_simp) <;> first | rfl | assumption | (intro hh; exfalso; omega) | (exact (i64_wraps _ (by omega) (by omega)).trans (by omega)) | omega⟩) hHeld ?_
                simp only [Act.put, zq1, zq2, zq3, zq4, zq5, zq6]
                refine wpAnyH_take (i := 5) (v := .int .i64 (dp : Int)) rfl (by kernel_rfl) (by kernel_rfl) (by kernel_rfl) (fun _ _ _ h => h) (Or.inl ⟨by rfl, fun w hS => by (have hc : w.cell? ⟨d, 4, none⟩ = some (.int .i64 (dp : Int)) := (hS.cell (b := d) (o := 4) OH.out.lt (fun h => h)).trans ((OH.out.cell 4).trans rfl); go_simp)⟩) hHeld ?_
                simp only [Act.put, zq1, zq2, zq3, zq4, zq5, zq6]
                refine wpAnyH_take (i := 6) (v := .int .i64 (e8 : Int)) rfl (by kernel_rfl) (by kernel_rfl) (by kernel_rfl) (fun _ _ _ h => h) (Or.inl ⟨by rfl, fun w hS => by (go_simp; (try rw [IntKind.wrap_i64]); omega)⟩) hHeld ?_
                simp only [Act.put, zq1, zq2, zq3, zq4, zq5, zq6]
                refine wpAnyH_take (i := 7) (v := .int .i64 (x : Int)) rfl (by kernel_rfl) (by kernel_rfl) (by kernel_rfl) (fun _ _ _ h => h) (Or.inl ⟨by rfl, fun w hS => by (go_simp) <;> first | rfl | assumption | (intro hh; exfalso; omega) | (exact (i64_wraps _ (by omega) (by omega)).trans (by omega)) | omega⟩) hHeld ?_
                simp only [Act.put, zq1, zq2, zq3, zq4, zq5, zq6]
                refine wpAnyH_take (i := 8) (v := .pointer (some ⟨d, 4, none⟩)) rfl (by kernel_rfl) (by kernel_rfl) (by kernel_rfl) (fun _ _ _ h => h) (Or.inl ⟨by rfl, fun w hS => by (go_simp) <;> first | rfl | assumption | (intro hh; exfalso; omega) | (exact (i64_wraps _ (by omega) (by omega)).trans (by omega)) | omega⟩) hHeld ?_
                simp only [Act.put, zq1, zq2, zq3, zq4, zq5, zq6]
                refine wpAnyH_take (i := 9) (v := .int .i64 (dp : Int)) rfl (by kernel_rfl) (by kernel_rfl) (by kernel_rfl) (fun _ _ _ h => h) (Or.inl ⟨by rfl, fun w hS => by (have hc : w.cell? ⟨d, 4, none⟩ = some (.int .i64 (dp : Int)) := (hS.cell (b := d) (o := 4) OH.out.lt (fun h => h)).trans ((OH.out.cell 4).trans rfl); go_simp)⟩) hHeld ?_
                simp only [Act.put, zq1, zq2, zq3, zq4, zq5, zq6]
                refine wpAnyH_take (i := 10) (v := .int .i64 (xd : Int)) rfl (by kernel_rfl) (by kernel_rfl) (by kernel_rfl) (fun _ _ _ h => h) (Or.inl ⟨by rfl, fun w hS => by (go_simp; exact i64_wraps _ (by omega) (by omega))⟩) hHeld ?_
                simp only [Act.put, zq1, zq2, zq3, zq4, zq5, zq6]
                refine wpAnyH_take (i := 11) (v := .int .i64 (xr : Int)) rfl (by kernel_rfl) (by kernel_rfl) (by kernel_rfl) (fun _ _ _ h => h) (Or.inl ⟨by rfl, fun w hS => by (go_simp)⟩) hHeld ?_
                simp only [Act.put, zq1, zq2, zq3, zq4, zq5, zq6]
                refine wpAnyH_take (i := 12) (v := .int .i64 (sh : Int)) rfl (by kernel_rfl) (by kernel_rfl) (by kernel_rfl) (fun _ _ _ h => h) (Or.inl ⟨by rfl, fun w hS => by (go_simp; (try rw [IntKind.wrap_i64]); omega)⟩) hHeld ?_
                simp only [Act.put, zq1, zq2, zq3, zq4, zq5, zq6]
                refine wpAnyH_call2 (i := 13) (v := .int .i64 (pw : Int)) rfl (by kernel_rfl) (by kernel_rfl) (by kernel_rfl) (fun _ _ _ h => h) (Or.inr ⟨by rfl, fun wx _ => ⟨40, #[.int .i64 (sh : Int)], by kernel_rfl, HPW_13.out wx⟩⟩) hHeld ?_
                simp only [Act.put, zq1, zq2, zq3, zq4, zq5, zq6]
                refine wpAnyH_take (i := 14) (v := .int .i64 (bq : Int)) rfl (by kernel_rfl) (by kernel_rfl) (by kernel_rfl) (fun _ _ _ h => h) (Or.inl ⟨by rfl, fun w hS => by (go_simp; rw [if_neg (by omega), i64_wraps _ (by omega) (by omega)])⟩) hHeld ?_
                simp only [Act.put, zq1, zq2, zq3, zq4, zq5, zq6]
                refine wpAnyH_take (i := 15) (v := .pointer (some ⟨d, 4, none⟩)) rfl (by kernel_rfl) (by kernel_rfl) (by kernel_rfl) (fun _ _ _ h => h) (Or.inl ⟨by rfl, fun w hS => by (go_simp) <;> first | rfl | assumption | (intro hh; exfalso; omega) | (exact (i64_wraps _ (by omega) (by omega)).trans (by omega)) | omega⟩) hHeld ?_
                simp only [Act.put, zq1, zq2, zq3, zq4, zq5, zq6]
                refine wpAnyH_take (i := 16) (v := .int .i64 (dp : Int)) rfl (by kernel_rfl) (by kernel_rfl) (by kernel_rfl) (fun _ _ _ h => h) (Or.inl ⟨by rfl, fun w hS => by (have hc : w.cell? ⟨d, 4, none⟩ = some (.int .i64 (dp : Int)) := (hS.cell (b := d) (o := 4) OH.out.lt (fun h => h)).trans ((OH.out.cell 4).trans rfl); go_simp)⟩) hHeld ?_
                simp only [Act.put, zq1, zq2, zq3, zq4, zq5, zq6]
                refine wpAnyH_call2 (i := 17) (v := .int .i64 (qw : Int)) rfl (by kernel_rfl) (by kernel_rfl) (by kernel_rfl) (fun _ _ _ h => h) (Or.inr ⟨by rfl, fun wx _ => ⟨40, #[.int .i64 (dp : Int)], by kernel_rfl, HPW_17.out wx⟩⟩) hHeld ?_
                simp only [Act.put, zq1, zq2, zq3, zq4, zq5, zq6]
                refine wpAnyH_take (i := 18) (v := .int .i64 (ix : Int)) rfl (by kernel_rfl) (by kernel_rfl) (by kernel_rfl) (fun _ _ _ h => h) (Or.inl ⟨by rfl, fun w hS => by (go_simp; omega)⟩) hHeld ?_
                simp only [Act.put, zq1, zq2, zq3, zq4, zq5, zq6]
                refine wpAnyH_take (i := 19) (v := .int .i64 (ix : Int)) rfl (by kernel_rfl) (by kernel_rfl) (by kernel_rfl) (fun _ _ _ h => h) (Or.inl ⟨by rfl, fun w hS => by (go_simp) <;> first | rfl | assumption | (intro hh; exfalso; omega) | (exact (i64_wraps _ (by omega) (by omega)).trans (by omega)) | omega⟩) hHeld ?_
                simp only [Act.put, zq1, zq2, zq3, zq4, zq5, zq6]
                have hS := (Chg.refl (fun _ => False) ws).drew
                generalize World.drew _ = wk at hS ⊢
                refine wpAnyH_done (by kernel_rfl) ?_ _
                refine NoPanic.normal ?_
                have lzd := OH.out.lt
                have OH := Hi (hS.obj OH.out (fun h => h))
                have OR := Hi (hS.obj OR.out (fun h => h))
                have OO := Hi (hS.obj OO.out (fun h => h))
                have OC := Hi (hS.obj OC.out (fun h => h))
                have OW := Hi (owns_chgw OW.out hS (fun h => h))
                have lzs := hS.size
                have BL := Hi (BL.out.trans (hS.below (Nat.le_of_lt lzd) (fun _ h => h.elim)))
                have HT := Hi (owns_chgw HT.out hS (fun h => h))
                clear hS lzd
                clear exd hxdb ee8 exr esh hsh7 ebq eix hpw0 hqw0 hbv8 hbq8 hbv
                have hge : ¬ (ix : Int) ≥ (M : Int) := by have := HER.out.1; omega
                have hixM : ix < M := HER.out.1
                have hRG : wk.rangeAt gt (ix * 4) cs := by
                  rw [Nat.mul_comm]
                  have h1 := owns_range HT.out
                  have h2 := range_part h1 (4 * ix) cs (fun j v hv => by
                    rw [← HER.out.2] at hv
                    unfold pxC at hv
                    rw [List.getElem?_take] at hv
                    split at hv
                    · rw [List.getElem?_drop] at hv; exact hv
                    · cases hv)
                  rw [Nat.zero_add] at h2
                  exact h2
                have HRG := Hi hRG
                clear hRG
                go_upto_region 21 with (fail)
                go_wp2_with (first
                  | (refine load_rg (by kernel_rfl) 185 _ rfl gt (ix * 4) cs (by kernel_rfl) HRG.out Tryz.underlying185 rfl (by rw [HCL.out]; kernel_rfl) ?_; intro _)
                  | (refine store_o rfl 185 4 _ _ rfl dC cs HCL.out HCA.out (by kernel_rfl) (by kernel_rfl) (by kernel_rfl) OC.out (by first | rfl | simp) ?_; intro ws2 hst hO; have OC := Hi hO; have OH := Hi (hst.oth OH.out (by omega)); have OR := Hi (hst.oth OR.out (by omega)); have OO := Hi (hst.oth OO.out (by omega)); have OW := Hi (hst.owns OW.out (by omega)); have BL := Hi (hst.below BL.out (by omega)); clear hst hO))
                go_meet
                exact ⟨OC.out, OH.out, OR.out, OO.out, OW.out, BL.out⟩
              · have h8t := HL8.out
                have hl8 : l8 = false := by rw [← h8t]; exact decide_eq_false (by omega)
                subst hl8
                clear h8t
                by_cases h24 : dp = 24
                · have hb24 : ((dp : Int) == 24) = true := by rw [h24]; rfl
                  have hz3 : z = 3 := by rw [← HZ.out, h24]; rfl
                  have h3t : p + 3 ≤ s.size := by omega
                  have hz' : (s.extract p (p + 3)).size = 3 := by rw [ByteArray.size_extract]; omega
                  have HE := Hi (fun w0 => (show Calls Tryz.prog 104 #[.string (s.extract p (p + 3)), .int .i64 3] w0 fun e w' => e = .returned (.agg cs.toArray) ∧ Below w0.heap.size w0 w' from by
                    have h := entry10_any (s.extract p (p + 3)) 3 w0 (by omega) (Or.inl rfl)
                    have hc := hpx.out
                    unfold px21 at hc
                    rw [if_neg h8, if_pos h24] at hc
                    injection hc with hc
                    unfold entC RA at h
                    rw [byN_ext s p (p + 3) 0 (by omega) h3t, byN_ext s p (p + 3) 1 (by omega) h3t, byN_ext s p (p + 3) 2 (by omega) h3t, show p + 0 = p from rfl, hc] at h
                    exact h))
                  have hpI : (p : Int) + 3 ≤ (s.size : Int) := by omega
                  have c4 := (OH.out.cell 4).trans (show _ = some (.int .i64 (dp : Int)) from rfl)
                  clear h24 hz3 hz' h8
                  go_wp2_with fail
                  with_reducible refine (HE.out _).mono ?_
                  rintro e w6 ⟨rfl, hb⟩
                  have lzr := OC.out.lt
                  clear c4
                  have OH := Hi (OH.out.below hb OH.out.lt)
                  have OR := Hi (OR.out.below hb OR.out.lt)
                  have OO := Hi (OO.out.below hb OO.out.lt)
                  have OC := Hi (OC.out.below hb OC.out.lt)
                  have OW := Hi (owns_blw (B := d) OW.out hb)
                  have BL := Hi (bthen hb BL.out (by omega))
                  clear hb
                  go_wp2_with (refine store_o rfl 185 4 _ _ rfl dC cs HCL.out HCA.out (by kernel_rfl) (by kernel_rfl) (by kernel_rfl) OC.out (by first | rfl | simp) ?_; intro ws2 hst hO; have OC := Hi hO; have OH := Hi (hst.oth OH.out (by omega)); have OR := Hi (hst.oth OR.out (by omega)); have OO := Hi (hst.oth OO.out (by omega)); have OW := Hi (hst.owns OW.out (by omega)); have BL := Hi (hst.below BL.out (by omega)); clear hst hO)
                  go_meet
                  exact ⟨OC.out, OH.out, OR.out, OO.out, OW.out, BL.out⟩
                · have hb24 : ((dp : Int) == 24) = false := by rw [beq_eq_false_iff_ne]; omega
                  have hdw : dp = 16 ∨ dp = 32 := by rcases HWW.out.hd with e | e | e | e | e | e <;> omega
                  have hzz : z = dp / 8 := by rw [← HZ.out]; unfold wsz; rw [if_pos (by omega)]
                  obtain ⟨e9, he9⟩ : ∃ m, p + z = m := ⟨_, rfl⟩
                  have ee9 : (p : Int) + (z : Int) = (e9 : Int) := by omega
                  have he9s : e9 ≤ s.size := by omega
                  have HE9 := Hi ee9
                  have hpe9 : p ≤ e9 := by omega
                  obtain ⟨V, hV⟩ : ∃ V, lowK s p (dp / 8) = V := ⟨_, rfl⟩
                  have HLE := Hi (fun w0 => le_loww s p e9 z V w0 he9.symm hzb he9s (by rw [hzz]; exact hV))
                  have HCO := Hi (fun w0 => (show Calls Tryz.prog 105 #[.int .i64 V, .int .i64 r, .int .i64 g, .int .i64 b, .int .i64 q] w0 fun e w' => e = .returned (.agg cs.toArray) ∧ Below w0.heap.size w0 w' from by
                    have h := rcolor_any V r g b q w0 HWW.out.hr.1 HWW.out.hr.2 HWW.out.hg.1 HWW.out.hg.2 HWW.out.hb.1 HWW.out.hb.2 HWW.out.hq.1 HWW.out.hq.2
                    have hc := hpx.out
                    unfold px21 at hc
                    rw [if_neg h8, if_neg h24] at hc
                    injection hc with hc
                    have hc : colR (lowK s p (dp / 8)) r g b q = cs := hc
                    rw [hV] at hc
                    rw [← hc]
                    exact h))
                  have c4 := (OH.out.cell 4).trans (show _ = some (.int .i64 (dp : Int)) from rfl)
                  have ldC := OC.out.lt
                  clear h24 h8 hdw hV hzz he9 ee9
                  go_upto_region 24 with (fail)
                  clear c4
                  have ee9 := HE9.out
                  refine wp_region_noPanic ?_
                  refine wp_region_held_drew (S := fun w' => Chg (fun k => k = dC) ws w') (by kernel_rfl) (Chg.refl _ _).drew (fun hHeld => ?_)
                  refine wpAnyH_take (i := 0) (v := .string s) rfl (by kernel_rfl) (by kernel_rfl) (by kernel_rfl) (fun _ _ _ h => h) (Or.inl ⟨by rfl, fun w hS => by (go_simp) <;> first | rfl | assumption | (intro hh; exfalso; omega) | (exact (i64_wraps _ (by omega) (by omega)).trans (by omega)) | omega⟩) hHeld ?_
                  simp only [Act.put, zq1, zq2, zq3, zq4, zq5, zq6]
                  refine wpAnyH_take (i := 1) (v := .int .i64 (p : Int)) rfl (by kernel_rfl) (by kernel_rfl) (by kernel_rfl) (fun _ _ _ h => h) (Or.inl ⟨by rfl, fun w hS => by (go_simp) <;> first | rfl | assumption | (intro hh; exfalso; omega) | (exact (i64_wraps _ (by omega) (by omega)).trans (by omega)) | omega⟩) hHeld ?_
                  simp only [Act.put, zq1, zq2, zq3, zq4, zq5, zq6]
                  refine wpAnyH_take (i := 2) (v := .int .i64 (p : Int)) rfl (by kernel_rfl) (by kernel_rfl) (by kernel_rfl) (fun _ _ _ h => h) (Or.inl ⟨by rfl, fun w hS => by (go_simp) <;> first | rfl | assumption | (intro hh; exfalso; omega) | (exact (i64_wraps _ (by omega) (by omega)).trans (by omega)) | omega⟩) hHeld ?_
                  simp only [Act.put, zq1, zq2, zq3, zq4, zq5, zq6]
                  refine wpAnyH_take (i := 3) (v := .int .i64 (z : Int)) rfl (by kernel_rfl) (by kernel_rfl) (by kernel_rfl) (fun _ _ _ h => h) (Or.inl ⟨by rfl, fun w hS => by (go_simp) <;> first | rfl | assumption | (intro hh; exfalso; omega) | (exact (i64_wraps _ (by omega) (by omega)).trans (by omega)) | omega⟩) hHeld ?_
                  simp only [Act.put, zq1, zq2, zq3, zq4, zq5, zq6]
                  refine wpAnyH_take (i := 4) (v := .int .i64 (e9 : Int)) rfl (by kernel_rfl) (by kernel_rfl) (by kernel_rfl) (fun _ _ _ h => h) (Or.inl ⟨by rfl, fun w hS => by (go_simp; (try rw [IntKind.wrap_i64]); omega)⟩) hHeld ?_
                  simp only [Act.put, zq1, zq2, zq3, zq4, zq5, zq6]
                  refine wpAnyH_take (i := 5) (v := .string ((s.extract p e9))) rfl (by kernel_rfl) (by kernel_rfl) (by kernel_rfl) (fun _ _ _ h => h) (Or.inl ⟨by rfl, fun w hS => by (go_simp) <;> first | rfl | assumption | (intro hh; exfalso; omega) | (exact (i64_wraps _ (by omega) (by omega)).trans (by omega)) | omega⟩) hHeld ?_
                  simp only [Act.put, zq1, zq2, zq3, zq4, zq5, zq6]
                  refine wpAnyH_call2 (i := 6) (v := .int .i64 V) rfl (by kernel_rfl) (by kernel_rfl) (by kernel_rfl) (fun _ _ _ h => h) (Or.inr ⟨by rfl, fun wx _ => ⟨86, #[.string (s.extract p e9)], by kernel_rfl, HLE.out wx⟩⟩) hHeld ?_
                  simp only [Act.put, zq1, zq2, zq3, zq4, zq5, zq6]
                  refine wpAnyH_take (i := 7) (v := .pointer (some ⟨d, 7, none⟩)) rfl (by kernel_rfl) (by kernel_rfl) (by kernel_rfl) (fun _ _ _ h => h) (Or.inl ⟨by rfl, fun w hS => by (go_simp) <;> first | rfl | assumption | (intro hh; exfalso; omega) | (exact (i64_wraps _ (by omega) (by omega)).trans (by omega)) | omega⟩) hHeld ?_
                  simp only [Act.put, zq1, zq2, zq3, zq4, zq5, zq6]
                  refine wpAnyH_take (i := 8) (v := .int .i64 r) rfl (by kernel_rfl) (by kernel_rfl) (by kernel_rfl) (fun _ _ _ h => h) (Or.inl ⟨by rfl, fun w hS => by (have hc : w.cell? ⟨d, 7, none⟩ = some (.int .i64 r) := (hS.cell (b := d) (o := 7) OH.out.lt (show ¬ d = dC by omega)).trans ((OH.out.cell 7).trans rfl); go_simp)⟩) hHeld ?_
                  simp only [Act.put, zq1, zq2, zq3, zq4, zq5, zq6]
                  refine wpAnyH_take (i := 9) (v := .pointer (some ⟨d, 8, none⟩)) rfl (by kernel_rfl) (by kernel_rfl) (by kernel_rfl) (fun _ _ _ h => h) (Or.inl ⟨by rfl, fun w hS => by (go_simp) <;> first | rfl | assumption | (intro hh; exfalso; omega) | (exact (i64_wraps _ (by omega) (by omega)).trans (by omega)) | omega⟩) hHeld ?_
                  simp only [Act.put, zq1, zq2, zq3, zq4, zq5, zq6]
                  refine wpAnyH_take (i := 10) (v := .int .i64 g) rfl (by kernel_rfl) (by kernel_rfl) (by kernel_rfl) (fun _ _ _ h => h) (Or.inl ⟨by rfl, fun w hS => by (have hc : w.cell? ⟨d, 8, none⟩ = some (.int .i64 g) := (hS.cell (b := d) (o := 8) OH.out.lt (show ¬ d = dC by omega)).trans ((OH.out.cell 8).trans rfl); go_simp)⟩) hHeld ?_
                  simp only [Act.put, zq1, zq2, zq3, zq4, zq5, zq6]
                  refine wpAnyH_take (i := 11) (v := .pointer (some ⟨d, 9, none⟩)) rfl (by kernel_rfl) (by kernel_rfl) (by kernel_rfl) (fun _ _ _ h => h) (Or.inl ⟨by rfl, fun w hS => by (go_simp) <;> first | rfl | assumption | (intro hh; exfalso; omega) | (exact (i64_wraps _ (by omega) (by omega)).trans (by omega)) | omega⟩) hHeld ?_
                  simp only [Act.put, zq1, zq2, zq3, zq4, zq5, zq6]
                  refine wpAnyH_take (i := 12) (v := .int .i64 b) rfl (by kernel_rfl) (by kernel_rfl) (by kernel_rfl) (fun _ _ _ h => h) (Or.inl ⟨by rfl, fun w hS => by (have hc : w.cell? ⟨d, 9, none⟩ = some (.int .i64 b) := (hS.cell (b := d) (o := 9) OH.out.lt (show ¬ d = dC by omega)).trans ((OH.out.cell 9).trans rfl); go_simp)⟩) hHeld ?_
                  simp only [Act.put, zq1, zq2, zq3, zq4, zq5, zq6]
                  refine wpAnyH_take (i := 13) (v := .pointer (some ⟨d, 10, none⟩)) rfl (by kernel_rfl) (by kernel_rfl) (by kernel_rfl) (fun _ _ _ h => h) (Or.inl ⟨by rfl, fun w hS => by (go_simp) <;> first | rfl | assumption | (intro hh; exfalso; omega) | (exact (i64_wraps _ (by omega) (by omega)).trans (by omega)) | omega⟩) hHeld ?_
                  simp only [Act.put, zq1, zq2, zq3, zq4, zq5, zq6]
                  refine wpAnyH_take (i := 14) (v := .int .i64 q) rfl (by kernel_rfl) (by kernel_rfl) (by kernel_rfl) (fun _ _ _ h => h) (Or.inl ⟨by rfl, fun w hS => by (have hc : w.cell? ⟨d, 10, none⟩ = some (.int .i64 q) := (hS.cell (b := d) (o := 10) OH.out.lt (show ¬ d = dC by omega)).trans ((OH.out.cell 10).trans rfl); go_simp)⟩) hHeld ?_
                  simp only [Act.put, zq1, zq2, zq3, zq4, zq5, zq6]
                  clear ee9
                  have hS := (Chg.refl (fun k => k = dC) ws).drew
                  have hF := (Chg.refl (fun _ => False) ws).drew
                  generalize World.drew _ = wk at hS hF ⊢
                  have OH := Hi (hF.obj OH.out (fun h => h))
                  have OR := Hi (hF.obj OR.out (fun h => h))
                  have OO := Hi (hF.obj OO.out (fun h => h))
                  have OC := Hi (hF.obj OC.out (fun h => h))
                  have OW := Hi (owns_chgw OW.out hF (fun h => h))
                  have BL := Hi (BL.out.trans (hF.below (by omega) (fun _ h => h.elim)))
                  refine wpAnyH_ready (rs := [15]) (by kernel_rfl) (by simp) ?_
                  refine AllReadyH.cons (o := _) rfl (fun K' hK => ?_) AllReadyH.nil
                  go_simp
                  with_reducible refine (HCO.out _).mono ?_
                  rintro e6 w6 ⟨rfl, hb⟩
                  have hS := hS.trans (chg_of_below hb _)
                  have lzr := OC.out.lt
                  have OH := Hi (OH.out.below hb OH.out.lt)
                  have OR := Hi (OR.out.below hb OR.out.lt)
                  have OO := Hi (OO.out.below hb OO.out.lt)
                  have OC := Hi (OC.out.below hb OC.out.lt)
                  have OW := Hi (owns_blw (B := d) OW.out hb)
                  have BL := Hi (bthen hb BL.out (by omega))
                  clear hb
                  go_wp2_with fail
                  refine hK _ _ hS (fun hH2 => ?_)
                  clear hK K'
                  try simp only [Act.put, zq1, zq2, zq3, zq4, zq5, zq6]
                  refine wpAnyH_ready (rs := [16]) (by kernel_rfl) (by simp) ?_
                  refine AllReadyH.cons (o := _) rfl (fun K' hK => ?_) AllReadyH.nil
                  rw [if_pos (by rfl)]
                  refine wp_store_mid 185 _ _ rfl dC 0 cs.toArray rfl rfl (by have := OC.out.there 0 4 (by simp); simpa [HCL.out] using this) (by rw [List.size_toArray, HCL.out]; kernel_rfl) (by have := HCA.out; simpa using this) ?_
                  simp only [Act.put, zq1, zq2, zq3, zq4, zq5, zq6]
                  have hst : Stored w6 dC 0 cs (w6.setCells dC 0 cs) := rfl
                  have OC := Hi (hst.whole OC.out (by rw [HCL.out]; rfl))
                  have OH := Hi (hst.oth OH.out (by omega))
                  have OR := Hi (hst.oth OR.out (by omega))
                  have OO := Hi (hst.oth OO.out (by omega))
                  have OW := Hi (hst.owns OW.out (by omega))
                  have BL := Hi (hst.below BL.out (by omega))
                  have hS := Stored.chgS hst hS (Or.inl rfl)
                  generalize World.setCells _ _ _ _ = w7 at OC OH OR OO OW BL hS ⊢
                  clear hst
                  refine hK _ _ hS (fun hH3 => ?_)
                  clear hK K'
                  refine wpAnyH_done (by kernel_rfl) ?_ _
                  refine NoPanic.normal ?_
                  go_wp2_with fail
                  go_meet
                  exact ⟨OC.out, OH.out, OR.out, OO.out, OW.out, BL.out⟩
            case rest =>
              obtain ⟨hoc, hoh, hor, hoo, how, hbl⟩ := hcut
              have OC := Hi hoc
              have OH := Hi hoh
              have OR := Hi hor
              have OO := Hi hoo
              have OW := Hi how
              have BL := Hi hbl
              have l5 := hoc.lt
              have l6 := (owns_lt how).2
              have l7 := hoo.lt
              have l8d := hoh.lt
              clear hoc hoh hor hoo how hbl
              have HRO := Hi (fun w0 => (show Calls Tryz.prog 106 #[.agg (List.toArray [.int .i64 sz, .int .i64 W, .int .i64 H, .bool top, .int .i64 dp, .int .i64 mt, .int .i64 co, .int .i64 r, .int .i64 g, .int .i64 b, .int .i64 q, .int .i64 fr, .int .i64 en, .int .i64 0, .int .i64 0]), .int .i64 k] w0 fun e w' => e = .returned (.int .i64 (y : Int)) ∧ Below w0.heap.size w0 w' from by
                have h := row21_any sz W H top (dp : Int) mt co r g b q fr en k w0 HKH.out (by omega)
                rw [HYK.out] at h
                exact h))
              obtain ⟨yw, hyw⟩ : ∃ m, y * W = m := ⟨_, rfl⟩
              have eyw : (y : Int) * (W : Int) = (yw : Int) := by rw [← hyw]; exact (Int.natCast_mul y W).symm
              obtain ⟨ps, hps⟩ : ∃ m, yw + x = m := ⟨_, rfl⟩
              have eps : (yw : Int) + (x : Int) = (ps : Int) := by omega
              have hpsN : ps < W * H := by
                have hm : (y + 1) * W ≤ H * W := Nat.mul_le_mul_right _ HYH.out
                rw [Nat.add_mul, Nat.one_mul, hyw, Nat.mul_comm H W] at hm
                have := HXW.out
                omega
              have hpsN2 : ps < N := by rw [HN.out]; exact hpsN
              have hywb : yw ≤ 90000 := by omega
              have HPS := Hi (show putC L2 (4 * (y * W + x)) cs = putC L2 (ps * 4) cs by rw [hyw, hps, Nat.mul_comm])
              clear hyw hps
              go_upto_region 25 with (fail)
              refine wp_region_noPanic ?_
              refine wp_region_held_drew (S := fun w' => Chg (fun k => k = gS) wc w') (by kernel_rfl) (Chg.refl _ _).drew (fun hHeld => ?_)
              refine wpAnyH_take (i := 0) (v := .pointer (some ⟨gO, 2, none⟩)) rfl (by kernel_rfl) (by kernel_rfl) (by kernel_rfl) (fun _ _ _ h => h) (Or.inl ⟨by rfl, fun w hS => by (go_simp) <;> first | rfl | assumption | (intro hh; exfalso; omega) | (exact (i64_wraps _ (by omega) (by omega)).trans (by omega)) | omega⟩) hHeld ?_
              simp only [Act.put, zq1, zq2, zq3, zq4, zq5, zq6]
              refine wpAnyH_take (i := 1) (v := .slice (some ⟨gS, 0, none⟩) N N) rfl (by kernel_rfl) (by kernel_rfl) (by kernel_rfl) (fun _ _ _ h => h) (Or.inl ⟨by rfl, fun w hS => by (have hc : w.cell? ⟨gO, 2, none⟩ = some (.slice (some ⟨gS, 0, none⟩) N N) := (hS.cell (b := gO) (o := 2) OO.out.lt (show ¬ gO = gS by omega)).trans ((OO.out.cell 2).trans rfl); go_simp)⟩) hHeld ?_
              simp only [Act.put, zq1, zq2, zq3, zq4, zq5, zq6]
              refine wpAnyH_take (i := 2) (v := .agg (List.toArray ([.int .i64 sz, .int .i64 W, .int .i64 H, .bool top, .int .i64 dp, .int .i64 mt, .int .i64 co, .int .i64 r, .int .i64 g, .int .i64 b, .int .i64 q, .int .i64 fr, .int .i64 en, .int .i64 0, .int .i64 0]))) rfl (by kernel_rfl) (by kernel_rfl) (by kernel_rfl) (fun _ _ _ h => h) (yieldsIf_load_mid (by rfl) 52 _ rfl (d) (0) rfl ([.int .i64 sz, .int .i64 W, .int .i64 H, .bool top, .int .i64 dp, .int .i64 mt, .int .i64 co, .int .i64 r, .int .i64 g, .int .i64 b, .int .i64 q, .int .i64 fr, .int .i64 en, .int .i64 0, .int .i64 0]) _ (fun w hS => range_chgw OH.out.range0 hS OH.out.lt (show ¬ d = gS by omega)) Tryz.underlying52 rfl (by kernel_rfl)) hHeld ?_
              simp only [Act.put, zq1, zq2, zq3, zq4, zq5, zq6]
              refine wpAnyH_take (i := 3) (v := .int .i64 (k : Int)) rfl (by kernel_rfl) (by kernel_rfl) (by kernel_rfl) (fun _ _ _ h => h) (Or.inl ⟨by rfl, fun w hS => by (go_simp) <;> first | rfl | assumption | (intro hh; exfalso; omega) | (exact (i64_wraps _ (by omega) (by omega)).trans (by omega)) | omega⟩) hHeld ?_
              simp only [Act.put, zq1, zq2, zq3, zq4, zq5, zq6]
              refine wpAnyH_take (i := 5) (v := .pointer (some ⟨d, 1, none⟩)) rfl (by kernel_rfl) (by kernel_rfl) (by kernel_rfl) (fun _ _ _ h => h) (Or.inl ⟨by rfl, fun w hS => by (go_simp) <;> first | rfl | assumption | (intro hh; exfalso; omega) | (exact (i64_wraps _ (by omega) (by omega)).trans (by omega)) | omega⟩) hHeld ?_
              simp only [Act.put, zq1, zq2, zq3, zq4, zq5, zq6]
              refine wpAnyH_take (i := 6) (v := .int .i64 (W : Int)) rfl (by kernel_rfl) (by kernel_rfl) (by kernel_rfl) (fun _ _ _ h => h) (Or.inl ⟨by rfl, fun w hS => by (have hc : w.cell? ⟨d, 1, none⟩ = some (.int .i64 (W : Int)) := (hS.cell (b := d) (o := 1) OH.out.lt (show ¬ d = gS by omega)).trans ((OH.out.cell 1).trans rfl); go_simp)⟩) hHeld ?_
              simp only [Act.put, zq1, zq2, zq3, zq4, zq5, zq6]
              refine wpAnyH_take (i := 8) (v := .int .i64 (x : Int)) rfl (by kernel_rfl) (by kernel_rfl) (by kernel_rfl) (fun _ _ _ h => h) (Or.inl ⟨by rfl, fun w hS => by (go_simp) <;> first | rfl | assumption | (intro hh; exfalso; omega) | (exact (i64_wraps _ (by omega) (by omega)).trans (by omega)) | omega⟩) hHeld ?_
              simp only [Act.put, zq1, zq2, zq3, zq4, zq5, zq6]
              refine wpAnyH_take (i := 10) (v := .agg (List.toArray cs)) rfl (by kernel_rfl) (by kernel_rfl) (by kernel_rfl) (fun _ _ _ h => h) (yieldsIf_load_mid (by rfl) 185 _ rfl (dC) (0) rfl cs _ (fun w hS => range_chgw OC.out.range0 hS OC.out.lt (show ¬ dC = gS by omega)) Tryz.underlying185 rfl (by rw [HCL.out]; kernel_rfl)) hHeld ?_
              simp only [Act.put, zq1, zq2, zq3, zq4, zq5, zq6]
              have hS := (Chg.refl (fun k => k = gS) wc).drew
              have hF := (Chg.refl (fun _ => False) wc).drew
              generalize World.drew _ = wk at hS hF ⊢
              have OH := Hi (hF.obj OH.out (fun h => h))
              have OR := Hi (hF.obj OR.out (fun h => h))
              have OO := Hi (hF.obj OO.out (fun h => h))
              have OC := Hi (hF.obj OC.out (fun h => h))
              have OW := Hi (owns_chgw OW.out hF (fun h => h))
              have BL := Hi (BL.out.trans (hF.below (by omega) (fun _ h => h.elim)))
              refine wpAnyH_ready (rs := [4]) (by kernel_rfl) (by simp) ?_
              refine AllReadyH.cons (o := _) rfl (fun K' hK => ?_) AllReadyH.nil
              go_simp
              with_reducible refine (HRO.out _).mono ?_
              rintro e6 w6 ⟨rfl, hb⟩
              have hS := hS.trans (chg_of_below hb _)
              have lzr := OC.out.lt
              have OH := Hi (OH.out.below hb OH.out.lt)
              have OR := Hi (OR.out.below hb OR.out.lt)
              have OO := Hi (OO.out.below hb OO.out.lt)
              have OC := Hi (OC.out.below hb OC.out.lt)
              have OW := Hi (owns_blw (B := d) OW.out hb)
              have BL := Hi (bthen hb BL.out (by omega))
              clear hb
              go_wp2_with fail
              refine hK _ _ hS (fun hH2 => ?_)
              clear hK K'
              try simp only [Act.put, zq1, zq2, zq3, zq4, zq5, zq6]
              refine wpAnyH_take (i := 7) (v := .int .i64 (yw : Int)) rfl (by kernel_rfl) (by kernel_rfl) (by kernel_rfl) (fun _ _ _ h => h) (Or.inl ⟨by rfl, fun w hS => by (go_simp; exact i64_wraps _ (by omega) (by omega))⟩) hH2 ?_
              simp only [Act.put, zq1, zq2, zq3, zq4, zq5, zq6]
              refine wpAnyH_take (i := 9) (v := .int .i64 (ps : Int)) rfl (by kernel_rfl) (by kernel_rfl) (by kernel_rfl) (fun _ _ _ h => h) (Or.inl ⟨by rfl, fun w hS => by (go_simp; (try rw [IntKind.wrap_i64]); omega)⟩) hH2 ?_
              simp only [Act.put, zq1, zq2, zq3, zq4, zq5, zq6]
              refine wpAnyH_take (i := 11) (v := .pointer (some ⟨gS, (ps * 4), none⟩)) rfl (by kernel_rfl) (by kernel_rfl) (by kernel_rfl) (fun _ _ _ h => h) (Or.inl ⟨by rfl, fun w hS => by (go_simp)⟩) hH2 ?_
              simp only [Act.put, zq1, zq2, zq3, zq4, zq5, zq6]
              have hS0 := hS
              refine wpAnyH_ready (rs := [12]) (by kernel_rfl) (by simp) ?_
              refine AllReadyH.cons (o := _) rfl (fun K' hK => ?_) AllReadyH.nil
              rw [if_pos (by rfl)]
              have hthere := owns_there OW.out (ps * 4) 4 (by rw [HLL.out]; omega)
              refine wp_store_mid 185 _ _ rfl gS (ps * 4) cs.toArray rfl rfl (by simpa [HCL.out] using hthere) (by rw [List.size_toArray, HCL.out]; kernel_rfl) (by have := HCA.out; simpa using this) ?_
              simp only [Act.put, zq1, zq2, zq3, zq4, zq5, zq6]
              have hst : Stored w6 gS (ps * 4) cs (w6.setCells gS (ps * 4) cs) := rfl
              have OW := Hi (owns_stored OW.out hst (by rw [HLL.out, HCL.out]; omega))
              have OH := Hi (hst.oth OH.out (by omega))
              have OR := Hi (hst.oth OR.out (by omega))
              have OO := Hi (hst.oth OO.out (by omega))
              have BL := Hi (hst.below BL.out (by omega))
              have hS := Stored.chgS hst hS0 (Or.inl rfl)
              generalize World.setCells _ _ _ _ = w7 at OH OR OO OW BL hS ⊢
              clear hst hthere
              refine hK _ _ hS (fun hH3 => ?_)
              clear hK K'
              refine wpAnyH_done (by kernel_rfl) ?_ _
              refine NoPanic.normal ?_
              go_wp2_with fail
              go_roundw
              case rel => exact ⟨x + 1, putC L2 (4 * (y * W + x)) cs, by have := HXW.out; omega, by go_num, HRL2.out, OH.out, OR.out, OO.out, by rw [HPS.out]; exact OW.out, by rw [HPS.out, putC_len _ _ _ (by rw [HLL.out, HCL.out]; omega)]; exact HLL.out, putC_all HLU.out HCA2.out, BL.out⟩
              case measure => have := HXW.out; simp [intOf]; omega
end Go.Proofs.YtlfbaggcfaenlaaGreat

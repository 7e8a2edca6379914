/- A palette as an object: Size, Entry, New, Of; walked. -/
import Derived.Test.YtlfbaggcfaenlaaGreatK14
import Derived.Test.YtlfbaggcfaenlaaGreatK2
import Derived.Test.YtlfbaggcfaenlaaGreatK0
namespace Go.Proofs.YtlfbaggcfaenlaaGreat
open Go.RowKit
set_option linter.unusedVariables false
set_option linter.unusedSimpArgs false
def sizeK (k : Int) : Int := if k = 2 then 2 else if k = 3 then 3 else 4
set_option maxRecDepth 100000 in
theorem sizes_any (w : World) : Calls Tryz.prog 207 #[] w fun e w' => e = .returned (.agg #[.int .i64 0, .int .i64 0, .int .i64 2, .int .i64 3, .int .i64 4, .int .i64 4]) ∧ Chg (fun _ => False) w w' := by
  go_enter Tryz.func207, Tryz.ntmps207
  go_wp2
  refine bodyPost_ret (v := .agg (List.toArray [.int .i64 0, .int .i64 0, .int .i64 2, .int .i64 3, .int .i64 4, .int .i64 4])) ?_ rfl ⟨rfl, (Chg.refl _ _).alloc _⟩
  exact results_c Tryz.results207 _ _ w.heap.size [.int .i64 0, .int .i64 0, .int .i64 2, .int .i64 3, .int .i64 4, .int .i64 4] _ rfl (Obj1.range0 (T := 282) (obj1_new _ _ _)) Tryz.underlying282 rfl (by kernel_rfl)
set_option maxRecDepth 100000 in
theorem psize_any (k : Int) (w : World) (hk : k = 2 ∨ k = 3 ∨ k = 4 ∨ k = 5) : Calls Tryz.prog 144 #[.int .i64 k] w fun e w' => e = .returned (.int .i64 (sizeK k)) ∧ Chg (fun _ => False) w w' := by
  rcases hk with rfl | rfl | rfl | rfl
  all_goals
    go_enter Tryz.func144, Tryz.ntmps144
    go_wp2_with (first
      | ((with_reducible refine skip_g rfl ?_ ?_); rfl; intro _)
      | ((go_at_call 207; (with_reducible refine (sizes_any _).mono ?_); rintro e w1 ⟨rfl, hC⟩)))
    go_ret
    exact ⟨rfl, hC.alloc _⟩
set_option maxRecDepth 100000 in
set_option maxHeartbeats 4000000 in
theorem pentry_any (s : ByteArray) (k : Int) (w : World) (hk : k = 3 ∨ k = 4) (hs : sizeK k ≤ s.size) : Calls Tryz.prog 145 #[.string s, .int .i64 k] w fun e w' => e = .returned (.tuple #[.agg #[.int .u8 (byN s 2), .int .u8 (byN s 1), .int .u8 (byN s 0), .int .u8 255], .bool true]) ∧ Chg (fun _ => False) w w' := by
  have hz : sizeK k = k := by rcases hk with rfl | rfl <;> rfl
  have HSZ := Hi (fun w0 => (psize_any k w0 (by omega)).mono (R' := fun e w' => e = .returned (.int .i64 k) ∧ Chg (fun _ => False) w0 w') fun e w' hh => by rw [hz] at hh; exact hh)
  rw [hz] at hs
  have h3 : 3 ≤ s.size := by omega
  have q0 : 0 < s.size := by omega
  have q1 : 1 < s.size := by omega
  have q2 : 2 < s.size := by omega
  have g0 := byN_get s 0 q0
  have g1 := byN_get s 1 q1
  have g2 := byN_get s 2 q2
  have k0 : (k == 0) = false := by rcases hk with rfl | rfl <;> rfl
  have k2 : (k == 2) = false := by rcases hk with rfl | rfl <;> rfl
  have k5 : (k == 5) = false := by rcases hk with rfl | rfl <;> rfl
  have hsk : ¬ ((s.size : Int) < k) := by omega
  have O4 := Hi (obj1_new w #[.int .u8 0, .int .u8 0, .int .u8 0, .int .u8 0] 185)
  have CH := Hi ((Chg.refl (fun _ => False) w).alloc (.cells #[.int .u8 0, .int .u8 0, .int .u8 0, .int .u8 0] 185))
  obtain ⟨d, hd⟩ : ∃ d, w.heap.size = d := ⟨_, rfl⟩
  have HDe := Hi hd
  rw [hd] at O4
  clear hz hs hk
  go_enter Tryz.func145, Tryz.ntmps145
  go_upto_region 1 with (fail)
  clear hd
  generalize World.alloc _ _ = wr at O4 CH ⊢
  have ld := O4.out.lt
  go_upto_region 10 with (first
    | ((with_reducible refine skip_g rfl ?_ ?_); rfl; intro _)
    | ((go_at_call 144; (with_reducible refine (HSZ.out _).mono ?_); rintro e w1 ⟨rfl, hC⟩); have O4 := Hi (hC.obj O4.out (fun h => h)); have CH := Hi (CH.out.trans hC); clear hC))
  obtain ⟨wr, rfl⟩ : ∃ z, z = w1 := ⟨_, rfl⟩
  refine wp_region_noPanic ?_
  refine wp_region_T (fun w' => w' = World.drew wr) (fun i => decide (7 ≤ i)) (by kernel_rfl) ?_
  have O4 := Hi (O4.out.drew)
  have CH := Hi (CH.out.drew)
  generalize World.drew _ = wk at O4 CH ⊢
  refine wpAnyT_take (i := 0) (v := .string s) rfl (by kernel_rfl) (by kernel_rfl) (by kernel_rfl) (by kernel_rfl) rfl (fun _ _ _ h => h) (Or.inl ⟨by rfl, fun w hS => by subst hS; (go_simp) <;> first | rfl | assumption | (intro hh; exfalso; omega) | (exact (i64_wraps _ (by omega) (by omega)).trans (by omega)) | omega⟩) rfl ?_
  simp only [Act.put, zq1, zq2, zq3, zq4, zq5, zq6]
  refine wpAnyT_take (i := 1) (v := .int .u8 (byN s 2)) rfl (by kernel_rfl) (by kernel_rfl) (by kernel_rfl) (by kernel_rfl) rfl (fun _ _ _ h => h) (Or.inl ⟨by rfl, fun w hS => by subst hS; (go_simp) <;> first | rfl | assumption | (intro hh; exfalso; omega) | (exact (i64_wraps _ (by omega) (by omega)).trans (by omega)) | omega⟩) rfl ?_
  simp only [Act.put, zq1, zq2, zq3, zq4, zq5, zq6]
  refine wpAnyT_take (i := 2) (v := .string s) rfl (by kernel_rfl) (by kernel_rfl) (by kernel_rfl) (by kernel_rfl) rfl (fun _ _ _ h => h) (Or.inl ⟨by rfl, fun w hS => by subst hS; (go_simp) <;> first | rfl | assumption | (intro hh; exfalso; omega) | (exact (i64_wraps _ (by omega) (by omega)).trans (by omega)) | omega⟩) rfl ?_
  simp only [Act.put, zq1, zq2, zq3, zq4, zq5, zq6]
  refine wpAnyT_take (i := 3) (v := .int .u8 (byN s 1)) rfl (by kernel_rfl) (by kernel_rfl) (by kernel_rfl) (by kernel_rfl) rfl (fun _ _ _ h => h) (Or.inl ⟨by rfl, fun w hS => by subst hS; (go_simp) <;> first | rfl | assumption | (intro hh; exfalso; omega) | (exact (i64_wraps _ (by omega) (by omega)).trans (by omega)) | omega⟩) rfl ?_
  simp only [Act.put, zq1, zq2, zq3, zq4, zq5, zq6]
  refine wpAnyT_take (i := 4) (v := .string s) rfl (by kernel_rfl) (by kernel_rfl) (by kernel_rfl) (by kernel_rfl) rfl (fun _ _ _ h => h) (Or.inl ⟨by rfl, fun w hS => by subst hS; (go_simp) <;> first | rfl | assumption | (intro hh; exfalso; omega) | (exact (i64_wraps _ (by omega) (by omega)).trans (by omega)) | omega⟩) rfl ?_
  simp only [Act.put, zq1, zq2, zq3, zq4, zq5, zq6]
  refine wpAnyT_take (i := 5) (v := .int .u8 (byN s 0)) rfl (by kernel_rfl) (by kernel_rfl) (by kernel_rfl) (by kernel_rfl) rfl (fun _ _ _ h => h) (Or.inl ⟨by rfl, fun w hS => by subst hS; (go_simp) <;> first | rfl | assumption | (intro hh; exfalso; omega) | (exact (i64_wraps _ (by omega) (by omega)).trans (by omega)) | omega⟩) rfl ?_
  simp only [Act.put, zq1, zq2, zq3, zq4, zq5, zq6]
  refine wpAnyT_take (i := 6) (v := .agg #[.int .u8 (byN s 2), .int .u8 (byN s 1), .int .u8 (byN s 0), .int .u8 255]) rfl (by kernel_rfl) (by kernel_rfl) (by kernel_rfl) (by kernel_rfl) rfl (fun _ _ _ h => h) (Or.inl ⟨by rfl, fun w hS => by subst hS; go_simp⟩) rfl ?_
  simp only [Act.put, zq1, zq2, zq3, zq4, zq5, zq6]
  refine wpAnyT_one (i := 7) (by kernel_rfl) rfl rfl ?_
  intro K' hK
  rw [if_pos (by rfl)]
  refine wp_store_mid 185 _ _ rfl d 0 (List.toArray [.int .u8 (byN s 2), .int .u8 (byN s 1), .int .u8 (byN s 0), .int .u8 255]) rfl rfl (O4.out.there 0 4 (by simp)) (by kernel_rfl) (all_oneCell_toArray (List.all_eq_true.1 (by rfl))) ?_
  simp only [Act.put, zq1, zq2, zq3, zq4, zq5, zq6]
  have hst : Stored wk d 0 [.int .u8 (byN s 2), .int .u8 (byN s 1), .int .u8 (byN s 0), .int .u8 255] (wk.setCells d 0 [.int .u8 (byN s 2), .int .u8 (byN s 1), .int .u8 (byN s 0), .int .u8 255]) := rfl
  have O4 := Hi (hst.whole O4.out (by first | rfl | simp))
  have CH := Hi (Stored.chgS hst CH.out (Or.inr (by have := HDe.out; omega)))
  generalize World.setCells _ _ _ _ = wk2 at O4 CH ⊢
  clear hst
  refine hK _ _ ?_
  clear hK K'
  try simp only [Act.put, zq1, zq2, zq3, zq4, zq5, zq6]
  refine wpAnyT_one (i := 8) (by kernel_rfl) rfl rfl ?_
  intro K' hK
  go_simp
  refine hK _ _ ?_
  clear hK K'
  try simp only [Act.put, zq1, zq2, zq3, zq4, zq5, zq6]
  refine wpAnyT_done (by kernel_rfl) ?_ _
  refine NoPanic.normal ?_
  go_wp2_with fail
  refine bodyPost_ret (v := .tuple #[.agg (List.toArray [.int .u8 (byN s 2), .int .u8 (byN s 1), .int .u8 (byN s 0), .int .u8 255]), .bool true]) ?_ rfl ⟨rfl, CH.out⟩
  exact results_c1 Tryz.results145 _ _ _ [.int .u8 (byN s 2), .int .u8 (byN s 1), .int .u8 (byN s 0), .int .u8 255] _ rfl O4.out.range0 Tryz.underlying185 rfl (by kernel_rfl)
structure Pal where
  B : Nat
  b : Bf
  n : Nat
  most : Nat
structure PalAt (w : World) (P : Nat) (p : Pal) : Prop where
  obj : Obj1 w P #[.pointer (some ⟨p.B, 0, none⟩), .int .i64 p.n, .int .i64 p.most] 226
  buf : BufAt w p.B p.b
  len : p.b.d.length = 4 * p.most
  opn : p.b.op = true
  nm : p.n ≤ p.most
  mo : p.most ≤ 65536
  nb : P ≠ p.B
  ng : P ≠ p.b.g
  nl : P ≠ p.b.L
theorem PalAt.chg {S : Nat → Prop} {w w' : World} {P : Nat} {p : Pal} (h : PalAt w P p) (hc : Chg S w w') (h1 : ¬ S P) (h2 : ¬ S p.B) (h3 : ¬ S p.b.g) : PalAt w' P p :=
  ⟨hc.obj h.obj h1, h.buf.chg hc h2 h3, h.len, h.opn, h.nm, h.mo, h.nb, h.ng, h.nl⟩
theorem PalAt.lt {w : World} {P : Nat} {p : Pal} (h : PalAt w P p) : P < w.heap.size := h.obj.lt
def Pal.ent (p : Pal) (i : Nat) : ByteArray := strOf ((p.b.d.drop (4 * i)).take 4)
theorem Pal.ent_size (p : Pal) (i : Nat) (h : p.b.d.length = 4 * p.most) (hi : i < p.most) : (p.ent i).size = 4 := by
  unfold Pal.ent; rw [strOf_size3, List.length_take, List.length_drop]; omega
def Pal.has (p : Pal) (i : Int) : Bool := decide (0 ≤ i ∧ i < p.n)
def colS4 (s : ByteArray) : Value := .agg #[.int .u8 (byN s 0), .int .u8 (byN s 1), .int .u8 (byN s 2), .int .u8 (byN s 3)]
def colZ4 : Value := .agg #[.int .u8 0, .int .u8 0, .int .u8 0, .int .u8 0]
set_option maxRecDepth 100000 in
set_option maxHeartbeats 4000000 in
theorem pof_any (P : Nat) (p : Pal) (i : Int) (w : World) (h : PalAt w P p) : Calls Tryz.prog 218 #[.pointer (some ⟨P, 0, none⟩), .int .i64 i] w fun e w' =>
      e = .returned (.tuple #[if p.has i = true then colS4 (p.ent i.toNat) else colZ4, .bool (p.has i)]) ∧ Chg (fun _ => False) w w' := by
  have O4 := Hi (obj1_new w #[.int .u8 0, .int .u8 0, .int .u8 0, .int .u8 0] 185)
  have hC := (Chg.refl (fun _ => False) w).alloc (.cells #[.int .u8 0, .int .u8 0, .int .u8 0, .int .u8 0] 185)
  have CH := Hi hC
  have h1 := h.chg hC (fun h => h) (fun h => h) (fun h => h)
  have c1 := (h1.obj.cell 1).trans (show _ = some (.int .i64 (p.n : Int)) from rfl)
  have c0 := (h1.obj.cell 0).trans (show _ = some (.pointer (some ⟨p.B, 0, none⟩)) from rfl)
  obtain ⟨d, hd⟩ : ∃ d, w.heap.size = d := ⟨_, rfl⟩
  have HDe := Hi hd
  rw [hd] at O4
  have hnm := h.nm
  have hmo := h.mo
  have hcase : (i < 0) ∨ (¬ i < 0 ∧ (p.n : Int) ≤ i) ∨ (¬ i < 0 ∧ ¬ (p.n : Int) ≤ i) := by omega
  rcases hcase with g1 | ⟨g1, g2⟩ | ⟨g1, g2⟩
  · have HE := Hi (show p.has i = false by unfold Pal.has; rw [decide_eq_false_iff_not]; omega)
    rw [HE.out, if_neg (by decide)]
    clear h h1 hC
    go_enter Tryz.func218, Tryz.ntmps218
    go_wp2_with (first
      | ((with_reducible refine skip_g rfl ?_ ?_); rfl; intro _)
      | (refine store_o rfl 185 4 _ _ rfl d [.int .u8 0, .int .u8 0, .int .u8 0, .int .u8 0] rfl rfl (by kernel_rfl) (by kernel_rfl) (by kernel_rfl) O4.out (by first | rfl | simp) ?_; intro ws hst hO; have O4 := Hi hO; have CH := Hi (Stored.chgS hst CH.out (Or.inr (by have := HDe.out; omega))); clear hst hO))
    refine bodyPost_ret (v := .tuple #[colZ4, .bool false]) ?_ rfl ⟨rfl, CH.out⟩
    exact results_c1 Tryz.results218 _ _ _ [.int .u8 0, .int .u8 0, .int .u8 0, .int .u8 0] _ rfl O4.out.range0 Tryz.underlying185 rfl (by kernel_rfl)
  · have HE := Hi (show p.has i = false by unfold Pal.has; rw [decide_eq_false_iff_not]; omega)
    rw [HE.out, if_neg (by decide)]
    clear h h1 hC
    go_enter Tryz.func218, Tryz.ntmps218
    go_wp2_with (first
      | ((with_reducible refine skip_g rfl ?_ ?_); rfl; intro _)
      | (refine store_o rfl 185 4 _ _ rfl d [.int .u8 0, .int .u8 0, .int .u8 0, .int .u8 0] rfl rfl (by kernel_rfl) (by kernel_rfl) (by kernel_rfl) O4.out (by first | rfl | simp) ?_; intro ws hst hO; have O4 := Hi hO; have CH := Hi (Stored.chgS hst CH.out (Or.inr (by have := HDe.out; omega))); clear hst hO))
    refine bodyPost_ret (v := .tuple #[colZ4, .bool false]) ?_ rfl ⟨rfl, CH.out⟩
    exact results_c1 Tryz.results218 _ _ _ [.int .u8 0, .int .u8 0, .int .u8 0, .int .u8 0] _ rfl O4.out.range0 Tryz.underlying185 rfl (by kernel_rfl)
  · have HE := Hi (show p.has i = true by unfold Pal.has; rw [decide_eq_true_iff]; omega)
    rw [HE.out, if_pos rfl]
    obtain ⟨i, rfl⟩ := Int.eq_ofNat_of_zero_le (show 0 ≤ i by omega)
    have ht : p.b.there (4 * (i : Int)) 4 = true := by
      have := h.len
      unfold Bf.there
      rw [h.opn, decide_eq_true (show (0 : Int) ≤ 4 * (i : Int) by omega), decide_eq_true (show (0 : Int) ≤ 4 by decide), decide_eq_true (show 4 * (i : Int) ≤ (p.b.d.length : Int) by omega), decide_eq_true (show (4 : Int) ≤ (p.b.d.length : Int) - 4 * (i : Int) by omega)]
      rfl
    have hes := p.ent_size i h.len (by omega)
    have HGT := Hi (fun w0 (hb : BufAt w0 p.B p.b) => (bget_any p.B p.b (4 * (i : Int)) 4 w0 hb (by omega) (by decide)).mono (R' := fun e w' => e = .returned (.tuple #[.string (p.ent i), .bool true]) ∧ w' = w0) fun e w' hh => by
      unfold Bf.get at hh
      rw [ht, if_pos rfl, show (4 * (i : Int)).toNat = 4 * i by omega] at hh
      exact hh)
    rw [show ((i : Int)).toNat = i from rfl]
    unfold colS4
    obtain ⟨s, hs⟩ : ∃ s, p.ent i = s := ⟨_, rfl⟩
    rw [hs] at HGT hes ⊢
    have BF := Hi h1.buf
    have q0 : 0 < s.size := by omega
    have q1 : 1 < s.size := by omega
    have q2 : 2 < s.size := by omega
    have q3 : 3 < s.size := by omega
    have b0 := byN_get s 0 q0
    have b1 := byN_get s 1 q1
    have b2 := byN_get s 2 q2
    have b3 := byN_get s 3 q3
    obtain ⟨B, hB⟩ : ∃ B, p.B = B := ⟨_, rfl⟩
    rw [hB] at c0 HGT BF
    clear h h1 hC ht hs hB
    go_enter Tryz.func218, Tryz.ntmps218
    go_upto_region 1 with (fail)
    clear hd
    generalize World.alloc _ _ = wr at O4 CH c0 c1 BF ⊢
    have ld := O4.out.lt
    go_upto_region 4 with (first
      | ((with_reducible refine skip_g rfl ?_ ?_); rfl; intro _)
      | ((go_at_call 252; (with_reducible refine (HGT.out _ BF.out).mono ?_); rintro e w1 ⟨rfl, rfl⟩)))
    obtain ⟨wr, rfl⟩ : ∃ z, z = w1 := ⟨_, rfl⟩
    refine wp_region_noPanic ?_
    refine wp_region_T (fun w' => w' = World.drew wr) (fun i => decide (9 ≤ i)) (by kernel_rfl) ?_
    have O4 := Hi (O4.out.drew)
    have CH := Hi (CH.out.drew)
    generalize World.drew _ = wk at O4 CH ⊢
    refine wpAnyT_take (i := 0) (v := .string s) rfl (by kernel_rfl) (by kernel_rfl) (by kernel_rfl) (by kernel_rfl) rfl (fun _ _ _ h => h) (Or.inl ⟨by rfl, fun w hS => by subst hS; (go_simp) <;> first | rfl | assumption | (intro hh; exfalso; omega) | (exact (i64_wraps _ (by omega) (by omega)).trans (by omega)) | omega⟩) rfl ?_
    simp only [Act.put, zq1, zq2, zq3, zq4, zq5, zq6]
    refine wpAnyT_take (i := 1) (v := .int .u8 (byN s 0)) rfl (by kernel_rfl) (by kernel_rfl) (by kernel_rfl) (by kernel_rfl) rfl (fun _ _ _ h => h) (Or.inl ⟨by rfl, fun w hS => by subst hS; (go_simp) <;> first | rfl | assumption | (intro hh; exfalso; omega) | (exact (i64_wraps _ (by omega) (by omega)).trans (by omega)) | omega⟩) rfl ?_
    simp only [Act.put, zq1, zq2, zq3, zq4, zq5, zq6]
    refine wpAnyT_take (i := 2) (v := .string s) rfl (by kernel_rfl) (by kernel_rfl) (by kernel_rfl) (by kernel_rfl) rfl (fun _ _ _ h => h) (Or.inl ⟨by rfl, fun w hS => by subst hS; (go_simp) <;> first | rfl | assumption | (intro hh; exfalso; omega) | (exact (i64_wraps _ (by omega) (by omega)).trans (by omega)) | omega⟩) rfl ?_
    simp only [Act.put, zq1, zq2, zq3, zq4, zq5, zq6]
    refine wpAnyT_take (i := 3) (v := .int .u8 (byN s 1)) rfl (by kernel_rfl) (by kernel_rfl) (by kernel_rfl) (by kernel_rfl) rfl (fun _ _ _ h => h) (Or.inl ⟨by rfl, fun w hS => by subst hS; (go_simp) <;> first | rfl | assumption | (intro hh; exfalso; omega) | (exact (i64_wraps _ (by omega) (by omega)).trans (by omega)) | omega⟩) rfl ?_
    simp only [Act.put, zq1, zq2, zq3, zq4, zq5, zq6]
    refine wpAnyT_take (i := 4) (v := .string s) rfl (by kernel_rfl) (by kernel_rfl) (by kernel_rfl) (by kernel_rfl) rfl (fun _ _ _ h => h) (Or.inl ⟨by rfl, fun w hS => by subst hS; (go_simp) <;> first | rfl | assumption | (intro hh; exfalso; omega) | (exact (i64_wraps _ (by omega) (by omega)).trans (by omega)) | omega⟩) rfl ?_
    simp only [Act.put, zq1, zq2, zq3, zq4, zq5, zq6]
    refine wpAnyT_take (i := 5) (v := .int .u8 (byN s 2)) rfl (by kernel_rfl) (by kernel_rfl) (by kernel_rfl) (by kernel_rfl) rfl (fun _ _ _ h => h) (Or.inl ⟨by rfl, fun w hS => by subst hS; (go_simp) <;> first | rfl | assumption | (intro hh; exfalso; omega) | (exact (i64_wraps _ (by omega) (by omega)).trans (by omega)) | omega⟩) rfl ?_
    simp only [Act.put, zq1, zq2, zq3, zq4, zq5, zq6]
    refine wpAnyT_take (i := 6) (v := .string s) rfl (by kernel_rfl) (by kernel_rfl) (by kernel_rfl) (by kernel_rfl) rfl (fun _ _ _ h => h) (Or.inl ⟨by rfl, fun w hS => by subst hS; (go_simp) <;> first | rfl | assumption | (intro hh; exfalso; omega) | (exact (i64_wraps _ (by omega) (by omega)).trans (by omega)) | omega⟩) rfl ?_
    simp only [Act.put, zq1, zq2, zq3, zq4, zq5, zq6]
    refine wpAnyT_take (i := 7) (v := .int .u8 (byN s 3)) rfl (by kernel_rfl) (by kernel_rfl) (by kernel_rfl) (by kernel_rfl) rfl (fun _ _ _ h => h) (Or.inl ⟨by rfl, fun w hS => by subst hS; (go_simp) <;> first | rfl | assumption | (intro hh; exfalso; omega) | (exact (i64_wraps _ (by omega) (by omega)).trans (by omega)) | omega⟩) rfl ?_
    simp only [Act.put, zq1, zq2, zq3, zq4, zq5, zq6]
    refine wpAnyT_take (i := 8) (v := .agg #[.int .u8 (byN s 0), .int .u8 (byN s 1), .int .u8 (byN s 2), .int .u8 (byN s 3)]) rfl (by kernel_rfl) (by kernel_rfl) (by kernel_rfl) (by kernel_rfl) rfl (fun _ _ _ h => h) (Or.inl ⟨by rfl, fun w hS => by subst hS; go_simp⟩) rfl ?_
    simp only [Act.put, zq1, zq2, zq3, zq4, zq5, zq6]
    refine wpAnyT_one (i := 9) (by kernel_rfl) rfl rfl ?_
    intro K' hK
    rw [if_pos (by rfl)]
    refine wp_store_mid 185 _ _ rfl d 0 (List.toArray [.int .u8 (byN s 0), .int .u8 (byN s 1), .int .u8 (byN s 2), .int .u8 (byN s 3)]) rfl rfl (O4.out.there 0 4 (by simp)) (by kernel_rfl) (all_oneCell_toArray (List.all_eq_true.1 (by rfl))) ?_
    simp only [Act.put, zq1, zq2, zq3, zq4, zq5, zq6]
    have hst : Stored wk d 0 [.int .u8 (byN s 0), .int .u8 (byN s 1), .int .u8 (byN s 2), .int .u8 (byN s 3)] (wk.setCells d 0 [.int .u8 (byN s 0), .int .u8 (byN s 1), .int .u8 (byN s 2), .int .u8 (byN s 3)]) := rfl
    have O4 := Hi (hst.whole O4.out (by first | rfl | simp))
    have CH := Hi (Stored.chgS hst CH.out (Or.inr (by have := HDe.out; omega)))
    generalize World.setCells _ _ _ _ = wk2 at O4 CH ⊢
    clear hst
    refine hK _ _ ?_
    clear hK K'
    try simp only [Act.put, zq1, zq2, zq3, zq4, zq5, zq6]
    refine wpAnyT_one (i := 10) (by kernel_rfl) rfl rfl ?_
    intro K' hK
    go_simp
    refine hK _ _ ?_
    clear hK K'
    try simp only [Act.put, zq1, zq2, zq3, zq4, zq5, zq6]
    refine wpAnyT_done (by kernel_rfl) ?_ _
    refine NoPanic.normal ?_
    go_wp2_with fail
    refine bodyPost_ret (v := .tuple #[.agg (List.toArray [.int .u8 (byN s 0), .int .u8 (byN s 1), .int .u8 (byN s 2), .int .u8 (byN s 3)]), .bool true]) ?_ rfl ⟨rfl, CH.out⟩
    exact results_c1 Tryz.results218 _ _ _ [.int .u8 (byN s 0), .int .u8 (byN s 1), .int .u8 (byN s 2), .int .u8 (byN s 3)] _ rfl O4.out.range0 Tryz.underlying185 rfl (by kernel_rfl)
end Go.Proofs.YtlfbaggcfaenlaaGreat

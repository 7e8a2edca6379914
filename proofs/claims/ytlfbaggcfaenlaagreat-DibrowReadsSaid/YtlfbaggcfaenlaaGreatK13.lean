/- A raster as an object: New, at; walked. -/
import Derived.Test.YtlfbaggcfaenlaaGreatK12
import Derived.Test.YtlfbaggcfaenlaaGreatK0
namespace Go.Proofs.YtlfbaggcfaenlaaGreat
open Go.RowKit
set_option linter.unusedVariables false
set_option linter.unusedSimpArgs false
structure Ras where
  L : Nat
  w : Nat
  h : Nat
  B : Nat
  op : Bool
  b : Bf
def Ras.cells (r : Ras) : List Value := [.pointer (some ⟨r.L, 0, none⟩), .int .i64 r.w, .int .i64 r.h, .pointer (some ⟨r.B, 0, none⟩), .bool r.op]
structure RasAt (w : World) (R : Nat) (r : Ras) : Prop where
  obj : Obj1 w R r.cells.toArray 155
  buf : BufAt w r.B r.b
  bl : r.b.L = r.L
  len : r.b.d.length = 4 * (r.w * r.h)
  opn : r.b.op = r.op
  nb : R ≠ r.B
  ng : R ≠ r.b.g
  nl : R ≠ r.L
  sw : r.w ≤ 16384
  sh : r.h ≤ 16384
theorem RasAt.chg {S : Nat → Prop} {w w' : World} {R : Nat} {r : Ras} (h : RasAt w R r) (hc : Chg S w w') (h1 : ¬ S R) (h2 : ¬ S r.B) (h3 : ¬ S r.b.g) : RasAt w' R r :=
  ⟨hc.obj h.obj h1, h.buf.chg hc h2 h3, h.bl, h.len, h.opn, h.nb, h.ng, h.nl, h.sw, h.sh⟩
theorem RasAt.lt {w : World} {R : Nat} {r : Ras} (h : RasAt w R r) : R < w.heap.size := h.obj.lt
def Ras.inB (r : Ras) (x y : Int) : Bool := r.op && decide (0 ≤ x ∧ x < r.w ∧ 0 ≤ y ∧ y < r.h)
set_option maxRecDepth 100000 in
set_option maxHeartbeats 4000000 in
theorem rat_any (R : Nat) (r : Ras) (x y : Int) (w : World) (h : RasAt w R r) : Calls Tryz.prog 172 #[.pointer (some ⟨R, 0, none⟩), .int .i64 x, .int .i64 y] w fun e w' =>
      e = .returned (.tuple #[.int .i64 (if r.inB x y = true then 4 * (y * r.w + x) else 0), .bool (r.inB x y)]) ∧ w' = w := by
  have c1 := (h.obj.cell 1).trans (show _ = some (.int .i64 (r.w : Int)) from rfl)
  have c2 := (h.obj.cell 2).trans (show _ = some (.int .i64 (r.h : Int)) from rfl)
  have c4 := (h.obj.cell 4).trans (show _ = some (.bool r.op) from rfl)
  have hw := h.sw
  have hh := h.sh
  unfold Ras.inB
  obtain ⟨W, hW⟩ : ∃ W, r.w = W := ⟨_, rfl⟩
  obtain ⟨H, hH⟩ : ∃ H, r.h = H := ⟨_, rfl⟩
  rw [hW] at c1 hw ⊢
  rw [hH] at c2 hh ⊢
  cases ho : r.op with
  | false =>
    rw [ho] at c4
    clear h hW hH ho
    rw [Bool.false_and, if_neg (by decide)]
    go_enter Tryz.func172, Tryz.ntmps172
    go_wp2_with ((with_reducible refine skip_g rfl ?_ ?_); rfl; intro _)
    go_ret2
    exact ⟨rfl, rfl⟩
  | true =>
    rw [ho] at c4
    clear h hW hH ho
    rw [Bool.true_and]
    have hcase : (x < 0) ∨ (¬ x < 0 ∧ (W : Int) ≤ x) ∨ (¬ x < 0 ∧ ¬ (W : Int) ≤ x ∧ y < 0) ∨ (¬ x < 0 ∧ ¬ (W : Int) ≤ x ∧ ¬ y < 0 ∧ (H : Int) ≤ y) ∨ (¬ x < 0 ∧ ¬ (W : Int) ≤ x ∧ ¬ y < 0 ∧ ¬ (H : Int) ≤ y) := by omega
    rcases hcase with h1 | ⟨h1, h2⟩ | ⟨h1, h2, h3⟩ | ⟨h1, h2, h3, h4⟩ | ⟨h1, h2, h3, h4⟩
    · have E := Hi (show decide (0 ≤ x ∧ x < (W : Int) ∧ 0 ≤ y ∧ y < (H : Int)) = false by rw [decide_eq_false_iff_not]; omega)
      rw [E.out, if_neg (by decide)]
      go_enter Tryz.func172, Tryz.ntmps172
      go_wp2_with ((with_reducible refine skip_g rfl ?_ ?_); rfl; intro _)
      go_ret2
      exact ⟨rfl, rfl⟩
    · have E := Hi (show decide (0 ≤ x ∧ x < (W : Int) ∧ 0 ≤ y ∧ y < (H : Int)) = false by rw [decide_eq_false_iff_not]; omega)
      rw [E.out, if_neg (by decide)]
      go_enter Tryz.func172, Tryz.ntmps172
      go_wp2_with ((with_reducible refine skip_g rfl ?_ ?_); rfl; intro _)
      go_ret2
      exact ⟨rfl, rfl⟩
    · have E := Hi (show decide (0 ≤ x ∧ x < (W : Int) ∧ 0 ≤ y ∧ y < (H : Int)) = false by rw [decide_eq_false_iff_not]; omega)
      rw [E.out, if_neg (by decide)]
      go_enter Tryz.func172, Tryz.ntmps172
      go_wp2_with ((with_reducible refine skip_g rfl ?_ ?_); rfl; intro _)
      go_ret2
      exact ⟨rfl, rfl⟩
    · have E := Hi (show decide (0 ≤ x ∧ x < (W : Int) ∧ 0 ≤ y ∧ y < (H : Int)) = false by rw [decide_eq_false_iff_not]; omega)
      rw [E.out, if_neg (by decide)]
      go_enter Tryz.func172, Tryz.ntmps172
      go_wp2_with ((with_reducible refine skip_g rfl ?_ ?_); rfl; intro _)
      go_ret2
      exact ⟨rfl, rfl⟩
    · have E := Hi (show decide (0 ≤ x ∧ x < (W : Int) ∧ 0 ≤ y ∧ y < (H : Int)) = true by rw [decide_eq_true_iff]; omega)
      rw [E.out, if_pos rfl]
      obtain ⟨x, rfl⟩ := Int.eq_ofNat_of_zero_le (show 0 ≤ x by omega)
      obtain ⟨y, rfl⟩ := Int.eq_ofNat_of_zero_le (show 0 ≤ y by omega)
      have hyW : y * W ≤ 16384 * 16384 := Nat.mul_le_mul (by omega) hw
      have eM : (y : Int) * (W : Int) = ((y * W : Nat) : Int) := (Int.natCast_mul y W).symm
      obtain ⟨q, hq⟩ : ∃ q, y * W = q := ⟨_, rfl⟩
      rw [hq] at hyW eM
      rw [eM]
      have hq2 : q ≤ 268435456 := hyW
      clear hq E hyW
      go_enter Tryz.func172, Tryz.ntmps172
      go_wp2_with ((with_reducible refine skip_g rfl ?_ ?_); rfl; intro _)
      go_ret2
      exact ⟨rfl, rfl⟩
def RNewPost (w : World) (L : Nat) (s : Led) (a b : Int) (e : Ending) (w' : World) : Prop :=
  (if ¬ ((1 ≤ a ∧ a ≤ 16384) ∧ (1 ≤ b ∧ b ≤ 16384)) then e = .returned (.tuple #[.pointer none, .int .i64 2]) ∧ LedAt w' L s else
   if (s.sides a b).2 = false then e = .returned (.tuple #[.pointer none, .int .i64 4]) ∧ LedAt w' L (s.sides a b).1 else
   if ((s.sides a b).1.take (a.toNat * b.toNat * 4 : Nat)).2 = false then e = .returned (.tuple #[.pointer none, .int .i64 4]) ∧ LedAt w' L ((s.sides a b).1.take (a.toNat * b.toNat * 4 : Nat)).1 else
   ∃ R B g, e = .returned (.tuple #[.pointer (some ⟨R, 0, none⟩), .int .i64 0]) ∧ LedAt w' L ((s.sides a b).1.take (a.toNat * b.toNat * 4 : Nat)).1 ∧
     RasAt w' R ⟨L, a.toNat, b.toNat, B, true, ⟨L, g, zeros8 (a.toNat * b.toNat * 4), true⟩⟩ ∧ w.heap.size ≤ R ∧ w.heap.size ≤ B ∧ w.heap.size ≤ g) ∧ Chg (· = L) w w'
set_option maxRecDepth 100000 in
set_option maxHeartbeats 8000000 in
theorem rasnew_any (L : Nat) (s : Led) (a b : Int) (w : World) (h : LedAt w L s) : Calls Tryz.prog 20 #[.pointer (some ⟨L, 0, none⟩), .int .i64 a, .int .i64 b] w (RNewPost w L s a b) := by
  have HL := Hi h
  have hll := h.lt
  have HA := Hi (fun w0 => rasside_any a w0)
  have HB := Hi (fun w0 => rasside_any b w0)
  have HSD := Hi (lsides_any L s a b w h)
  by_cases ha : 1 ≤ a ∧ a ≤ 16384
  rotate_left
  · have HN := Hi ha
    have HA := Hi (fun w0 => (HA.out w0).mono (R' := fun e w' => e = .returned (.bool false) ∧ w' = w0) fun e w' hh => by rw [decide_eq_false ha] at hh; exact hh)
    clear h ha
    go_enter Tryz.func20, Tryz.ntmps20
    go_wp2_with (first
      | ((with_reducible refine skip_g rfl ?_ ?_); rfl; intro _)
      | (go_at_call 76; (with_reducible refine (HA.out _).mono ?_); rintro e w1 ⟨rfl, rfl⟩))
    go_ret2
    unfold RNewPost
    rw [if_pos (fun hh => HN.out hh.1)]
    exact ⟨⟨rfl, HL.out⟩, Chg.refl _ _⟩
  have HAY := Hi ha
  have HA := Hi (fun w0 => (HA.out w0).mono (R' := fun e w' => e = .returned (.bool true) ∧ w' = w0) fun e w' hh => by rw [decide_eq_true ha] at hh; exact hh)
  by_cases hb : 1 ≤ b ∧ b ≤ 16384
  rotate_left
  · have HN := Hi hb
    have HB := Hi (fun w0 => (HB.out w0).mono (R' := fun e w' => e = .returned (.bool false) ∧ w' = w0) fun e w' hh => by rw [decide_eq_false hb] at hh; exact hh)
    by_cases hab : a = b
    · exact absurd (hab ▸ ha) hb
    clear h ha hb
    go_enter Tryz.func20, Tryz.ntmps20
    go_wp2_with (first
      | ((with_reducible refine skip_g rfl ?_ ?_); rfl; intro _)
      | (go_at_call 76; (with_reducible refine (HA.out _).mono ?_); rintro e w1 ⟨rfl, rfl⟩)
      | (go_at_call 76; (with_reducible refine (HB.out _).mono ?_); rintro e w1 ⟨rfl, rfl⟩))
    go_ret2
    unfold RNewPost
    rw [if_pos (fun hh => HN.out hh.2)]
    exact ⟨⟨rfl, HL.out⟩, Chg.refl _ _⟩
  have HBY := Hi hb
  have HB := Hi (fun w0 => (HB.out w0).mono (R' := fun e w' => e = .returned (.bool true) ∧ w' = w0) fun e w' hh => by rw [decide_eq_true hb] at hh; exact hh)
  cases hs : (s.sides a b).2 with
  | false =>
    have HSD := Hi (HSD.out.mono (R' := fun e w' => e = .returned (.bool false) ∧ LedAt w' L (s.sides a b).1 ∧ Chg (· = L) w w') fun e w' hh => by rw [hs] at hh; exact hh)
    have HS := Hi hs
    clear h ha hb hs
    go_enter Tryz.func20, Tryz.ntmps20
    go_wp2_with (first
      | ((with_reducible refine skip_g rfl ?_ ?_); rfl; intro _)
      | (go_at_call 76; (with_reducible refine (HA.out _).mono ?_); rintro e w1 ⟨rfl, rfl⟩)
      | (go_at_call 76; (with_reducible refine (HB.out _).mono ?_); rintro e w1 ⟨rfl, rfl⟩)
      | ((go_at_call 77; (with_reducible refine (HSD.out).mono ?_); rintro e w1 ⟨rfl, hL, hC⟩); have H1 := Hi hL; have C1 := Hi hC; clear hL hC))
    go_ret2
    unfold RNewPost
    rw [if_neg (fun hh => hh ⟨HAY.out, HBY.out⟩), if_pos HS.out]
    exact ⟨⟨rfl, H1.out⟩, C1.out⟩
  | true =>
    have HSD := Hi (HSD.out.mono (R' := fun e w' => e = .returned (.bool true) ∧ LedAt w' L (s.sides a b).1 ∧ Chg (· = L) w w') fun e w' hh => by rw [hs] at hh; exact hh)
    have HS := Hi hs
    obtain ⟨W, rfl⟩ := Int.eq_ofNat_of_zero_le (show 0 ≤ a by omega)
    obtain ⟨H, rfl⟩ := Int.eq_ofNat_of_zero_le (show 0 ≤ b by omega)
    have hWH : W * H ≤ 16384 * 16384 := Nat.mul_le_mul (by omega) (by omega)
    obtain ⟨n, hn⟩ : ∃ n, W * H * 4 = n := ⟨_, rfl⟩
    have hn2 : n ≤ 2147483648 := by omega
    have HPR := Hi (fun w0 B T (ho : Obj1 w0 B #[.int .i64 (W : Int), .int .i64 (H : Int), .int .i64 4] T) => (show Calls Tryz.prog 78 #[.slice (some ⟨B, 0, none⟩) 3 3] w0 (fun e w' => e = .returned (.tuple #[.int .i64 n, .bool true]) ∧ Below w0.heap.size w0 w') from
      (prod3_any W H 4 B T w0 (by omega) (by omega) (by decide) ho).mono fun e w' hh => by rw [hn] at hh; exact hh))
    have HMK := Hi (fun w0 (hl : LedAt w0 L (s.sides W H).1) => bmake_any L (s.sides W H).1 n w0 hl (by omega))
    have HNN := Hi hn
    have hW1 : W ≤ 16384 := by omega
    have hH1 : H ≤ 16384 := by omega
    obtain ⟨S1, hS1⟩ : ∃ S1, (s.sides W H).1 = S1 := ⟨_, rfl⟩
    have HS1 := Hi hS1
    rw [hS1] at HSD HMK
    clear h ha hb hs hWH hn hS1
    have HMK := Hi (fun w0 (hl : LedAt w0 L S1) => (HMK.out w0 hl).mono (R' := fun e w' =>
      (if (S1.take n).2 = false then e = .returned (.tuple #[.pointer none, .int .i64 4]) ∧ LedAt w' L (S1.take n).1 else
       ∃ B g, e = .returned (.tuple #[.pointer (some ⟨B, 0, none⟩), .int .i64 0]) ∧ LedAt w' L (S1.take n).1 ∧ BufAt w' B ⟨L, g, zeros8 n, true⟩ ∧ w0.heap.size ≤ B ∧ w0.heap.size ≤ g) ∧ Chg (· = L) w0 w') fun e w' hh => by
        unfold MakePost at hh
        rw [if_neg (by omega)] at hh
        exact hh)
    cases ht : (S1.take n).2 with
    | false =>
      have HMK := Hi (fun w0 (hl : LedAt w0 L S1) => (HMK.out w0 hl).mono (R' := fun e w' => e = .returned (.tuple #[.pointer none, .int .i64 4]) ∧ LedAt w' L (S1.take n).1 ∧ Chg (· = L) w0 w') fun e w' hh => by rw [if_pos ht] at hh; exact ⟨hh.1.1, hh.1.2, hh.2⟩)
      have HT := Hi ht
      clear ht
      go_enter Tryz.func20, Tryz.ntmps20
      go_wp2_with (first
        | ((with_reducible refine skip_g rfl ?_ ?_); rfl; intro _)
        | (go_at_call 76; (with_reducible refine (HA.out _).mono ?_); rintro e w1 ⟨rfl, rfl⟩)
        | (go_at_call 76; (with_reducible refine (HB.out _).mono ?_); rintro e w1 ⟨rfl, rfl⟩)
        | ((go_at_call 77; (with_reducible refine (HSD.out).mono ?_); rintro e w1 ⟨rfl, hL, hC⟩); have H1 := Hi hL; have C1 := Hi hC; have lz1 := hL.lt; clear hL hC)
        | ((go_at_call 78; (with_reducible refine (HPR.out _ _ _ (obj1_new _ _ _)).mono ?_); rintro e w2 ⟨rfl, hb⟩); have C2 := Hi (((Chg.refl (fun _ => False) w1).alloc (.cells #[.int .i64 (W : Int), .int .i64 (H : Int), .int .i64 4] 3)).trans (chg_of_below hb _)); have H2 := Hi (H1.out.chg C2.out (fun h => h)); clear hb)
        | ((go_at_call 79; (with_reducible refine (HMK.out _ H2.out).mono ?_); rintro e w3 ⟨rfl, hL, hC⟩); have H3 := Hi hL; have C3 := Hi hC; clear hL hC))
      go_ret2
      unfold RNewPost
      rw [if_neg (fun hh => hh ⟨HAY.out, HBY.out⟩), if_neg (by rw [HS.out]; decide)]
      rw [show ((W : Int)).toNat = W from rfl, show ((H : Int)).toNat = H from rfl, HNN.out, HS1.out, if_pos HT.out]
      exact ⟨⟨rfl, H3.out⟩, (C1.out.trans (C2.out.mono (fun _ _ h => h.elim))).trans C3.out⟩
    | true =>
      have HMK := Hi (fun w0 (hl : LedAt w0 L S1) => (HMK.out w0 hl).mono (R' := fun e w' => ∃ B g, e = .returned (.tuple #[.pointer (some ⟨B, 0, none⟩), .int .i64 0]) ∧ LedAt w' L (S1.take n).1 ∧ BufAt w' B ⟨L, g, zeros8 n, true⟩ ∧ w0.heap.size ≤ B ∧ w0.heap.size ≤ g ∧ Chg (· = L) w0 w') fun e w' hh => by
        rw [if_neg (by rw [ht]; decide)] at hh
        obtain ⟨⟨B, g, h1, h2, h3, h4, h5⟩, h6⟩ := hh
        exact ⟨B, g, h1, h2, h3, h4, h5, h6⟩)
      have HT := Hi ht
      clear ht
      go_enter Tryz.func20, Tryz.ntmps20
      go_wp2_with (first
        | ((with_reducible refine skip_g rfl ?_ ?_); rfl; intro _)
        | (go_at_call 76; (with_reducible refine (HA.out _).mono ?_); rintro e w1 ⟨rfl, rfl⟩)
        | (go_at_call 76; (with_reducible refine (HB.out _).mono ?_); rintro e w1 ⟨rfl, rfl⟩)
        | ((go_at_call 77; (with_reducible refine (HSD.out).mono ?_); rintro e w1 ⟨rfl, hL, hC⟩); have H1 := Hi hL; have C1 := Hi hC; have lz1 := hL.lt; clear hL hC)
        | ((go_at_call 78; (with_reducible refine (HPR.out _ _ _ (obj1_new _ _ _)).mono ?_); rintro e w2 ⟨rfl, hb⟩); have C2 := Hi (((Chg.refl (fun _ => False) w1).alloc (.cells #[.int .i64 (W : Int), .int .i64 (H : Int), .int .i64 4] 3)).trans (chg_of_below hb _)); have H2 := Hi (H1.out.chg C2.out (fun h => h)); clear hb)
        | ((go_at_call 79; (with_reducible refine (HMK.out _ H2.out).mono ?_); rintro e w3 ⟨BB, gg, rfl, hL, hBf, hB1, hg1, hC⟩); have H3 := Hi hL; have C3 := Hi hC; have HBF := Hi hBf; have lB := hBf.lt; have lG := hBf.glt rfl; clear hL hC hBf))
      go_ret2
      have z1 := C1.out.size
      have z2 := C2.out.size
      have z3 := C3.out.size
      have hl3 := H3.out.lt
      have lG2 : gg < w3.heap.size := lG
      unfold RNewPost
      rw [if_neg (fun hh => hh ⟨HAY.out, HBY.out⟩), if_neg (by rw [HS.out]; decide)]
      rw [show ((W : Int)).toNat = W from rfl, show ((H : Int)).toNat = H from rfl, HNN.out, HS1.out, if_neg (by rw [HT.out]; decide)]
      have hC4 := (Chg.refl (fun _ => False) w3).alloc (.cells (Ras.cells ⟨L, W, H, BB, true, ⟨L, gg, zeros8 n, true⟩⟩).toArray 155)
      refine ⟨⟨w3.heap.size, BB, gg, rfl, H3.out.chg hC4 (fun h => h), ⟨obj1_new _ _ _, HBF.out.chg hC4 (fun h => h) (fun h => h), rfl, ?_, rfl, by show w3.heap.size ≠ BB; omega, by show w3.heap.size ≠ gg; omega, by show w3.heap.size ≠ L; omega, hW1, hH1⟩, by omega, by omega, by omega⟩, ((C1.out.trans (C2.out.mono (fun _ _ h => h.elim))).trans C3.out).trans (hC4.mono (fun _ _ h => h.elim))⟩
      show (zeros8 n).length = 4 * (W * H)
      rw [show (zeros8 n).length = n by simp [zeros8], ← HNN.out, Nat.mul_comm]
end Go.Proofs.YtlfbaggcfaenlaaGreat

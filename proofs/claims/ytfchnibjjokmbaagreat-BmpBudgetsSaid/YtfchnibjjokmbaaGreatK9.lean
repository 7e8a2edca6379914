/- Parts. -/
import Derived.Test.YtfchnibjjokmbaaGreatK8
import Derived.Test.YtfchnibjjokmbaaGreatK7
set_option linter.all false
set_option maxRecDepth 100000
set_option maxHeartbeats 16000000
open Go.Value renaming int → J, pointer → Y
open Go.IntKind renaming i64 → I, u8 → U
namespace Go.Proofs.YtfchnibjjokmbaaGreat
open Go.RowKit
theorem hread_any (X : Nat) (x : Sr) (l : Led) (f : Int) (w : World) (h : Pair w X x l) : Calls Tryz.prog 25 #[Y (some ⟨X, 0, none⟩), J I f] w (HReadPost w X x (aJ x l f)) := by
 cases hg : tkOk x l with
 | false => exact hread_bad X x l f w h hg
 | true => exact hread_good X x l f w h hg
def z40 : ByteArray := strOf [40, 0, 0, 0, 1, 0, 0, 0, 255, 255, 255, 255, 1, 0, 24, 0, 0, 0, 0, 0, 0, 0, 0, 0, 0, 0, 0, 0, 0, 0, 0, 0, 0, 0, 0, 0, 0, 0, 0, 0]
def entC (s : ByteArray) : List Value := [J U (aG s 2), J U (aG s 1), J U (aG s 0), J U 255]
def colsL (s : ByteArray) (k : Nat) : Nat → List Value
 | 0 => []
 | m + 1 => colsL s k m ++ entC (s.extract (m * k) s.size)
structure Ras where
 L : Nat
 w : Nat
 h : Nat
 B : Nat
 op : Bool
 b : Bf
def Ras.cells (r : Ras) : List Value := [Y (some ⟨r.L, 0, none⟩), J I r.w, J I r.h, Y (some ⟨r.B, 0, none⟩), .bool r.op]
structure RasAt (w : World) (R : Nat) (r : Ras) : Prop where
 obj : Obj1 w R r.cells.toArray 122
 buf : BufAt w r.B r.b
 bl : r.b.L = r.L
 len : r.b.d.length = 4 * (r.w * r.h)
 opn : r.b.op = r.op
 nb : R ≠ r.B
 ng : R ≠ r.b.g
 nl : R ≠ r.L
 sw : r.w ≤ 16384
 sh : r.h ≤ 16384
theorem RasAt.chg {S : Nat → Prop} {w w' : World} {R : Nat} {r : Ras} (h : RasAt w R r) (hc : Chg S w w') (h1 : ¬ S R) (h2 : ¬ S r.B) (h3 : ¬ S r.b.g) : RasAt w' R r :=
 ⟨hc.obj h.obj h1, h.buf.chg hc h2 h3, h.bl, h.len, h.opn, h.nb, h.ng, h.nl, h.sw, h.sh⟩
theorem RasAt.lt {w : World} {R : Nat} {r : Ras} (h : RasAt w R r) : R < w.heap.size := h.obj.lt
def Ras.inB (r : Ras) (x y : Int) : Bool := r.op && decide (0 ≤ x ∧ x < r.w ∧ 0 ≤ y ∧ y < r.h)
theorem rat_any (R : Nat) (r : Ras) (x y : Int) (w : World) (h : RasAt w R r) : Calls Tryz.prog 176 #[Y (some ⟨R, 0, none⟩), J I x, J I y] w fun e w' =>
 e = .returned (.tuple #[J I (if r.inB x y = true then 4 * (y * r.w + x) else 0), .bool (r.inB x y)]) ∧ w' = w := by
 have c1 := (h.obj.cell 1).trans (show _ = some (J I (r.w : Int)) from rfl)
 have c2 := (h.obj.cell 2).trans (show _ = some (J I (r.h : Int)) from rfl)
 have c4 := (h.obj.cell 4).trans (show _ = some (.bool r.op) from rfl)
 have hw := h.sw
 have hh := h.sh
 unfold Ras.inB
 obtain ⟨W, hW⟩ : ∃ W, r.w = W := ⟨_, rfl⟩
 obtain ⟨H, hH⟩ : ∃ H, r.h = H := ⟨_, rfl⟩
 rw [hW] at c1 hw ⊢
 rw [hH] at c2 hh ⊢
 cases ho : r.op with
 | false =>
   rw [ho] at c4
   clear h hW hH ho
   rw [Bool.false_and, if_neg (by decide)]
   go_enter Tryz.func176, Tryz.ntmps176
   go_wp2_with ((with_reducible refine aE rfl ?_ ?_); rfl; intro _)
   go_ret2
   exact ⟨rfl, rfl⟩
 | true =>
   rw [ho] at c4
   clear h hW hH ho
   rw [Bool.true_and]
   have hcase : (x < 0) ∨ (¬ x < 0 ∧ (W : Int) ≤ x) ∨ (¬ x < 0 ∧ ¬ (W : Int) ≤ x ∧ y < 0) ∨ (¬ x < 0 ∧ ¬ (W : Int) ≤ x ∧ ¬ y < 0 ∧ (H : Int) ≤ y) ∨ (¬ x < 0 ∧ ¬ (W : Int) ≤ x ∧ ¬ y < 0 ∧ ¬ (H : Int) ≤ y) := by omega
   rcases hcase with h1 | ⟨h1, h2⟩ | ⟨h1, h2, h3⟩ | ⟨h1, h2, h3, h4⟩ | ⟨h1, h2, h3, h4⟩
   · have E := Hi (show decide (0 ≤ x ∧ x < (W : Int) ∧ 0 ≤ y ∧ y < (H : Int)) = false by rw [decide_eq_false_iff_not]; omega)
     rw [E.out, if_neg (by decide)]
     go_enter Tryz.func176, Tryz.ntmps176
     go_wp2_with ((with_reducible refine aE rfl ?_ ?_); rfl; intro _)
     go_ret2
     exact ⟨rfl, rfl⟩
   · have E := Hi (show decide (0 ≤ x ∧ x < (W : Int) ∧ 0 ≤ y ∧ y < (H : Int)) = false by rw [decide_eq_false_iff_not]; omega)
     rw [E.out, if_neg (by decide)]
     go_enter Tryz.func176, Tryz.ntmps176
     go_wp2_with ((with_reducible refine aE rfl ?_ ?_); rfl; intro _)
     go_ret2
     exact ⟨rfl, rfl⟩
   · have E := Hi (show decide (0 ≤ x ∧ x < (W : Int) ∧ 0 ≤ y ∧ y < (H : Int)) = false by rw [decide_eq_false_iff_not]; omega)
     rw [E.out, if_neg (by decide)]
     go_enter Tryz.func176, Tryz.ntmps176
     go_wp2_with ((with_reducible refine aE rfl ?_ ?_); rfl; intro _)
     go_ret2
     exact ⟨rfl, rfl⟩
   · have E := Hi (show decide (0 ≤ x ∧ x < (W : Int) ∧ 0 ≤ y ∧ y < (H : Int)) = false by rw [decide_eq_false_iff_not]; omega)
     rw [E.out, if_neg (by decide)]
     go_enter Tryz.func176, Tryz.ntmps176
     go_wp2_with ((with_reducible refine aE rfl ?_ ?_); rfl; intro _)
     go_ret2
     exact ⟨rfl, rfl⟩
   · have E := Hi (show decide (0 ≤ x ∧ x < (W : Int) ∧ 0 ≤ y ∧ y < (H : Int)) = true by rw [decide_eq_true_iff]; omega)
     rw [E.out, if_pos rfl]
     obtain ⟨x, rfl⟩ := Int.eq_ofNat_of_zero_le (show 0 ≤ x by omega)
     obtain ⟨y, rfl⟩ := Int.eq_ofNat_of_zero_le (show 0 ≤ y by omega)
     have hyW : y * W ≤ 16384 * 16384 := Nat.mul_le_mul (by omega) hw
     have eM : (y : Int) * (W : Int) = ((y * W : Nat) : Int) := (Int.natCast_mul y W).symm
     obtain ⟨q, hq⟩ : ∃ q, y * W = q := ⟨_, rfl⟩
     rw [hq] at hyW eM
     rw [eM]
     have hq2 : q ≤ 268435456 := hyW
     clear hq E hyW
     go_enter Tryz.func176, Tryz.ntmps176
     go_wp2_with ((with_reducible refine aE rfl ?_ ?_); rfl; intro _)
     go_ret2
     exact ⟨rfl, rfl⟩
def RNewPost (w : World) (L : Nat) (s : Led) (a b : Int) (e : Ending) (w' : World) : Prop :=
 (if ¬ ((1 ≤ a ∧ a ≤ 16384) ∧ (1 ≤ b ∧ b ≤ 16384)) then e = .returned (.tuple #[Y none, J I 2]) ∧ LedAt w' L s else
  if (s.sides a b).2 = false then e = .returned (.tuple #[Y none, J I 4]) ∧ LedAt w' L (s.sides a b).1 else
  if ((s.sides a b).1.take (a.toNat * b.toNat * 4 : Nat)).2 = false then e = .returned (.tuple #[Y none, J I 4]) ∧ LedAt w' L ((s.sides a b).1.take (a.toNat * b.toNat * 4 : Nat)).1 else
  ∃ R B g, e = .returned (.tuple #[Y (some ⟨R, 0, none⟩), J I 0]) ∧ LedAt w' L ((s.sides a b).1.take (a.toNat * b.toNat * 4 : Nat)).1 ∧
   RasAt w' R ⟨L, a.toNat, b.toNat, B, true, ⟨L, g, aI (a.toNat * b.toNat * 4), true⟩⟩ ∧ w.heap.size ≤ R ∧ w.heap.size ≤ B ∧ w.heap.size ≤ g) ∧ Chg (· = L) w w'
theorem rasnew_any (L : Nat) (s : Led) (a b : Int) (w : World) (h : LedAt w L s) : Calls Tryz.prog 35 #[Y (some ⟨L, 0, none⟩), J I a, J I b] w (RNewPost w L s a b) := by
 have HL := Hi h
 have hll := h.lt
 have HA := Hi (fun w0 => rasside_any a w0)
 have HB := Hi (fun w0 => rasside_any b w0)
 have HSD := Hi (lsides_any L s a b w h)
 by_cases ha : 1 ≤ a ∧ a ≤ 16384
 rotate_left
 · have HN := Hi ha
   have HA := Hi (fun w0 => (HA.out w0).mono (R' := fun e w' => e = .returned (.bool false) ∧ w' = w0) fun e w' hh => by rw [decide_eq_false ha] at hh; exact hh)
   clear h ha
   go_enter Tryz.func35, Tryz.ntmps35
   go_wp2_with (first
    | ((with_reducible refine aE rfl ?_ ?_); rfl; intro _)
    | (go_at_call 79; (with_reducible refine (HA.out _).mono ?_); rintro e w1 ⟨rfl, rfl⟩))
   go_ret2
   unfold RNewPost
   rw [if_pos (fun hh => HN.out hh.1)]
   exact ⟨⟨rfl, HL.out⟩, Chg.refl _ _⟩
 have HAY := Hi ha
 have HA := Hi (fun w0 => (HA.out w0).mono (R' := fun e w' => e = .returned (.bool true) ∧ w' = w0) fun e w' hh => by rw [decide_eq_true ha] at hh; exact hh)
 by_cases hb : 1 ≤ b ∧ b ≤ 16384
 rotate_left
 · have HN := Hi hb
   have HB := Hi (fun w0 => (HB.out w0).mono (R' := fun e w' => e = .returned (.bool false) ∧ w' = w0) fun e w' hh => by rw [decide_eq_false hb] at hh; exact hh)
   by_cases hab : a = b
   · exact absurd (hab ▸ ha) hb
   clear h ha hb
   go_enter Tryz.func35, Tryz.ntmps35
   go_wp2_with (first
    | ((with_reducible refine aE rfl ?_ ?_); rfl; intro _)
    | (go_at_call 79; (with_reducible refine (HA.out _).mono ?_); rintro e w1 ⟨rfl, rfl⟩)
    | (go_at_call 79; (with_reducible refine (HB.out _).mono ?_); rintro e w1 ⟨rfl, rfl⟩))
   go_ret2
   unfold RNewPost
   rw [if_pos (fun hh => HN.out hh.2)]
   exact ⟨⟨rfl, HL.out⟩, Chg.refl _ _⟩
 have HBY := Hi hb
 have HB := Hi (fun w0 => (HB.out w0).mono (R' := fun e w' => e = .returned (.bool true) ∧ w' = w0) fun e w' hh => by rw [decide_eq_true hb] at hh; exact hh)
 cases hs : (s.sides a b).2 with
 | false =>
   have HSD := Hi (HSD.out.mono (R' := fun e w' => e = .returned (.bool false) ∧ LedAt w' L (s.sides a b).1 ∧ Chg (· = L) w w') fun e w' hh => by rw [hs] at hh; exact hh)
   have HS := Hi hs
   clear h ha hb hs
   go_enter Tryz.func35, Tryz.ntmps35
   go_wp2_with (first
    | ((with_reducible refine aE rfl ?_ ?_); rfl; intro _)
    | (go_at_call 79; (with_reducible refine (HA.out _).mono ?_); rintro e w1 ⟨rfl, rfl⟩)
    | (go_at_call 79; (with_reducible refine (HB.out _).mono ?_); rintro e w1 ⟨rfl, rfl⟩)
    | ((go_at_call 80; (with_reducible refine (HSD.out).mono ?_); rintro e w1 ⟨rfl, hL, hC⟩); have H1 := Hi hL; have C1 := Hi hC; clear hL hC))
   go_ret2
   unfold RNewPost
   rw [if_neg (fun hh => hh ⟨HAY.out, HBY.out⟩), if_pos HS.out]
   exact ⟨⟨rfl, H1.out⟩, C1.out⟩
 | true =>
   have HSD := Hi (HSD.out.mono (R' := fun e w' => e = .returned (.bool true) ∧ LedAt w' L (s.sides a b).1 ∧ Chg (· = L) w w') fun e w' hh => by rw [hs] at hh; exact hh)
   have HS := Hi hs
   obtain ⟨W, rfl⟩ := Int.eq_ofNat_of_zero_le (show 0 ≤ a by omega)
   obtain ⟨H, rfl⟩ := Int.eq_ofNat_of_zero_le (show 0 ≤ b by omega)
   have hWH : W * H ≤ 16384 * 16384 := Nat.mul_le_mul (by omega) (by omega)
   obtain ⟨n, hn⟩ : ∃ n, W * H * 4 = n := ⟨_, rfl⟩
   have hn2 : n ≤ 2147483648 := by omega
   have HPR := Hi (fun w0 B T (ho : Obj1 w0 B #[J I (W : Int), J I (H : Int), J I 4] T) => (show Calls Tryz.prog 81 #[.slice (some ⟨B, 0, none⟩) 3 3] w0 (fun e w' => e = .returned (.tuple #[J I n, .bool true]) ∧ Below w0.heap.size w0 w') from
    (prod3_any W H 4 B T w0 (by omega) (by omega) (by decide) ho).mono fun e w' hh => by rw [hn] at hh; exact hh))
   have HMK := Hi (fun w0 (hl : LedAt w0 L (s.sides W H).1) => bmake_any L (s.sides W H).1 n w0 hl (by omega))
   have HNN := Hi hn
   have hW1 : W ≤ 16384 := by omega
   have hH1 : H ≤ 16384 := by omega
   obtain ⟨S1, hS1⟩ : ∃ S1, (s.sides W H).1 = S1 := ⟨_, rfl⟩
   have HS1 := Hi hS1
   rw [hS1] at HSD HMK
   clear h ha hb hs hWH hn hS1
   have HMK := Hi (fun w0 (hl : LedAt w0 L S1) => (HMK.out w0 hl).mono (R' := fun e w' =>
    (if (S1.take n).2 = false then e = .returned (.tuple #[Y none, J I 4]) ∧ LedAt w' L (S1.take n).1 else
     ∃ B g, e = .returned (.tuple #[Y (some ⟨B, 0, none⟩), J I 0]) ∧ LedAt w' L (S1.take n).1 ∧ BufAt w' B ⟨L, g, aI n, true⟩ ∧ w0.heap.size ≤ B ∧ w0.heap.size ≤ g) ∧ Chg (· = L) w0 w') fun e w' hh => by
      unfold MakePost at hh
      rw [if_neg (by omega)] at hh
      exact hh)
   cases ht : (S1.take n).2 with
   | false =>
     have HMK := Hi (fun w0 (hl : LedAt w0 L S1) => (HMK.out w0 hl).mono (R' := fun e w' => e = .returned (.tuple #[Y none, J I 4]) ∧ LedAt w' L (S1.take n).1 ∧ Chg (· = L) w0 w') fun e w' hh => by rw [if_pos ht] at hh; exact ⟨hh.1.1, hh.1.2, hh.2⟩)
     have HT := Hi ht
     clear ht
     go_enter Tryz.func35, Tryz.ntmps35
     go_wp2_with (first
      | ((with_reducible refine aE rfl ?_ ?_); rfl; intro _)
      | (go_at_call 79; (with_reducible refine (HA.out _).mono ?_); rintro e w1 ⟨rfl, rfl⟩)
      | (go_at_call 79; (with_reducible refine (HB.out _).mono ?_); rintro e w1 ⟨rfl, rfl⟩)
      | ((go_at_call 80; (with_reducible refine (HSD.out).mono ?_); rintro e w1 ⟨rfl, hL, hC⟩); have H1 := Hi hL; have C1 := Hi hC; have lz1 := hL.lt; clear hL hC)
      | ((go_at_call 81; (with_reducible refine (HPR.out _ _ _ (aA _ _ _)).mono ?_); rintro e w2 ⟨rfl, hb⟩); have C2 := Hi (((Chg.refl (fun _ => False) w1).alloc (.cells #[J I (W : Int), J I (H : Int), J I 4] 3)).trans (aB hb _)); have H2 := Hi (H1.out.chg C2.out (fun h => h)); clear hb)
      | ((go_at_call 82; (with_reducible refine (HMK.out _ H2.out).mono ?_); rintro e w3 ⟨rfl, hL, hC⟩); have H3 := Hi hL; have C3 := Hi hC; clear hL hC))
     go_ret2
     unfold RNewPost
     rw [if_neg (fun hh => hh ⟨HAY.out, HBY.out⟩), if_neg (by rw [HS.out]; decide)]
     rw [show ((W : Int)).toNat = W from rfl, show ((H : Int)).toNat = H from rfl, HNN.out, HS1.out, if_pos HT.out]
     exact ⟨⟨rfl, H3.out⟩, (C1.out.trans (C2.out.mono (fun _ _ h => h.elim))).trans C3.out⟩
   | true =>
     have HMK := Hi (fun w0 (hl : LedAt w0 L S1) => (HMK.out w0 hl).mono (R' := fun e w' => ∃ B g, e = .returned (.tuple #[Y (some ⟨B, 0, none⟩), J I 0]) ∧ LedAt w' L (S1.take n).1 ∧ BufAt w' B ⟨L, g, aI n, true⟩ ∧ w0.heap.size ≤ B ∧ w0.heap.size ≤ g ∧ Chg (· = L) w0 w') fun e w' hh => by
      rw [if_neg (by rw [ht]; decide)] at hh
      obtain ⟨⟨B, g, h1, h2, h3, h4, h5⟩, h6⟩ := hh
      exact ⟨B, g, h1, h2, h3, h4, h5, h6⟩)
     have HT := Hi ht
     clear ht
     go_enter Tryz.func35, Tryz.ntmps35
     go_wp2_with (first
      | ((with_reducible refine aE rfl ?_ ?_); rfl; intro _)
      | (go_at_call 79; (with_reducible refine (HA.out _).mono ?_); rintro e w1 ⟨rfl, rfl⟩)
      | (go_at_call 79; (with_reducible refine (HB.out _).mono ?_); rintro e w1 ⟨rfl, rfl⟩)
      | ((go_at_call 80; (with_reducible refine (HSD.out).mono ?_); rintro e w1 ⟨rfl, hL, hC⟩); have H1 := Hi hL; have C1 := Hi hC; have lz1 := hL.lt; clear hL hC)
      | ((go_at_call 81; (with_reducible refine (HPR.out _ _ _ (aA _ _ _)).mono ?_); rintro e w2 ⟨rfl, hb⟩); have C2 := Hi (((Chg.refl (fun _ => False) w1).alloc (.cells #[J I (W : Int), J I (H : Int), J I 4] 3)).trans (aB hb _)); have H2 := Hi (H1.out.chg C2.out (fun h => h)); clear hb)
      | ((go_at_call 82; (with_reducible refine (HMK.out _ H2.out).mono ?_); rintro e w3 ⟨BB, gg, rfl, hL, hBf, hB1, hg1, hC⟩); have H3 := Hi hL; have C3 := Hi hC; have HBF := Hi hBf; have lB := hBf.lt; have lG := hBf.glt rfl; clear hL hC hBf))
     go_ret2
     have z1 := C1.out.size
     have z2 := C2.out.size
     have z3 := C3.out.size
     have hl3 := H3.out.lt
     have lG2 : gg < w3.heap.size := lG
     unfold RNewPost
     rw [if_neg (fun hh => hh ⟨HAY.out, HBY.out⟩), if_neg (by rw [HS.out]; decide)]
     rw [show ((W : Int)).toNat = W from rfl, show ((H : Int)).toNat = H from rfl, HNN.out, HS1.out, if_neg (by rw [HT.out]; decide)]
     have hC4 := (Chg.refl (fun _ => False) w3).alloc (.cells (Ras.cells ⟨L, W, H, BB, true, ⟨L, gg, aI n, true⟩⟩).toArray 122)
     refine ⟨⟨w3.heap.size, BB, gg, rfl, H3.out.chg hC4 (fun h => h), ⟨aA _ _ _, HBF.out.chg hC4 (fun h => h) (fun h => h), rfl, ?_, rfl, by show w3.heap.size ≠ BB; omega, by show w3.heap.size ≠ gg; omega, by show w3.heap.size ≠ L; omega, hW1, hH1⟩, by omega, by omega, by omega⟩, ((C1.out.trans (C2.out.mono (fun _ _ h => h.elim))).trans C3.out).trans (hC4.mono (fun _ _ h => h.elim))⟩
     show (aI n).length = 4 * (W * H)
     rw [show (aI n).length = n by simp [aI], ← HNN.out, Nat.mul_comm]
def put4 (d : List Int) (i : Nat) (c0 c1 c2 c3 : Int) : List Int := (((d.set i c0).set (i + 1) c1).set (i + 2) c2).set (i + 3) c3
theorem put4_len (d : List Int) (i : Nat) (c0 c1 c2 c3 : Int) : (put4 d i c0 c1 c2 c3).length = d.length := by unfold put4; simp
def Ras.set (r : Ras) (l : Led) (x y c0 c1 c2 c3 : Int) : (Ras × Led) × Bool :=
 if r.inB x y = false then ((r, l), false) else
 if (l.work 1).2 = false then ((r, (l.work 1).1), false) else
 (({ r with b := { r.b with d := put4 r.b.d (4 * (y.toNat * r.w + x.toNat)) c0 c1 c2 c3 } }, (l.work 1).1), true)
def rsS (r : Ras) (k : Nat) : Prop := k = r.L ∨ k = r.b.g
theorem rset_any (R : Nat) (r : Ras) (l : Led) (x y c0 c1 c2 c3 : Int) (w : World) (h : RasAt w R r) (hl : LedAt w r.L l) (h0 : 0 ≤ c0 ∧ c0 < 256) (h1 : 0 ≤ c1 ∧ c1 < 256) (h2 : 0 ≤ c2 ∧ c2 < 256) (h3 : 0 ≤ c3 ∧ c3 < 256) :
 Calls Tryz.prog 133 #[Y (some ⟨R, 0, none⟩), J I x, J I y, .agg #[J U c0, J U c1, J U c2, J U c3]] w fun e w' =>
  e = .returned (.bool (r.set l x y c0 c1 c2 c3).2) ∧ RasAt w' R (r.set l x y c0 c1 c2 c3).1.1 ∧ LedAt w' r.L (r.set l x y c0 c1 c2 c3).1.2 ∧ Chg (rsS r) w w' := by
 have HR := Hi h
 have HL := Hi hl
 have hRlt := h.lt
 have hLlt := hl.lt
 have hC1 := (Chg.refl (rsS r) w).alloc (.cells #[J U c0, J U c1, J U c2, J U c3] 104)
 have hC0 := (Chg.refl (fun _ => False) w).alloc (.cells #[J U c0, J U c1, J U c2, J U c3] 104)
 have hR1 := h.chg hC0 (fun h => h) (fun h => h) (fun h => h)
 have hL1 := hl.chg hC0 (fun h => h)
 have O7 := Hi (aA w #[J U c0, J U c1, J U c2, J U c3] 104)
 have HAT := Hi (rat_any R r x y _ hR1)
 have HWK := Hi (work_any r.L l 1 _ hL1)
 have hnl : r.b.g ≠ r.L := by rw [← h.bl]; exact h.buf.gl
 have hBL : r.B ≠ r.L := by rw [← h.bl]; exact h.buf.nl
 unfold Ras.set
 cases hin : r.inB x y with
 | false =>
   rw [if_pos rfl]
   have HAT := Hi (HAT.out.mono (R' := fun e w' => e = .returned (.tuple #[J I 0, .bool false]) ∧ w' = _) fun e w' hh => by rw [hin] at hh; exact hh)
   have H1 := Hi hR1
   have H2 := Hi hL1
   have H3 := Hi hC1
   clear h hl hR1 hL1 hC1 hC0 hin
   go_enter Tryz.func133, Tryz.ntmps133
   go_wp2_with (first
    | ((with_reducible refine aE rfl ?_ ?_); rfl; intro _)
    | ((go_at_call 176; (with_reducible refine (HAT.out).mono ?_); rintro e w1 ⟨rfl, rfl⟩)))
   go_ret
   exact ⟨rfl, H1.out, H2.out, H3.out⟩
 | true =>
 rw [if_neg (by decide)]
 have k0 := (hR1.obj.cell 0).trans (show _ = some (Y (some ⟨r.L, 0, none⟩)) from rfl)
 cases hk : (l.work 1).2 with
 | false =>
   rw [if_pos rfl]
   have HAT := Hi (HAT.out.mono (R' := fun e w' => e = .returned (.tuple #[J I (4 * (y * r.w + x)), .bool true]) ∧ w' = _) fun e w' hh => by rw [hin, if_pos rfl] at hh; exact hh)
   have HWK := Hi (HWK.out.mono (R' := fun e w' => e = .returned (.bool false) ∧ LedAt w' r.L (l.work 1).1 ∧ Chg (· = r.L) _ w') fun e w' hh => by rw [hk] at hh; exact hh)
   have H1 := Hi hR1
   have H3 := Hi hC1
   obtain ⟨Q, hQ⟩ : ∃ q : Int, 4 * (y * r.w + x) = q := ⟨_, rfl⟩
   rw [hQ] at HAT
   have HRL := Hi h.nl
   obtain ⟨LL, hLL⟩ : ∃ LL, r.L = LL := ⟨_, rfl⟩
   have HNL := Hi hnl
   have HBL := Hi hBL
   rw [hLL] at k0 HWK
   have HLL := Hi hLL
   clear h hl hR1 hL1 hC1 hC0 hin hk hQ hnl hBL hLL
   go_enter Tryz.func133, Tryz.ntmps133
   go_wp2_with (first
    | ((with_reducible refine aE rfl ?_ ?_); rfl; intro _)
    | ((go_at_call 176; (with_reducible refine (HAT.out).mono ?_); rintro e w1 ⟨rfl, rfl⟩))
    | ((go_at_call 148; (with_reducible refine (HWK.out).mono ?_); rintro e w2 ⟨rfl, hL, hC⟩); have HL2 := Hi hL; have HC2 := Hi hC; clear hL hC))
   go_ret
   have e1 := HLL.out
   exact ⟨rfl, H1.out.chg HC2.out (by rw [← e1]; exact HRL.out) (by rw [← e1]; exact HBL.out) (by rw [← e1]; exact HNL.out), by rw [e1]; exact HL2.out, H3.out.trans (HC2.out.mono (fun j _ hj => Or.inl (by rw [e1]; exact hj)))⟩
 | true =>
 rw [if_neg (by decide)]
 have hop : r.op = true ∧ (0 ≤ x ∧ x < r.w ∧ 0 ≤ y ∧ y < r.h) := by
  unfold Ras.inB at hin
  rw [Bool.and_eq_true, decide_eq_true_eq] at hin
  exact hin
 obtain ⟨ho, hx0, hx1, hy0, hy1⟩ := hop
 obtain ⟨x, rfl⟩ := Int.eq_ofNat_of_zero_le hx0
 obtain ⟨y, rfl⟩ := Int.eq_ofNat_of_zero_le hy0
 have hbo : r.b.op = true := h.opn.trans ho
 have hlen := h.len
 have hbsz := h.buf.sz
 obtain ⟨P, hP⟩ : ∃ P, 4 * (y * r.w + x) = P := ⟨_, rfl⟩
 have hPI : 4 * ((y : Int) * (r.w : Int) + (x : Int)) = (P : Int) := by rw [← hP, ← Int.natCast_mul]; omega
 have hPb : P + 4 ≤ r.b.d.length := by
  rw [hlen, ← hP]
  have h5 : (y + 1) * r.w ≤ r.h * r.w := Nat.mul_le_mul_right _ (by omega)
  rw [Nat.add_mul, Nat.one_mul] at h5
  rw [Nat.mul_comm r.w r.h]
  omega
 have HAT := Hi (HAT.out.mono (R' := fun e w' => e = .returned (.tuple #[J I P, .bool true]) ∧ w' = _) fun e w' hh => by rw [hin, if_pos rfl, hPI] at hh; exact hh)
 have HWK := Hi (HWK.out.mono (R' := fun e w' => e = .returned (.bool true) ∧ LedAt w' r.L (l.work 1).1 ∧ Chg (· = r.L) _ w') fun e w' hh => by rw [hk] at hh; exact hh)
 rw [show ((y : Int)).toNat = y from rfl, show ((x : Int)).toNat = x from rfl, hP]
 have step : ∀ (w0 : World) (b : Bf) (k : Nat) (c : Int), b.op = true → b.d.length = r.b.d.length → k < 4 → 0 ≤ c ∧ c < 256 → BufAt w0 r.B b →
  Calls Tryz.prog 177 #[Y (some ⟨r.B, 0, none⟩), J I ((P : Int) + (k : Int)), J U c] w0 fun e w' => e = .returned (.bool true) ∧ BufAt w' r.B { b with d := b.d.set (P + k) c } ∧ Chg (· = b.g) w0 w' := by
  intro w0 b k c hbo hbl hk4 hc hB
  have ht : b.there ((P : Int) + (k : Int)) 1 = true := by
   unfold Bf.there
   rw [hbo, hbl, decide_eq_true (show (0 : Int) ≤ (P : Int) + k by omega), decide_eq_true (show (0 : Int) ≤ 1 by decide), decide_eq_true (show (P : Int) + k ≤ (r.b.d.length : Int) by omega), decide_eq_true (show (1 : Int) ≤ (r.b.d.length : Int) - ((P : Int) + k) by omega)]
   rfl
  refine (bset_any r.B b _ c w0 hB (by omega) hc).mono ?_
  rintro e w' ⟨he, hb, hcg⟩
  unfold Bf.set at hb
  rw [ht, show ((P : Int) + (k : Int)).toNat = P + k by omega] at hb
  rw [ht] at he
  exact ⟨he, hb, hcg⟩
 have HS0 := Hi (fun w0 (hB : BufAt w0 r.B r.b) => (show Calls Tryz.prog 177 #[Y (some ⟨r.B, 0, none⟩), J I P, J U c0] w0 (fun e w' => e = .returned (.bool true) ∧ BufAt w' r.B { r.b with d := r.b.d.set P c0 } ∧ Chg (· = r.b.g) w0 w') from by
  have := step w0 r.b 0 c0 hbo rfl (by decide) h0 hB
  rw [show (P : Int) + ((0 : Nat) : Int) = P by simp] at this
  exact this))
 have HS1 := Hi (fun w0 (hB : BufAt w0 r.B { r.b with d := r.b.d.set P c0 }) => (show Calls Tryz.prog 177 #[Y (some ⟨r.B, 0, none⟩), J I ((P : Int) + 1), J U c1] w0 (fun e w' => e = .returned (.bool true) ∧ BufAt w' r.B { r.b with d := (r.b.d.set P c0).set (P + 1) c1 } ∧ Chg (· = r.b.g) w0 w') from
  step w0 { r.b with d := r.b.d.set P c0 } 1 c1 hbo (by simp) (by decide) h1 hB))
 have HS2 := Hi (fun w0 (hB : BufAt w0 r.B { r.b with d := (r.b.d.set P c0).set (P + 1) c1 }) => (show Calls Tryz.prog 177 #[Y (some ⟨r.B, 0, none⟩), J I ((P : Int) + 2), J U c2] w0 (fun e w' => e = .returned (.bool true) ∧ BufAt w' r.B { r.b with d := ((r.b.d.set P c0).set (P + 1) c1).set (P + 2) c2 } ∧ Chg (· = r.b.g) w0 w') from
  step w0 { r.b with d := (r.b.d.set P c0).set (P + 1) c1 } 2 c2 hbo (by simp) (by decide) h2 hB))
 have HS3 := Hi (fun w0 (hB : BufAt w0 r.B { r.b with d := ((r.b.d.set P c0).set (P + 1) c1).set (P + 2) c2 }) => (show Calls Tryz.prog 177 #[Y (some ⟨r.B, 0, none⟩), J I ((P : Int) + 3), J U c3] w0 (fun e w' => e = .returned (.bool true) ∧ BufAt w' r.B { r.b with d := put4 r.b.d P c0 c1 c2 c3 } ∧ Chg (· = r.b.g) w0 w') from
  step w0 { r.b with d := ((r.b.d.set P c0).set (P + 1) c1).set (P + 2) c2 } 3 c3 hbo (by simp) (by decide) h3 hB))
 have FIN := Hi (fun w' (hO : Obj1 w' R r.cells.toArray 122) (hB : BufAt w' r.B { r.b with d := put4 r.b.d P c0 c1 c2 c3 }) => (show RasAt w' R { r with b := { r.b with d := put4 r.b.d P c0 c1 c2 c3 } } from ⟨hO, hB, h.bl, by show (put4 _ _ _ _ _ _).length = _; rw [put4_len]; exact h.len, h.opn, h.nb, h.ng, h.nl, h.sw, h.sh⟩))
 have e1 : r.cells.toArray = #[Y (some ⟨r.L, 0, none⟩), J I r.w, J I r.h, Y (some ⟨r.B, 0, none⟩), .bool true] := by unfold Ras.cells; rw [ho]
 have OR := Hi (show Obj1 (w.alloc (.cells #[J U c0, J U c1, J U c2, J U c3] 104)) R #[Y (some ⟨r.L, 0, none⟩), J I r.w, J I r.h, Y (some ⟨r.B, 0, none⟩), .bool true] 122 by rw [← e1]; exact hR1.obj)
 rw [e1] at FIN
 have BF := Hi hR1.buf
 have hgl := h.buf.glt hbo
 have hRg := h.ng
 have hRL := h.nl
 have CH := Hi hC1
 have HNG := Hi hnl
 unfold rsS at CH ⊢
 obtain ⟨B, hB⟩ : ∃ B, r.B = B := ⟨_, rfl⟩
 obtain ⟨g, hg⟩ : ∃ g, r.b.g = g := ⟨_, rfl⟩
 obtain ⟨LL, hLL⟩ : ∃ L, r.L = L := ⟨_, rfl⟩
 have HBe := Hi hB
 have HGe := Hi hg
 have HLe := Hi hLL
 rw [hB] at HS0 HS1 HS2 HS3 FIN OR BF hBL
 rw [hg] at HS0 HS1 HS2 HS3 CH hnl hgl hRg ⊢
 rw [hLL] at OR HWK k0 CH hLlt hnl hBL hRL FIN HNG ⊢
 have hP31 : P ≤ 2147483648 := by omega
 have hBLh := Hi hBL
 have hgB := Hi (show g ≠ B by rw [← hg, ← hB]; exact fun e => h.buf.ne e.symm)
 clear step h hl hR1 hL1 hC1 hC0 hin hk ho hx0 hx1 hy0 hy1 hbo hlen hP hPI hPb hB hg hLL e1 hbsz hBL
 have hix0 : ∀ w0 : World, (Instr.index 250 (.agg #[J U c0, J U c1, J U c2, J U c3]) (J I 0)).run Tryz.prog w0 = .ok (J U c0) w0 := fun _ => by kernel_rfl
 have hix1 : ∀ w0 : World, (Instr.index 250 (.agg #[J U c0, J U c1, J U c2, J U c3]) (J I 1)).run Tryz.prog w0 = .ok (J U c1) w0 := fun _ => by kernel_rfl
 have hix2 : ∀ w0 : World, (Instr.index 250 (.agg #[J U c0, J U c1, J U c2, J U c3]) (J I 2)).run Tryz.prog w0 = .ok (J U c2) w0 := fun _ => by kernel_rfl
 have hix3 : ∀ w0 : World, (Instr.index 250 (.agg #[J U c0, J U c1, J U c2, J U c3]) (J I 3)).run Tryz.prog w0 = .ok (J U c3) w0 := fun _ => by kernel_rfl
 go_enter Tryz.func133, Tryz.ntmps133
 go_wp2_with (first
  | ((with_reducible refine aE rfl ?_ ?_); rfl; intro _)
  | ((go_at_call 176; (with_reducible refine (HAT.out).mono ?_); rintro e w1 ⟨rfl, rfl⟩))
  | ((go_at_call 148; (with_reducible refine (HWK.out).mono ?_); rintro e w2 ⟨rfl, hL, hC⟩); have HLD := Hi hL; have CH := Hi (CH.out.trans (hC.mono (fun j _ hj => Or.inl hj))); have O7 := Hi (hC.obj O7.out (show ¬ w.heap.size = LL by omega)); have OR := Hi (hC.obj OR.out hRL); have BF := Hi (BF.out.chg hC hBLh.out HNG.out); have d0 := (O7.out.cell 0).trans (show _ = some (J U c0) from rfl); have d1 := (O7.out.cell 1).trans (show _ = some (J U c1) from rfl); have d2 := (O7.out.cell 2).trans (show _ = some (J U c2) from rfl); have d3 := (O7.out.cell 3).trans (show _ = some (J U c3) from rfl); have k3 := (OR.out.cell 3).trans (show _ = some (Y (some ⟨B, 0, none⟩)) from rfl); clear hL hC))
 clear d0 d1 d2 d3 k0
 refine wp_loop_rounds 5 ?_
 rw [rounds_succ]
 go_wp2_with ((go_at_call 177; (with_reducible refine (HS0.out _ BF.out).mono ?_); rintro e w0 ⟨rfl, hB, hC⟩); have BF := Hi hB; have CH := Hi (CH.out.trans (hC.mono (fun j _ hj => Or.inr hj))); have O7 := Hi (hC.obj O7.out (show ¬ w.heap.size = g by omega)); have OR := Hi (hC.obj OR.out hRg); have HLD := Hi (HLD.out.chg hC (show ¬ LL = g from fun e => hnl e.symm)); have k3 := (OR.out.cell 3).trans (show _ = some (Y (some ⟨B, 0, none⟩)) from rfl); clear hB hC)
 rw [rounds_succ]
 go_wp2_with ((go_at_call 177; (with_reducible refine (HS1.out _ BF.out).mono ?_); rintro e w1 ⟨rfl, hB, hC⟩); have BF := Hi hB; have CH := Hi (CH.out.trans (hC.mono (fun j _ hj => Or.inr hj))); have O7 := Hi (hC.obj O7.out (show ¬ w.heap.size = g by omega)); have OR := Hi (hC.obj OR.out hRg); have HLD := Hi (HLD.out.chg hC (show ¬ LL = g from fun e => hnl e.symm)); have k3 := (OR.out.cell 3).trans (show _ = some (Y (some ⟨B, 0, none⟩)) from rfl); clear hB hC)
 rw [rounds_succ]
 go_wp2_with ((go_at_call 177; (with_reducible refine (HS2.out _ BF.out).mono ?_); rintro e w2 ⟨rfl, hB, hC⟩); have BF := Hi hB; have CH := Hi (CH.out.trans (hC.mono (fun j _ hj => Or.inr hj))); have O7 := Hi (hC.obj O7.out (show ¬ w.heap.size = g by omega)); have OR := Hi (hC.obj OR.out hRg); have HLD := Hi (HLD.out.chg hC (show ¬ LL = g from fun e => hnl e.symm)); have k3 := (OR.out.cell 3).trans (show _ = some (Y (some ⟨B, 0, none⟩)) from rfl); clear hB hC)
 rw [rounds_succ]
 go_wp2_with ((go_at_call 177; (with_reducible refine (HS3.out _ BF.out).mono ?_); rintro e w3 ⟨rfl, hB, hC⟩); have BF := Hi hB; have CH := Hi (CH.out.trans (hC.mono (fun j _ hj => Or.inr hj))); have O7 := Hi (hC.obj O7.out (show ¬ w.heap.size = g by omega)); have OR := Hi (hC.obj OR.out hRg); have HLD := Hi (HLD.out.chg hC (show ¬ LL = g from fun e => hnl e.symm)); have k3 := (OR.out.cell 3).trans (show _ = some (Y (some ⟨B, 0, none⟩)) from rfl); clear hB hC)
 rw [rounds_succ]
 go_wp2_with fail
 go_ret
 have e1 : r.B = B := HBe.out
 have e2 : r.b.g = g := HGe.out
 have e3 : r.L = LL := HLe.out
 subst e1 e2 e3
 exact ⟨rfl, FIN.out _ OR.out BF.out, HLD.out, CH.out⟩
def Ras.shut (r : Ras) : Ras := { r with op := false, b := r.b.shut }
theorem rimage_yes (R : Nat) (r : Ras) (w : World) (h : RasAt w R r) (ho : r.op = true) : Calls Tryz.prog 22 #[Y (some ⟨R, 0, none⟩)] w fun e w' =>
 e = .returned (.tuple #[.agg #[J I r.w, J I r.h, .slice (some ⟨r.b.g, 0, none⟩) r.b.d.length r.b.d.length], .bool true]) ∧ RasAt w' R r.shut ∧ Obj1 w' r.b.g (aY r.b.d).toArray 5 ∧ Chg (fun k => k = R ∨ k = r.B) w w' := by
 have hbo : r.b.op = true := h.opn.trans ho
 have H := Hi h
 obtain ⟨d, hd⟩ : ∃ d, w.heap.size = d := ⟨_, rfl⟩
 have hRd := h.lt
 have hBd := h.buf.lt
 have hgd := h.buf.glt hbo
 have hRB := h.nb
 have hRg := h.ng
 have hBg := h.buf.ne
 have e1 : r.cells.toArray = #[Y (some ⟨r.L, 0, none⟩), J I r.w, J I r.h, Y (some ⟨r.B, 0, none⟩), .bool true] := by unfold Ras.cells; rw [ho]
 have OR := Hi ((show Obj1 w R #[Y (some ⟨r.L, 0, none⟩), J I r.w, J I r.h, Y (some ⟨r.B, 0, none⟩), .bool true] 122 by rw [← e1]; exact h.obj).alloc (.cells #[J I 0, J I 0, .slice none 0 0] 29))
 have O2 := Hi (aA w #[J I 0, J I 0, .slice none 0 0] 29)
 have CH := Hi ((Chg.refl (fun k => k = R ∨ k = r.B) w).alloc (.cells #[J I 0, J I 0, .slice none 0 0] 29))
 have BF := Hi (h.buf.chg ((Chg.refl (fun _ => False) w).alloc (.cells #[J I 0, J I 0, .slice none 0 0] 29)) (fun h => h) (fun h => h))
 have OG := Hi ((h.buf.dat hbo).alloc (.cells #[J I 0, J I 0, .slice none 0 0] 29))
 have HOUT := Hi (fun w0 (hB : BufAt w0 r.B r.b) => (bout_any r.B r.b w0 hB).mono (R' := fun e w' => e = .returned (.tuple #[.slice (some ⟨r.b.g, 0, none⟩) r.b.d.length r.b.d.length, .bool true]) ∧ BufAt w' r.B r.b.shut ∧ Chg (· = r.B) w0 w') fun e w' hh => by
  unfold Bf.out at hh; rw [hbo] at hh; exact hh)
 have FIN := Hi (fun w' (hO : Obj1 w' R #[Y (some ⟨r.L, 0, none⟩), J I r.w, J I r.h, Y (some ⟨r.B, 0, none⟩), .bool false] 122) (hB : BufAt w' r.B r.b.shut) => (show RasAt w' R r.shut from ⟨hO, hB, H.out.bl, H.out.len, rfl, H.out.nb, H.out.ng, H.out.nl, H.out.sw, H.out.sh⟩))
 have hsw := h.sw
 have hsh := h.sh
 rw [hd] at O2 hRd hBd hgd
 obtain ⟨B, hB⟩ : ∃ B, r.B = B := ⟨_, rfl⟩
 obtain ⟨g, hg⟩ : ∃ g, r.b.g = g := ⟨_, rfl⟩
 obtain ⟨m, hm⟩ : ∃ m, r.b.d.length = m := ⟨_, rfl⟩
 obtain ⟨W, hW⟩ : ∃ W, r.w = W := ⟨_, rfl⟩
 obtain ⟨HH, hH⟩ : ∃ HH, r.h = HH := ⟨_, rfl⟩
 have HBe := Hi hB
 have HGe := Hi hg
 have HDe := Hi hd
 rw [hB] at OR CH BF HOUT FIN hBd hRB hBg ⊢
 rw [hg] at OG HOUT hgd hRg hBg ⊢
 rw [hm] at HOUT ⊢
 rw [hW] at OR FIN hsw ⊢
 rw [hH] at OR FIN hsh ⊢
 clear h ho hbo e1 hB hg hm hW hH
 go_enter Tryz.func22, Tryz.ntmps22
 go_upto_region 1 with (fail)
 clear hd
 generalize World.alloc _ _ = wr at OR O2 CH BF OG ⊢
 have c4 := (OR.out.cell 4).trans (show _ = some (.bool true) from rfl)
 have f4 := OR.out.frozen 4
 go_upto_region 4 with (fail)
 have OR := Hi ((OR.out.set 4 (.bool false)).cells (show _ = #[Y (some ⟨r.L, 0, none⟩), J I W, J I HH, Y (some ⟨B, 0, none⟩), .bool false] from rfl))
 have O2 := Hi (O2.out.set_other ⟨R, 4, none⟩ (.bool false) (by simp; omega))
 have OG := Hi (OG.out.set_other ⟨R, 4, none⟩ (.bool false) (by simp; omega))
 have BF := Hi (BF.out.chg ((Chg.refl (fun k => k = R) wr).set ⟨R, 4, none⟩ (.bool false) (Or.inl rfl)) (show ¬ B = R from fun e => hRB e.symm) (show ¬ r.b.g = R by have := HGe.out; omega))
 have CH := Hi (CH.out.set ⟨R, 4, none⟩ (.bool false) (Or.inl (Or.inl rfl)))
 generalize World.setCell _ _ _ = wv at OR O2 CH BF OG ⊢
 clear c4 f4
 obtain ⟨wr, rfl⟩ : ∃ z, z = wv := ⟨_, rfl⟩
 have c3 := (OR.out.cell 3).trans (show _ = some (Y (some ⟨B, 0, none⟩)) from rfl)
 go_upto_region 5 with ((go_at_call 56; (with_reducible refine (HOUT.out _ BF.out).mono ?_); rintro e w3 ⟨rfl, hB, hC⟩); have BF := Hi hB; have OR := Hi (hC.obj OR.out hRB); have O2 := Hi (hC.obj O2.out (show ¬ d = B by omega)); have OG := Hi (hC.obj OG.out (show ¬ g = B from fun e => hBg e.symm)); have CH := Hi (CH.out.trans (hC.mono (fun k _ hk => Or.inr hk))); clear hB hC)
 clear c3
 obtain ⟨wr, rfl⟩ : ∃ z, z = w3 := ⟨_, rfl⟩
 refine wp_region_noPanic ?_
 refine wp_region_T (fun w' => w' = World.drew wr) (fun i => decide (10 ≤ i)) (by kernel_rfl) ?_
 have OR := Hi (OR.out.drew)
 have O2 := Hi (O2.out.drew)
 have BF := Hi (BF.out.chg (Chg.refl (fun _ => False) _).drew (fun h => h) (fun h => h))
 have OG := Hi (OG.out.drew)
 have CH := Hi (CH.out.drew)
 generalize World.drew _ = wk at OR O2 BF OG CH ⊢
 refine zT 0 (Y (some ⟨R, 0, none⟩)) rfl rfl ?_ (hy := fun w hS => by subst hS; (go_simp) <;> first | rfl | assumption | (intro hh; exfalso; omega) | (exact (aF _ (by omega) (by omega)).trans (by omega)) | omega)
 refine zT 1 (Y (some ⟨R, 0, none⟩)) rfl rfl ?_ (hy := fun w hS => by subst hS; go_simp)
 refine zT 2 (Y (some ⟨R, 1, none⟩)) rfl rfl ?_ (hy := fun w hS => by subst hS; (go_simp) <;> first | rfl | assumption | (intro hh; exfalso; omega) | (exact (aF _ (by omega) (by omega)).trans (by omega)) | omega)
 refine zT 3 (J I (W : Int)) rfl rfl ?_ (hy := fun w hS => by subst hS; (have hc : w.cell? ⟨R, 1, none⟩ = some (J I (W : Int)) := ((OR.out.cell 1).trans rfl); go_simp))
 refine zT 4 (Y (some ⟨R, 0, none⟩)) rfl rfl ?_ (hy := fun w hS => by subst hS; (go_simp) <;> first | rfl | assumption | (intro hh; exfalso; omega) | (exact (aF _ (by omega) (by omega)).trans (by omega)) | omega)
 refine zT 5 (Y (some ⟨R, 0, none⟩)) rfl rfl ?_ (hy := fun w hS => by subst hS; go_simp)
 refine zT 6 (Y (some ⟨R, 2, none⟩)) rfl rfl ?_ (hy := fun w hS => by subst hS; (go_simp) <;> first | rfl | assumption | (intro hh; exfalso; omega) | (exact (aF _ (by omega) (by omega)).trans (by omega)) | omega)
 refine zT 7 (J I (HH : Int)) rfl rfl ?_ (hy := fun w hS => by subst hS; (have hc : w.cell? ⟨R, 2, none⟩ = some (J I (HH : Int)) := ((OR.out.cell 2).trans rfl); go_simp))
 refine zT 8 (.slice (some ⟨g, 0, none⟩) m m) rfl rfl ?_ (hy := fun w hS => by subst hS; (go_simp) <;> first | rfl | assumption | (intro hh; exfalso; omega) | (exact (aF _ (by omega) (by omega)).trans (by omega)) | omega)
 refine zT 9 (.agg #[J I W, J I HH, .slice (some ⟨g, 0, none⟩) m m]) rfl rfl ?_ (hy := fun w hS => by subst hS; go_simp)
 refine wpAnyT_one (i := 10) (by kernel_rfl) rfl rfl ?_
 intro K' hK
 rw [if_pos (by rfl)]
 refine wp_store_mid 29 _ _ rfl d 0 (List.toArray [J I W, J I HH, .slice (some ⟨g, 0, none⟩) m m]) rfl rfl (O2.out.there 0 3 (by simp)) (by kernel_rfl) (all_oneCell_toArray (List.all_eq_true.1 (by rfl))) ?_
 simp only [Act.put, zq1, zq2, zq3, zq4, zq5, zq6]
 have hst : Stored wk d 0 [J I W, J I HH, .slice (some ⟨g, 0, none⟩) m m] (wk.setCells d 0 [J I W, J I HH, .slice (some ⟨g, 0, none⟩) m m]) := rfl
 have O2 := Hi (hst.whole O2.out (by first | rfl | simp))
 have OR := Hi (hst.oth OR.out (by omega))
 have OG := Hi (hst.oth OG.out (by omega))
 have hcg := Stored.chgS (S := fun k => k = d) hst (Chg.refl _ wk) (Or.inl rfl)
 have BF := Hi (BF.out.chg hcg (by show ¬ B = d; omega) (by show ¬ r.b.g = d; have := HGe.out; omega))
 have CH := Hi (Stored.chgS hst CH.out (Or.inr (by have := HDe.out; omega)))
 generalize World.setCells _ _ _ _ = wk2 at O2 OR OG BF CH ⊢
 clear hst hcg
 refine hK _ _ ?_
 clear hK K'
 try simp only [Act.put, zq1, zq2, zq3, zq4, zq5, zq6]
 refine wpAnyT_one (i := 11) (by kernel_rfl) rfl rfl ?_
 intro K' hK
 go_simp
 refine hK _ _ ?_
 clear hK K'
 try simp only [Act.put, zq1, zq2, zq3, zq4, zq5, zq6]
 refine wpAnyT_done (by kernel_rfl) ?_ _
 refine NoPanic.normal ?_
 go_wp2_with fail
 refine bodyPost_ret (v := .tuple #[.agg (List.toArray [J I W, J I HH, .slice (some ⟨g, 0, none⟩) m m]), .bool true]) ?_ rfl ?_
 · exact ag Tryz.results22 _ _ _ [J I W, J I HH, .slice (some ⟨g, 0, none⟩) m m] _ rfl O2.out.range0 Tryz.underlying29 rfl (by kernel_rfl)
 · have e1 : r.B = B := HBe.out
   have e2 : r.b.g = g := HGe.out
   subst e1 e2
   exact ⟨rfl, FIN.out _ OR.out BF.out, OG.out, CH.out⟩
theorem fold_data3 (l : List Int) : ∀ r : ByteArray, (l.foldl (fun r n => r.push (UInt8.ofNat n.toNat)) r).data.toList = r.data.toList ++ l.map (fun n => UInt8.ofNat n.toNat) := by
 induction l with
 | nil => intro r; simp
 | cons a l ih => intro r; rw [List.foldl_cons, ih]; simp [ByteArray.data_push]
theorem byN_strOf3 (l : List Int) (i : Nat) (x : Int) (h : l[i]? = some x) (h0 : 0 ≤ x) (h1 : x < 256) : aG (strOf l) i = x := by
 unfold aG strOf
 rw [fold_data3]
 rw [show (ByteArray.empty.data.toList ++ l.map (fun n => UInt8.ofNat n.toNat)) = l.map (fun n => UInt8.ofNat n.toNat) from rfl, List.getD_eq_getElem?_getD, List.getElem?_map, h]
 show ((UInt8.ofNat x.toNat).toNat : Int) = x
 rw [UInt8.toNat_ofNat']
 omega
theorem strOf_size3 (l : List Int) : (strOf l).size = l.length := by
 have h := congrArg List.length (fold_data3 l ByteArray.empty)
 rw [List.length_append, List.length_map] at h
 have h0 : ByteArray.empty.data.toList.length = 0 := rfl
 rw [h0, Nat.zero_add] at h
 rw [Array.length_toList] at h
 exact h
def sizeK (k : Int) : Int := if k = 2 then 2 else if k = 3 then 3 else 4
theorem sizes_any (w : World) : Calls Tryz.prog 194 #[] w fun e w' => e = .returned (.agg #[J I 0, J I 0, J I 2, J I 3, J I 4, J I 4]) ∧ Chg (fun _ => False) w w' := by
 go_enter Tryz.func194, Tryz.ntmps194
 go_wp2
 refine bodyPost_ret (v := .agg (List.toArray [J I 0, J I 0, J I 2, J I 3, J I 4, J I 4])) ?_ rfl ⟨rfl, (Chg.refl _ _).alloc _⟩
 exact aD Tryz.results194 _ _ w.heap.size [J I 0, J I 0, J I 2, J I 3, J I 4, J I 4] _ rfl (Obj1.range0 (T := 264) (aA _ _ _)) Tryz.underlying264 rfl (by kernel_rfl)
theorem psize_any (k : Int) (w : World) (hk : k = 2 ∨ k = 3 ∨ k = 4 ∨ k = 5) : Calls Tryz.prog 166 #[J I k] w fun e w' => e = .returned (J I (sizeK k)) ∧ Chg (fun _ => False) w w' := by
 rcases hk with rfl | rfl | rfl | rfl
 all_goals
  go_enter Tryz.func166, Tryz.ntmps166
  go_wp2_with (first
   | ((with_reducible refine aE rfl ?_ ?_); rfl; intro _)
   | ((go_at_call 194; (with_reducible refine (sizes_any _).mono ?_); rintro e w1 ⟨rfl, hC⟩)))
  go_ret
  exact ⟨rfl, hC.alloc _⟩
theorem pentry_any (s : ByteArray) (k : Int) (w : World) (hk : k = 3 ∨ k = 4) (hs : sizeK k ≤ s.size) : Calls Tryz.prog 167 #[.string s, J I k] w fun e w' => e = .returned (.tuple #[.agg #[J U (aG s 2), J U (aG s 1), J U (aG s 0), J U 255], .bool true]) ∧ Chg (fun _ => False) w w' := by
 have hz : sizeK k = k := by rcases hk with rfl | rfl <;> rfl
 have HSZ := Hi (fun w0 => (psize_any k w0 (by omega)).mono (R' := fun e w' => e = .returned (J I k) ∧ Chg (fun _ => False) w0 w') fun e w' hh => by rw [hz] at hh; exact hh)
 rw [hz] at hs
 have h3 : 3 ≤ s.size := by omega
 have q0 : 0 < s.size := by omega
 have q1 : 1 < s.size := by omega
 have q2 : 2 < s.size := by omega
 have g0 := aX s 0 q0
 have g1 := aX s 1 q1
 have g2 := aX s 2 q2
 have k0 : (k == 0) = false := by rcases hk with rfl | rfl <;> rfl
 have k2 : (k == 2) = false := by rcases hk with rfl | rfl <;> rfl
 have k5 : (k == 5) = false := by rcases hk with rfl | rfl <;> rfl
 have hsk : ¬ ((s.size : Int) < k) := by omega
 have O4 := Hi (aA w #[J U 0, J U 0, J U 0, J U 0] 104)
 have CH := Hi ((Chg.refl (fun _ => False) w).alloc (.cells #[J U 0, J U 0, J U 0, J U 0] 104))
 obtain ⟨d, hd⟩ : ∃ d, w.heap.size = d := ⟨_, rfl⟩
 have HDe := Hi hd
 rw [hd] at O4
 clear hz hs hk
 go_enter Tryz.func167, Tryz.ntmps167
 go_upto_region 1 with (fail)
 clear hd
 generalize World.alloc _ _ = wr at O4 CH ⊢
 have ld := O4.out.lt
 go_upto_region 10 with (first
  | ((with_reducible refine aE rfl ?_ ?_); rfl; intro _)
  | ((go_at_call 166; (with_reducible refine (HSZ.out _).mono ?_); rintro e w1 ⟨rfl, hC⟩); have O4 := Hi (hC.obj O4.out (fun h => h)); have CH := Hi (CH.out.trans hC); clear hC))
 obtain ⟨wr, rfl⟩ : ∃ z, z = w1 := ⟨_, rfl⟩
 refine wp_region_noPanic ?_
 refine wp_region_T (fun w' => w' = World.drew wr) (fun i => decide (7 ≤ i)) (by kernel_rfl) ?_
 have O4 := Hi (O4.out.drew)
 have CH := Hi (CH.out.drew)
 generalize World.drew _ = wk at O4 CH ⊢
 refine zT 0 (.string s) rfl rfl ?_ (hy := fun w hS => by subst hS; (go_simp) <;> first | rfl | assumption | (intro hh; exfalso; omega) | (exact (aF _ (by omega) (by omega)).trans (by omega)) | omega)
 refine zT 1 (J U (aG s 2)) rfl rfl ?_ (hy := fun w hS => by subst hS; (go_simp) <;> first | rfl | assumption | (intro hh; exfalso; omega) | (exact (aF _ (by omega) (by omega)).trans (by omega)) | omega)
 refine zT 2 (.string s) rfl rfl ?_ (hy := fun w hS => by subst hS; (go_simp) <;> first | rfl | assumption | (intro hh; exfalso; omega) | (exact (aF _ (by omega) (by omega)).trans (by omega)) | omega)
 refine zT 3 (J U (aG s 1)) rfl rfl ?_ (hy := fun w hS => by subst hS; (go_simp) <;> first | rfl | assumption | (intro hh; exfalso; omega) | (exact (aF _ (by omega) (by omega)).trans (by omega)) | omega)
 refine zT 4 (.string s) rfl rfl ?_ (hy := fun w hS => by subst hS; (go_simp) <;> first | rfl | assumption | (intro hh; exfalso; omega) | (exact (aF _ (by omega) (by omega)).trans (by omega)) | omega)
 refine zT 5 (J U (aG s 0)) rfl rfl ?_ (hy := fun w hS => by subst hS; (go_simp) <;> first | rfl | assumption | (intro hh; exfalso; omega) | (exact (aF _ (by omega) (by omega)).trans (by omega)) | omega)
 refine zT 6 (.agg #[J U (aG s 2), J U (aG s 1), J U (aG s 0), J U 255]) rfl rfl ?_ (hy := fun w hS => by subst hS; go_simp)
 refine wpAnyT_one (i := 7) (by kernel_rfl) rfl rfl ?_
 intro K' hK
 rw [if_pos (by rfl)]
 refine wp_store_mid 104 _ _ rfl d 0 (List.toArray [J U (aG s 2), J U (aG s 1), J U (aG s 0), J U 255]) rfl rfl (O4.out.there 0 4 (by simp)) (by kernel_rfl) (all_oneCell_toArray (List.all_eq_true.1 (by rfl))) ?_
 simp only [Act.put, zq1, zq2, zq3, zq4, zq5, zq6]
 have hst : Stored wk d 0 [J U (aG s 2), J U (aG s 1), J U (aG s 0), J U 255] (wk.setCells d 0 [J U (aG s 2), J U (aG s 1), J U (aG s 0), J U 255]) := rfl
 have O4 := Hi (hst.whole O4.out (by first | rfl | simp))
 have CH := Hi (Stored.chgS hst CH.out (Or.inr (by have := HDe.out; omega)))
 generalize World.setCells _ _ _ _ = wk2 at O4 CH ⊢
 clear hst
 refine hK _ _ ?_
 clear hK K'
 try simp only [Act.put, zq1, zq2, zq3, zq4, zq5, zq6]
 refine wpAnyT_one (i := 8) (by kernel_rfl) rfl rfl ?_
 intro K' hK
 go_simp
 refine hK _ _ ?_
 clear hK K'
 try simp only [Act.put, zq1, zq2, zq3, zq4, zq5, zq6]
 refine wpAnyT_done (by kernel_rfl) ?_ _
 refine NoPanic.normal ?_
 go_wp2_with fail
 refine bodyPost_ret (v := .tuple #[.agg (List.toArray [J U (aG s 2), J U (aG s 1), J U (aG s 0), J U 255]), .bool true]) ?_ rfl ⟨rfl, CH.out⟩
 exact ag Tryz.results167 _ _ _ [J U (aG s 2), J U (aG s 1), J U (aG s 0), J U 255] _ rfl O4.out.range0 Tryz.underlying104 rfl (by kernel_rfl)
structure Pal where
 B : Nat
 b : Bf
 n : Nat
 most : Nat
structure PalAt (w : World) (P : Nat) (p : Pal) : Prop where
 obj : Obj1 w P #[Y (some ⟨p.B, 0, none⟩), J I p.n, J I p.most] 209
 buf : BufAt w p.B p.b
 len : p.b.d.length = 4 * p.most
 opn : p.b.op = true
 nm : p.n ≤ p.most
 mo : p.most ≤ 65536
 nb : P ≠ p.B
 ng : P ≠ p.b.g
 nl : P ≠ p.b.L
theorem PalAt.chg {S : Nat → Prop} {w w' : World} {P : Nat} {p : Pal} (h : PalAt w P p) (hc : Chg S w w') (h1 : ¬ S P) (h2 : ¬ S p.B) (h3 : ¬ S p.b.g) : PalAt w' P p :=
 ⟨hc.obj h.obj h1, h.buf.chg hc h2 h3, h.len, h.opn, h.nm, h.mo, h.nb, h.ng, h.nl⟩
theorem PalAt.lt {w : World} {P : Nat} {p : Pal} (h : PalAt w P p) : P < w.heap.size := h.obj.lt
def Pal.ent (p : Pal) (i : Nat) : ByteArray := strOf ((p.b.d.drop (4 * i)).take 4)
theorem Pal.ent_size (p : Pal) (i : Nat) (h : p.b.d.length = 4 * p.most) (hi : i < p.most) : (p.ent i).size = 4 := by
 unfold Pal.ent; rw [strOf_size3, List.length_take, List.length_drop]; omega
def Pal.has (p : Pal) (i : Int) : Bool := decide (0 ≤ i ∧ i < p.n)
def colS4 (s : ByteArray) : Value := .agg #[J U (aG s 0), J U (aG s 1), J U (aG s 2), J U (aG s 3)]
def colZ4 : Value := .agg #[J U 0, J U 0, J U 0, J U 0]
theorem pof_any (P : Nat) (p : Pal) (i : Int) (w : World) (h : PalAt w P p) : Calls Tryz.prog 200 #[Y (some ⟨P, 0, none⟩), J I i] w fun e w' =>
 e = .returned (.tuple #[if p.has i = true then colS4 (p.ent i.toNat) else colZ4, .bool (p.has i)]) ∧ Chg (fun _ => False) w w' := by
 have O4 := Hi (aA w #[J U 0, J U 0, J U 0, J U 0] 104)
 have hC := (Chg.refl (fun _ => False) w).alloc (.cells #[J U 0, J U 0, J U 0, J U 0] 104)
 have CH := Hi hC
 have h1 := h.chg hC (fun h => h) (fun h => h) (fun h => h)
 have c1 := (h1.obj.cell 1).trans (show _ = some (J I (p.n : Int)) from rfl)
 have c0 := (h1.obj.cell 0).trans (show _ = some (Y (some ⟨p.B, 0, none⟩)) from rfl)
 obtain ⟨d, hd⟩ : ∃ d, w.heap.size = d := ⟨_, rfl⟩
 have HDe := Hi hd
 rw [hd] at O4
 have hnm := h.nm
 have hmo := h.mo
 have hcase : (i < 0) ∨ (¬ i < 0 ∧ (p.n : Int) ≤ i) ∨ (¬ i < 0 ∧ ¬ (p.n : Int) ≤ i) := by omega
 rcases hcase with g1 | ⟨g1, g2⟩ | ⟨g1, g2⟩
 · have HE := Hi (show p.has i = false by unfold Pal.has; rw [decide_eq_false_iff_not]; omega)
   rw [HE.out, if_neg (by decide)]
   clear h h1 hC
   go_enter Tryz.func200, Tryz.ntmps200
   go_wp2_with (first
    | ((with_reducible refine aE rfl ?_ ?_); rfl; intro _)
    | (refine so 104 4 d [J U 0, J U 0, J U 0, J U 0] O4.out ?_; intro ws hst hO; have O4 := Hi hO; have CH := Hi (Stored.chgS hst CH.out (Or.inr (by have := HDe.out; omega))); clear hst hO))
   refine bodyPost_ret (v := .tuple #[colZ4, .bool false]) ?_ rfl ⟨rfl, CH.out⟩
   exact ag Tryz.results200 _ _ _ [J U 0, J U 0, J U 0, J U 0] _ rfl O4.out.range0 Tryz.underlying104 rfl (by kernel_rfl)
 · have HE := Hi (show p.has i = false by unfold Pal.has; rw [decide_eq_false_iff_not]; omega)
   rw [HE.out, if_neg (by decide)]
   clear h h1 hC
   go_enter Tryz.func200, Tryz.ntmps200
   go_wp2_with (first
    | ((with_reducible refine aE rfl ?_ ?_); rfl; intro _)
    | (refine so 104 4 d [J U 0, J U 0, J U 0, J U 0] O4.out ?_; intro ws hst hO; have O4 := Hi hO; have CH := Hi (Stored.chgS hst CH.out (Or.inr (by have := HDe.out; omega))); clear hst hO))
   refine bodyPost_ret (v := .tuple #[colZ4, .bool false]) ?_ rfl ⟨rfl, CH.out⟩
   exact ag Tryz.results200 _ _ _ [J U 0, J U 0, J U 0, J U 0] _ rfl O4.out.range0 Tryz.underlying104 rfl (by kernel_rfl)
 · have HE := Hi (show p.has i = true by unfold Pal.has; rw [decide_eq_true_iff]; omega)
   rw [HE.out, if_pos rfl]
   obtain ⟨i, rfl⟩ := Int.eq_ofNat_of_zero_le (show 0 ≤ i by omega)
   have ht : p.b.there (4 * (i : Int)) 4 = true := by
    have := h.len
    unfold Bf.there
    rw [h.opn, decide_eq_true (show (0 : Int) ≤ 4 * (i : Int) by omega), decide_eq_true (show (0 : Int) ≤ 4 by decide), decide_eq_true (show 4 * (i : Int) ≤ (p.b.d.length : Int) by omega), decide_eq_true (show (4 : Int) ≤ (p.b.d.length : Int) - 4 * (i : Int) by omega)]
    rfl
   have hes := p.ent_size i h.len (by omega)
   have HGT := Hi (fun w0 (hb : BufAt w0 p.B p.b) => (bget_any p.B p.b (4 * (i : Int)) 4 w0 hb (by omega) (by decide)).mono (R' := fun e w' => e = .returned (.tuple #[.string (p.ent i), .bool true]) ∧ w' = w0) fun e w' hh => by
    unfold Bf.get at hh
    rw [ht, if_pos rfl, show (4 * (i : Int)).toNat = 4 * i by omega] at hh
    exact hh)
   rw [show ((i : Int)).toNat = i from rfl]
   unfold colS4
   obtain ⟨s, hs⟩ : ∃ s, p.ent i = s := ⟨_, rfl⟩
   rw [hs] at HGT hes ⊢
   have BF := Hi h1.buf
   have q0 : 0 < s.size := by omega
   have q1 : 1 < s.size := by omega
   have q2 : 2 < s.size := by omega
   have q3 : 3 < s.size := by omega
   have b0 := aX s 0 q0
   have b1 := aX s 1 q1
   have b2 := aX s 2 q2
   have b3 := aX s 3 q3
   obtain ⟨B, hB⟩ : ∃ B, p.B = B := ⟨_, rfl⟩
   rw [hB] at c0 HGT BF
   clear h h1 hC ht hs hB
   go_enter Tryz.func200, Tryz.ntmps200
   go_upto_region 1 with (fail)
   clear hd
   generalize World.alloc _ _ = wr at O4 CH c0 c1 BF ⊢
   have ld := O4.out.lt
   go_upto_region 4 with (first
    | ((with_reducible refine aE rfl ?_ ?_); rfl; intro _)
    | ((go_at_call 180; (with_reducible refine (HGT.out _ BF.out).mono ?_); rintro e w1 ⟨rfl, rfl⟩)))
   obtain ⟨wr, rfl⟩ : ∃ z, z = w1 := ⟨_, rfl⟩
   refine wp_region_noPanic ?_
   refine wp_region_T (fun w' => w' = World.drew wr) (fun i => decide (9 ≤ i)) (by kernel_rfl) ?_
   have O4 := Hi (O4.out.drew)
   have CH := Hi (CH.out.drew)
   generalize World.drew _ = wk at O4 CH ⊢
   refine zT 0 (.string s) rfl rfl ?_ (hy := fun w hS => by subst hS; (go_simp) <;> first | rfl | assumption | (intro hh; exfalso; omega) | (exact (aF _ (by omega) (by omega)).trans (by omega)) | omega)
   refine zT 1 (J U (aG s 0)) rfl rfl ?_ (hy := fun w hS => by subst hS; (go_simp) <;> first | rfl | assumption | (intro hh; exfalso; omega) | (exact (aF _ (by omega) (by omega)).trans (by omega)) | omega)
   refine zT 2 (.string s) rfl rfl ?_ (hy := fun w hS => by subst hS; (go_simp) <;> first | rfl | assumption | (intro hh; exfalso; omega) | (exact (aF _ (by omega) (by omega)).trans (by omega)) | omega)
   refine zT 3 (J U (aG s 1)) rfl rfl ?_ (hy := fun w hS => by subst hS; (go_simp) <;> first | rfl | assumption | (intro hh; exfalso; omega) | (exact (aF _ (by omega) (by omega)).trans (by omega)) | omega)
   refine zT 4 (.string s) rfl rfl ?_ (hy := fun w hS => by subst hS; (go_simp) <;> first | rfl | assumption | (intro hh; exfalso; omega) | (exact (aF _ (by omega) (by omega)).trans (by omega)) | omega)
   refine zT 5 (J U (aG s 2)) rfl rfl ?_ (hy := fun w hS => by subst hS; (go_simp) <;> first | rfl | assumption | (intro hh; exfalso; omega) | (exact (aF _ (by omega) (by omega)).trans (by omega)) | omega)
   refine zT 6 (.string s) rfl rfl ?_ (hy := fun w hS => by subst hS; (go_simp) <;> first | rfl | assumption | (intro hh; exfalso; omega) | (exact (aF _ (by omega) (by omega)).trans (by omega)) | omega)
   refine zT 7 (J U (aG s 3)) rfl rfl ?_ (hy := fun w hS => by subst hS; (go_simp) <;> first | rfl | assumption | (intro hh; exfalso; omega) | (exact (aF _ (by omega) (by omega)).trans (by omega)) | omega)
   refine zT 8 (.agg #[J U (aG s 0), J U (aG s 1), J U (aG s 2), J U (aG s 3)]) rfl rfl ?_ (hy := fun w hS => by subst hS; go_simp)
   refine wpAnyT_one (i := 9) (by kernel_rfl) rfl rfl ?_
   intro K' hK
   rw [if_pos (by rfl)]
   refine wp_store_mid 104 _ _ rfl d 0 (List.toArray [J U (aG s 0), J U (aG s 1), J U (aG s 2), J U (aG s 3)]) rfl rfl (O4.out.there 0 4 (by simp)) (by kernel_rfl) (all_oneCell_toArray (List.all_eq_true.1 (by rfl))) ?_
   simp only [Act.put, zq1, zq2, zq3, zq4, zq5, zq6]
   have hst : Stored wk d 0 [J U (aG s 0), J U (aG s 1), J U (aG s 2), J U (aG s 3)] (wk.setCells d 0 [J U (aG s 0), J U (aG s 1), J U (aG s 2), J U (aG s 3)]) := rfl
   have O4 := Hi (hst.whole O4.out (by first | rfl | simp))
   have CH := Hi (Stored.chgS hst CH.out (Or.inr (by have := HDe.out; omega)))
   generalize World.setCells _ _ _ _ = wk2 at O4 CH ⊢
   clear hst
   refine hK _ _ ?_
   clear hK K'
   try simp only [Act.put, zq1, zq2, zq3, zq4, zq5, zq6]
   refine wpAnyT_one (i := 10) (by kernel_rfl) rfl rfl ?_
   intro K' hK
   go_simp
   refine hK _ _ ?_
   clear hK K'
   try simp only [Act.put, zq1, zq2, zq3, zq4, zq5, zq6]
   refine wpAnyT_done (by kernel_rfl) ?_ _
   refine NoPanic.normal ?_
   go_wp2_with fail
   refine bodyPost_ret (v := .tuple #[.agg (List.toArray [J U (aG s 0), J U (aG s 1), J U (aG s 2), J U (aG s 3)]), .bool true]) ?_ rfl ⟨rfl, CH.out⟩
   exact ag Tryz.results200 _ _ _ [J U (aG s 0), J U (aG s 1), J U (aG s 2), J U (aG s 3)] _ rfl O4.out.range0 Tryz.underlying104 rfl (by kernel_rfl)
def PNewPost (w : World) (L : Nat) (s : Led) (m : Int) (e : Ending) (w' : World) : Prop :=
 (if ¬ (1 ≤ m ∧ m ≤ 65536) then e = .returned (.tuple #[Y none, J I 2]) ∧ LedAt w' L s else
  if (s.take (4 * m)).2 = false then e = .returned (.tuple #[Y none, J I 4]) ∧ LedAt w' L (s.take (4 * m)).1 else
  ∃ P B g, e = .returned (.tuple #[Y (some ⟨P, 0, none⟩), J I 0]) ∧ LedAt w' L (s.take (4 * m)).1 ∧
   PalAt w' P ⟨B, ⟨L, g, aI (4 * m.toNat), true⟩, 0, m.toNat⟩ ∧ w.heap.size ≤ P ∧ w.heap.size ≤ B ∧ w.heap.size ≤ g) ∧ Chg (· = L) w w'
theorem pnew_any (L : Nat) (s : Led) (m : Int) (w : World) (h : LedAt w L s) : Calls Tryz.prog 129 #[Y (some ⟨L, 0, none⟩), J I m] w (PNewPost w L s m) := by
 have HL := Hi h
 have hll := h.lt
 by_cases ha : 1 ≤ m ∧ m ≤ 65536
 rotate_left
 · have HN := Hi ha
   clear h
   rcases (show m < 1 ∨ (¬ m < 1 ∧ 65536 < m) by omega) with h1 | ⟨h1, h2⟩
   all_goals
    clear ha
    go_enter Tryz.func129, Tryz.ntmps129
    go_wp2_with ((with_reducible refine aE rfl ?_ ?_); rfl; intro _)
    go_ret2
    unfold PNewPost
    rw [if_pos HN.out]
    exact ⟨⟨rfl, HL.out⟩, Chg.refl _ _⟩
 have HY := Hi ha
 obtain ⟨m, rfl⟩ := Int.eq_ofNat_of_zero_le (show 0 ≤ m by omega)
 have HMK := Hi ((bmake_any L s (4 * (m : Int)) w h (by omega)).mono (R' := fun e w' =>
  (if (s.take (4 * (m : Int))).2 = false then e = .returned (.tuple #[Y none, J I 4]) ∧ LedAt w' L (s.take (4 * (m : Int))).1 else
   ∃ B g, e = .returned (.tuple #[Y (some ⟨B, 0, none⟩), J I 0]) ∧ LedAt w' L (s.take (4 * (m : Int))).1 ∧ BufAt w' B ⟨L, g, aI (4 * m), true⟩ ∧ w.heap.size ≤ B ∧ w.heap.size ≤ g) ∧ Chg (· = L) w w') fun e w' hh => by
    unfold MakePost at hh
    rw [if_neg (by omega), show (4 * (m : Int)).toNat = 4 * m by omega] at hh
    exact hh)
 have h1 : ¬ (m : Int) < 1 := by omega
 have h2 : ¬ 65536 < (m : Int) := by omega
 have hm16 : m ≤ 65536 := by omega
 clear h ha
 cases ht : (s.take (4 * (m : Int))).2 with
 | false =>
   have HMK := Hi (HMK.out.mono (R' := fun e w' => e = .returned (.tuple #[Y none, J I 4]) ∧ LedAt w' L (s.take (4 * (m : Int))).1 ∧ Chg (· = L) w w') fun e w' hh => by rw [if_pos ht] at hh; exact ⟨hh.1.1, hh.1.2, hh.2⟩)
   have HT := Hi ht
   clear ht
   go_enter Tryz.func129, Tryz.ntmps129
   go_wp2_with (first
    | ((with_reducible refine aE rfl ?_ ?_); rfl; intro _)
    | ((go_at_call 82; (with_reducible refine (HMK.out).mono ?_); rintro e w3 ⟨rfl, hL, hC⟩); have H3 := Hi hL; have C3 := Hi hC; clear hL hC))
   go_ret2
   unfold PNewPost
   rw [if_neg (fun hh => hh HY.out), if_pos HT.out]
   exact ⟨⟨rfl, H3.out⟩, C3.out⟩
 | true =>
   have HMK := Hi (HMK.out.mono (R' := fun e w' => ∃ B g, e = .returned (.tuple #[Y (some ⟨B, 0, none⟩), J I 0]) ∧ LedAt w' L (s.take (4 * (m : Int))).1 ∧ BufAt w' B ⟨L, g, aI (4 * m), true⟩ ∧ w.heap.size ≤ B ∧ w.heap.size ≤ g ∧ Chg (· = L) w w') fun e w' hh => by
    rw [if_neg (by rw [ht]; decide)] at hh
    obtain ⟨⟨B, g, h1, h2, h3, h4, h5⟩, h6⟩ := hh
    exact ⟨B, g, h1, h2, h3, h4, h5, h6⟩)
   have HT := Hi ht
   clear ht
   go_enter Tryz.func129, Tryz.ntmps129
   go_wp2_with (first
    | ((with_reducible refine aE rfl ?_ ?_); rfl; intro _)
    | ((go_at_call 82; (with_reducible refine (HMK.out).mono ?_); rintro e w3 ⟨BB, gg, rfl, hL, hBf, hB1, hg1, hC⟩); have H3 := Hi hL; have C3 := Hi hC; have HBF := Hi hBf; have lB := hBf.lt; have lG := hBf.glt rfl; clear hL hC hBf))
   go_ret2
   have z3 := C3.out.size
   have hl3 := H3.out.lt
   have lG2 : gg < w3.heap.size := lG
   unfold PNewPost
   rw [if_neg (fun hh => hh HY.out), if_neg (by rw [HT.out]; decide), show ((m : Int)).toNat = m from rfl]
   have hC4 := (Chg.refl (fun _ => False) w3).alloc (.cells #[Y (some ⟨BB, 0, none⟩), J I 0, J I m] 209)
   exact ⟨⟨w3.heap.size, BB, gg, rfl, H3.out.chg hC4 (fun h => h), ⟨aA _ _ _, HBF.out.chg hC4 (fun h => h) (fun h => h), by simp [aI], rfl, Nat.zero_le _, hm16, by show w3.heap.size ≠ BB; omega, by show w3.heap.size ≠ gg; omega, by show w3.heap.size ≠ L; omega⟩, by omega, by omega, by omega⟩, C3.out.trans (hC4.mono (fun _ _ h => h.elim))⟩
theorem bytesI_strOf (L : List Int) (h : ∀ x ∈ L, 0 ≤ x ∧ x < 256) : bytesI (strOf L) = L := by
 unfold bytesI
 have h1 : (strOf L).data.toList = L.map (fun n => UInt8.ofNat n.toNat) := fold_data3 L ByteArray.empty
 rw [h1, List.map_map]
 have : ∀ x ∈ L, ((fun b : UInt8 => (b.toNat : Int)) ∘ fun n => UInt8.ofNat n.toNat) x = x := by
  intro x hx
  have hb := h x hx
  show (((UInt8.ofNat x.toNat).toNat : Nat) : Int) = x
  rw [UInt8.toNat_ofNat']
  omega
 rw [List.map_congr_left this, List.map_id']
def Pal.add (p : Pal) (c : List Int) : Pal := { p with b := { p.b with d := p.b.d.take (4 * p.n) ++ (c ++ p.b.d.drop (4 * p.n + 4)) }, n := p.n + 1 }
theorem padd_any (P : Nat) (p : Pal) (c0 c1 c2 c3 : Int) (w : World) (h : PalAt w P p) (hn : p.n < p.most) (hb : ∀ x ∈ [c0, c1, c2, c3], 0 ≤ x ∧ x < 256) : Calls Tryz.prog 168 #[Y (some ⟨P, 0, none⟩), .agg #[J U c0, J U c1, J U c2, J U c3]] w fun e w' =>
 e = .returned (.bool true) ∧ PalAt w' P (p.add [c0, c1, c2, c3]) ∧ Chg (fun k => k = P ∨ k = p.b.g) w w' := by
 have HP := Hi h
 have hC := (Chg.refl (fun _ => False) w).alloc (.cells #[J U c0, J U c1, J U c2, J U c3] 104)
 have h1 := h.chg hC (fun h => h) (fun h => h) (fun h => h)
 have CH := Hi hC
 have OP := Hi h1.obj
 have O3 := Hi (aA w #[J U c0, J U c1, J U c2, J U c3] 104)
 obtain ⟨d, hd⟩ : ∃ d, w.heap.size = d := ⟨_, rfl⟩
 have HDe := Hi hd
 rw [hd] at O3
 have hPd := h.lt
 have hgd := h.buf.glt h.opn
 have hBd := h.buf.lt
 have hPB := h.nb
 have hPg := h.ng
 have hBg := h.buf.ne
 rw [hd] at hPd hgd hBd
 have hmo := h.mo
 have hlen := h.len
 have hsz4 : (strOf [c0, c1, c2, c3]).size = 4 := by rw [strOf_size3]; rfl
 have ht : p.b.there (4 * (p.n : Int)) ((strOf [c0, c1, c2, c3]).size) = true := by
  unfold Bf.there
  rw [hsz4, h.opn, decide_eq_true (show (0 : Int) ≤ 4 * (p.n : Int) by omega), decide_eq_true (show (0 : Int) ≤ ((4 : Nat) : Int) by decide), decide_eq_true (show 4 * (p.n : Int) ≤ (p.b.d.length : Int) by omega), decide_eq_true (show ((4 : Nat) : Int) ≤ (p.b.d.length : Int) - 4 * (p.n : Int) by omega)]
  rfl
 have HPUT := Hi (fun w0 (hB : BufAt w0 p.B p.b) => (fput_any p.B p.b (4 * (p.n : Int)) (strOf [c0, c1, c2, c3]) w0 hB (by omega) (by rw [hsz4]; decide) (by rw [hsz4]; decide)).mono (R' := fun e w' => e = .returned (.bool true) ∧ BufAt w' p.B (p.add [c0, c1, c2, c3]).b ∧ Chg (· = p.b.g) w0 w') fun e w' hh => by
  unfold Bf.put at hh
  rw [ht, if_pos rfl, hsz4, bytesI_strOf _ hb, show (4 * (p.n : Int)).toNat = 4 * p.n by omega] at hh
  exact hh)
 have HCV := Hi (fun (w0 : World) (pn : Nat) (ho : Obj1 w0 pn #[J U c0, J U c1, J U c2, J U c3] 5) => (show (convert 27 9 (.slice (some ⟨pn, 0, none⟩) 4 4)).run Tryz.prog w0 = .ok (.string (strOf [c0, c1, c2, c3])) w0 from
  part_string (P := Tryz.prog) (d := [c0, c1, c2, c3]) (T := 5) ho 0 4 4 (by show 0 + 4 ≤ 4; decide) 27 9 5 Tryz.underlying27 Tryz.underlying5 Tryz.underlying9))
 have FIN := Hi (fun w' (hO : Obj1 w' P #[Y (some ⟨p.B, 0, none⟩), J I ((p.n : Int) + 1), J I p.most] 209) (hB : BufAt w' p.B (p.add [c0, c1, c2, c3]).b) => (show PalAt w' P (p.add [c0, c1, c2, c3]) from
  ⟨by have e1 : (((p.add [c0, c1, c2, c3]).n : Nat) : Int) = (p.n : Int) + 1 := by show ((p.n + 1 : Nat) : Int) = _; omega
      rw [e1]; exact hO, hB, by show (p.b.d.take (4 * p.n) ++ ([c0, c1, c2, c3] ++ p.b.d.drop (4 * p.n + 4))).length = _; rw [List.length_append, List.length_append, List.length_take, List.length_drop, hlen]; show _ = 4 * p.most; simp; omega, HP.out.opn, by show p.n + 1 ≤ p.most; omega, HP.out.mo, HP.out.nb, HP.out.ng, HP.out.nl⟩))
 obtain ⟨B, hB⟩ : ∃ B, p.B = B := ⟨_, rfl⟩
 obtain ⟨g, hg⟩ : ∃ g, p.b.g = g := ⟨_, rfl⟩
 obtain ⟨n, hnn⟩ : ∃ n, p.n = n := ⟨_, rfl⟩
 obtain ⟨mo, hmm⟩ : ∃ m, p.most = m := ⟨_, rfl⟩
 have HBe := Hi hB
 have HGe := Hi hg
 have HBF0 := Hi h1.buf
 rw [hB] at OP HPUT FIN hBd hPB hBg HBF0
 rw [hg] at HPUT hgd hPg hBg ⊢
 rw [hnn] at OP HPUT FIN hn
 rw [hmm] at OP FIN hn hmo
 clear h h1 hC ht hsz4 hlen hB hg hnn hmm hb
 go_enter Tryz.func168, Tryz.ntmps168
 go_upto_region 1 with (fail)
 clear hd
 generalize World.alloc _ _ = wr at OP O3 CH HBF0 ⊢
 have ld := O3.out.lt
 have k1 := (OP.out.cell 1).trans (show _ = some (J I (n : Int)) from rfl)
 have k2 := (OP.out.cell 2).trans (show _ = some (J I (mo : Int)) from rfl)
 go_quiet (fail)
 go_upto_region 3 with (fail)
 have OP := Hi (OP.out.drewN nq)
 have O3 := Hi (O3.out.drewN nq)
 have CH := Hi (CH.out.drewN nq)
 have HBF0 := Hi (HBF0.out.chg ((Chg.refl (fun _ => False) wr).drewN nq) (fun h => h) (fun h => h))
 have ld2 : d < (wr.drewN nq).heap.size := O3.out.lt
 generalize wr.drewN nq = wv at OP O3 CH HBF0 ld2 ⊢
 clear k1 k2 ld
 obtain ⟨wr, rfl⟩ : ∃ z, z = wv := ⟨_, rfl⟩
 have lPz := OP.out.lt
 refine wp_region_noPanic ?_
 refine wp_region_held_drew (S := fun w' => Chg (fun k => k = g) wr w') (by kernel_rfl) (Chg.refl _ _).drew (fun hHeld => ?_)
 refine za 0 (Y (some ⟨P, 0, none⟩)) rfl hHeld ?_
 refine za 1 (Y (some ⟨P, 0, none⟩)) rfl hHeld ?_
 refine za 2 (Y (some ⟨P, 0, none⟩)) rfl hHeld ?_
 refine zt 3 (Y (some ⟨B, 0, none⟩)) rfl hHeld ?_ (hy := fun w hS => by (have hc : w.cell? ⟨P, 0, none⟩ = some (Y (some ⟨B, 0, none⟩)) := (hS.cell (b := P) (o := 0) (by omega) (by show ¬ _ = g; omega)).trans ((OP.out.cell 0).trans rfl); go_simp))
 refine za 4 (Y (some ⟨P, 0, none⟩)) rfl hHeld ?_
 refine za 5 (Y (some ⟨P, 0, none⟩)) rfl hHeld ?_
 refine za 6 (Y (some ⟨P, 1, none⟩)) rfl hHeld ?_
 refine zt 7 (J I (n : Int)) rfl hHeld ?_ (hy := fun w hS => by (have hc : w.cell? ⟨P, 1, none⟩ = some (J I (n : Int)) := (hS.cell (b := P) (o := 1) (by omega) (by show ¬ _ = g; omega)).trans ((OP.out.cell 1).trans rfl); go_simp))
 refine za 8 (J I (4 * (n : Int))) rfl hHeld ?_
 refine za 9 (Y (some ⟨d, 0, none⟩)) rfl hHeld ?_
 refine zt 10 (J U c0) rfl hHeld ?_ (hy := fun w hS => by (have hc : w.cell? ⟨d, 0, none⟩ = some (J U c0) := (hS.cell (b := d) (o := 0) (by omega) (by show ¬ _ = g; omega)).trans ((O3.out.cell 0).trans rfl); go_simp))
 refine za 11 (Y (some ⟨d, 1, none⟩)) rfl hHeld ?_
 refine zt 12 (J U c1) rfl hHeld ?_ (hy := fun w hS => by (have hc : w.cell? ⟨d, 1, none⟩ = some (J U c1) := (hS.cell (b := d) (o := 1) (by omega) (by show ¬ _ = g; omega)).trans ((O3.out.cell 1).trans rfl); go_simp))
 refine za 13 (Y (some ⟨d, 2, none⟩)) rfl hHeld ?_
 refine zt 14 (J U c2) rfl hHeld ?_ (hy := fun w hS => by (have hc : w.cell? ⟨d, 2, none⟩ = some (J U c2) := (hS.cell (b := d) (o := 2) (by omega) (by show ¬ _ = g; omega)).trans ((O3.out.cell 2).trans rfl); go_simp))
 refine za 15 (Y (some ⟨d, 3, none⟩)) rfl hHeld ?_
 refine zt 16 (J U c3) rfl hHeld ?_ (hy := fun w hS => by (have hc : w.cell? ⟨d, 3, none⟩ = some (J U c3) := (hS.cell (b := d) (o := 3) (by omega) (by show ¬ _ = g; omega)).trans ((O3.out.cell 3).trans rfl); go_simp))
 have hS := (Chg.refl (fun k => k = g) wr).drew
 have hF := (Chg.refl (fun _ => False) wr).drew
 generalize World.drew _ = wk at hS hF ⊢
 refine wpAnyH_ready (rs := [17]) (by kernel_rfl) (by simp) ?_
 refine AllReadyH.cons (o := _) rfl (fun K' hK => ?_) AllReadyH.nil
 go_simp
 have ON := Hi (aA wk #[J U c0, J U c1, J U c2, J U c3] 5)
 have hS := hS.alloc (.cells #[J U c0, J U c1, J U c2, J U c3] 5)
 have hF := hF.alloc (.cells #[J U c0, J U c1, J U c2, J U c3] 5)
 generalize wk.heap.size = pn at ON ⊢
 generalize World.alloc wk _ = wk2 at hS hF ON ⊢
 refine hK _ _ hS (fun hH1 => ?_)
 clear hK K'
 try simp only [Act.put, zq1, zq2, zq3, zq4, zq5, zq6]
 refine wpAnyH_ready (rs := [18]) (by kernel_rfl) (by simp) ?_
 refine AllReadyH.cons (o := _) rfl (fun K' hK => ?_) AllReadyH.nil
 have hcv := HCV.out wk2 pn ON.out
 go_simp
 refine hK _ _ hS (fun hH2 => ?_)
 clear hK K' hcv
 try simp only [Act.put, zq1, zq2, zq3, zq4, zq5, zq6]
 refine wpAnyH_ready (rs := [19]) (by kernel_rfl) (by simp) ?_
 refine AllReadyH.cons (o := _) rfl (fun K' hK => ?_) AllReadyH.nil
 go_simp
 have BF := Hi (HBF0.out.chg hF (fun h => h) (fun h => h))
 refine (HPUT.out _ BF.out).mono ?_
 rintro e5 w5 ⟨rfl, hB5, hC5⟩
 have BF := Hi hB5
 have hS := hS.trans hC5
 go_wp2_with fail
 refine hK _ _ hS (fun hH3 => ?_)
 clear hK K' hB5 hC5
 refine wpAnyH_done (by kernel_rfl) ?_ _
 refine NoPanic.normal ?_
 have OP := Hi (hS.obj OP.out hPg)
 have CH := Hi ((CH.out.mono (S' := fun k => k = P ∨ k = g) (fun _ _ h => h.elim)).trans (hS.mono (fun k _ hk => Or.inr hk)))
 clear hS hF hH1 hH2 hH3
 have k1 := (OP.out.cell 1).trans (show _ = some (J I (n : Int)) from rfl)
 have f1 := OP.out.frozen 1
 go_upto_region 5 with (fail)
 have OP := Hi ((OP.out.set 1 (J I ((n : Int) + 1))).cells (show _ = #[Y (some ⟨B, 0, none⟩), J I ((n : Int) + 1), J I mo] from rfl))
 have BF := Hi (BF.out.chg ((Chg.refl (fun k => k = P) w5).set ⟨P, 1, none⟩ (J I ((n : Int) + 1)) (Or.inl rfl)) (show ¬ B = P from fun e => hPB e.symm) (show ¬ p.b.g = P by have := HGe.out; omega))
 have CH := Hi (CH.out.set ⟨P, 1, none⟩ (J I ((n : Int) + 1)) (Or.inl (Or.inl rfl)))
 generalize World.setCell _ _ _ = w6 at OP BF CH ⊢
 clear k1 f1
 go_wp2_with fail
 go_ret
 have e1 : p.B = B := HBe.out
 subst e1
 exact ⟨rfl, FIN.out _ OP.out BF.out, CH.out⟩
end Go.Proofs.YtfchnibjjokmbaaGreat
